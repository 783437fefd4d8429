/- Small functions of the references and the laws. -/
import Derived.Test.YtiellefbndlkkaaQTail
import Derived.Test.YtiellefbndlkkaaSmall
namespace Go.Proofs.Ytiellefbndlkkaa
open Go.RowKit
set_option linter.unusedVariables false

set_option maxRecDepth 100000 in
theorem copyInts_any (l : List Int) (a : Option Addr) (n c : Nat) (w : World) (h : IntsR w a n l) (hn : n ≤ 100000) :
    Calls Try.prog 59 #[.slice a n c] w fun e' w' => ∃ a' c', e' = .returned (.slice a' n c') ∧ Below w.heap.size w w' ∧ w'.ownsRow w.heap.size 3 1 (.slice a' n c') n (icells l) := by
  have H := Lib.hid h
  clear h
  go_enter Try.func59, Try.ntmps59
  go_wp2_with (at_builtin; refine wpList_append_sl _ rfl _ _ 22 rfl w.heap.size 3 _ 1 8 Try.underlying22 infoInt rfl (by omega) _ _ _ rfl (World.ownsRow_made w #[] 0 (by omega) (by simp [maxLen]) rfl) a n c (icells l) rfl (H.out.below (by (repeat' (first | (with_reducible exact Below.refl _ _) | (with_reducible assumption) | (with_reducible refine Below.drewN ?_ _) | (with_reducible refine Below.alloc ?_ ?_ _) | (with_reducible refine Below.drew ?_) | (with_reducible refine Below.setCell ?_ ?_ _) | (with_reducible refine Below.step (by assumption) ?_ ?_) | (with_reducible exact And.left (by assumption)) | go_size)))) (icells_one _) (by omega) (by omega) (by simp) ?_)
  intro v2 w2 hown2 _ hb2
  try simp only [Nat.zero_add, List.nil_append] at hown2
  obtain ⟨a', c', rfl, _, _⟩ := owns_slice hown2
  have HO := Lib.hid hown2
  have HB := Lib.hid hb2
  clear hown2 hb2
  go_wp2
  go_ret
  exact ⟨a', c', rfl, Below.trans (by (repeat' (first | (with_reducible exact Below.refl _ _) | (with_reducible assumption) | (with_reducible refine Below.drewN ?_ _) | (with_reducible refine Below.alloc ?_ ?_ _) | (with_reducible refine Below.drew ?_) | (with_reducible refine Below.setCell ?_ ?_ _) | (with_reducible refine Below.step (by assumption) ?_ ?_) | (with_reducible exact And.left (by assumption)) | go_size))) HB.out, HO.out⟩

theorem drop_any {p : Int → Bool} (l : List Int) (k : Nat) (h : k < l.length) : (l.drop k).any p = (p (l.getD k 0) || (l.drop (k + 1)).any p) := by
  rw [drop_at l k 0 h]; rfl

set_option maxRecDepth 100000 in
theorem wavesErr_any (l : List Int) (a : Option Addr) (n c : Nat) (w : World) (h : IntsR w a n l) :
    Calls Try.prog 82 #[.slice a n c] w fun e' w' => e' = .returned (.int .i64 (wErr l)) ∧ w = w' := by
  have HL := Lib.hid h
  have hn := h.small
  clear h
  go_enter Try.func82, Try.ntmps82
  go_wp2
  go_loop [3] (fun i => ∃ k : Nat, i = .int .i64 k ∧ k ≤ n ∧ Hid ((l.drop k).any (fun x => !wi x (-1000000) 1000000) = l.any (fun x => !wi x (-1000000) 1000000))) (fun i => n - (intOf i).toNat)
  case atStart => exact ⟨0, rfl, Nat.zero_le _, rfl⟩
  case round =>
    obtain ⟨k, rfl, hk, hF⟩ := hrel
    by_cases hlt : k < n
    · obtain ⟨b, o, rfl, hb, hc⟩ := HL.out.addr (by omega)
      have hck := hc k hlt
      clear hc
      have hF' := hF.out
      rw [drop_any l k (by rw [HL.out.len]; exact hlt)] at hF'
      have HF := Lib.hid hF'; clear hF' hF
      obtain ⟨x, hx⟩ : ∃ x, x = l.getD k 0 := ⟨_, rfl⟩
      rw [← hx] at hck HF
      clear hx
      go_wp2_with fail
      refine (bwithin_any _ _ _ _).mono ?_
      rintro e w' ⟨rfl, rfl⟩
      generalize hg : wi x (-1000000) 1000000 = g at HF
      clear hg
      cases g
      · go_wp2
        go_ret
        exact ⟨ret_int (by have := HF.out; unfold wErr; rw [← this]; rfl), rfl⟩
      · go_wp2
        go_round
        case rel => exact ⟨k + 1, by go_num, by omega, Lib.hid (by simpa using HF.out)⟩
        case measure => simp [intOf]; omega
    · go_wp2
      go_ret
      exact ⟨ret_int (by have := hF.out; unfold wErr; rw [← this, drop_end l k (by rw [HL.out.len]; omega)]; rfl), rfl⟩

set_option maxRecDepth 100000 in
theorem ints_any (l1 l2 : List Int) (a1 a2 : Option Addr) (n1 c1 n2 c2 : Nat) (w : World) (h1 : IntsR w a1 n1 l1) (h2 : IntsR w a2 n2 l2) :
    Calls Try.prog 47 #[.slice a1 n1 c1, .slice a2 n2 c2] w fun e' w' => e' = .returned (.bool (decide (l1 = l2))) ∧ ∃ m, w' = w.drewN m := by
  have H1 := Lib.hid h1
  have H2 := Lib.hid h2
  have hn1 := h1.small
  have hn2 := h2.small
  clear h1 h2
  by_cases hne : n1 = n2
  · subst hne
    have hbb : ((n1 : Int) != (n1 : Int)) = false := by simp
    go_enter Try.func47, Try.ntmps47
    go_wp2
    go_loopw [5] (fun i wr => ∃ k : Nat, i = .int .i64 k ∧ k ≤ n1 ∧ Hid (decide (l1.drop k = l2.drop k) = decide (l1 = l2)) ∧ ∃ m, wr = w.drewN m) (fun i _ => n1 - (intOf i).toNat)
    case atStart => exact ⟨0, rfl, Nat.zero_le _, rfl, 0, rfl⟩
    case round =>
      obtain ⟨k, rfl, hk, hF, m, rfl⟩ := hrel
      by_cases hlt : k < n1
      · obtain ⟨b1, o1, rfl, hb1, hc1⟩ := H1.out.addr (by omega)
        obtain ⟨b2, o2, rfl, hb2, hc2⟩ := H2.out.addr (by omega)
        have hck1 := hc1 k hlt
        have hck2 := hc2 k hlt
        clear hc1 hc2
        have hF' := hF.out
        rw [drop_at l1 k 0 (by rw [H1.out.len]; exact hlt), drop_at l2 k 0 (by rw [H2.out.len]; exact hlt)] at hF'
        obtain ⟨x, hx⟩ : ∃ x, x = l1.getD k 0 := ⟨_, rfl⟩
        obtain ⟨y, hy⟩ : ∃ y, y = l2.getD k 0 := ⟨_, rfl⟩
        rw [← hx] at hck1 hF'
        rw [← hy] at hck2 hF'
        have HF := Lib.hid hF'
        have hk0 : (0 : Int) ≤ (k : Int) := by omega
        have hk1 : (k : Int) < (n1 : Int) := by omega
        clear hx hy hF' hF
        by_cases hxy : x = y
        · subst hxy
          have hbx : (x != x) = false := by simp
          go_wp2
          go_quiet (fail)
          go_wp2
          go_roundw
          case rel => exact ⟨k + 1, by go_num, by omega, Lib.hid (by simpa using HF.out), _, rfl⟩
          case measure => simp [intOf]; omega
        · have hbx : (x != y) = true := by simpa using hxy
          go_wp2
          go_quiet (fail)
          go_wp2
          go_ret
          exact ⟨ret_bool (by rw [← HF.out]; simp [hxy]), _, World.drewN_drewN _ _ _⟩
      · go_wp2
        go_ret
        exact ⟨ret_bool (by rw [← hF.out, drop_end l1 k (by rw [H1.out.len]; omega), drop_end l2 k (by rw [H2.out.len]; omega)]; rfl), m, rfl⟩
  · have hbb : ((n1 : Int) != (n2 : Int)) = true := by simp; omega
    go_enter Try.func47, Try.ntmps47
    go_wp2
    go_ret
    refine ⟨ret_bool ?_, 0, rfl⟩
    have : ¬ l1 = l2 := by intro h; apply hne; rw [← H1.out.len, ← H2.out.len, h]
    simp [this]

set_option maxRecDepth 100000 in
theorem lineErr_any (l : List Int) (a : Option Addr) (n c : Nat) (e : Bool) (w : World) (h : IntsR w a n l) :
    Calls Try.prog 43 #[.agg #[.slice a n c, .bool e]] w fun e' w' => e' = .returned (.int .i64 (lineErr l)) ∧ Below w.heap.size w w' := by
  have HL := Lib.hid h
  have hn := h.small
  have hlen := Lib.hid h.len
  clear h
  by_cases h0 : n = 0
  · subst h0
    go_enter Try.func43, Try.ntmps43
    go_wp2
    go_ret
    exact ⟨ret_int (lineErr_nil hlen.out).symm, by (repeat' (first | (with_reducible exact Below.refl _ _) | (with_reducible assumption) | (with_reducible refine Below.drewN ?_ _) | (with_reducible refine Below.alloc ?_ ?_ _) | (with_reducible refine Below.drew ?_) | (with_reducible refine Below.setCell ?_ ?_ _) | (with_reducible refine Below.step (by assumption) ?_ ?_) | (with_reducible exact And.left (by assumption)) | go_size))⟩
  · by_cases h1 : 10 < n
    · have h0' : ((n : Int) == 0) = false := by simp; omega
      go_enter Try.func43, Try.ntmps43
      go_wp2
      go_ret
      exact ⟨ret_int (lineErr_large (by rw [hlen.out]; exact h1)).symm, by (repeat' (first | (with_reducible exact Below.refl _ _) | (with_reducible assumption) | (with_reducible refine Below.drewN ?_ _) | (with_reducible refine Below.alloc ?_ ?_ _) | (with_reducible refine Below.drew ?_) | (with_reducible refine Below.setCell ?_ ?_ _) | (with_reducible refine Below.step (by assumption) ?_ ?_) | (with_reducible exact And.left (by assumption)) | go_size))⟩
    · have h0' : ((n : Int) == 0) = false := by simp; omega
      have HR := Lib.hid (lineErr_fit (l := l) (by rw [hlen.out]; omega) (by rw [hlen.out]; omega))
      have hgt : decide ((10 : Int) < (n : Int)) = false := by simp; omega
      go_enter Try.func43, Try.ntmps43
      go_wp2
      go_loop [3] (fun i => ∃ k : Nat, i = .int .i64 k ∧ k ≤ n ∧ Hid ((l.drop k).any (fun x => !wi x 1 20) = l.any (fun x => !wi x 1 20))) (fun i => n - (intOf i).toNat)
      case atStart => exact ⟨0, rfl, Nat.zero_le _, rfl⟩
      case round =>
        obtain ⟨k, rfl, hk, hF⟩ := hrel
        by_cases hlt : k < n
        · obtain ⟨b, o, rfl, hb, hc⟩ := HL.out.addr (by omega)
          have hck := hc k hlt
          clear hc
          have hF' := hF.out
          rw [drop_any l k (by rw [HL.out.len]; exact hlt)] at hF'
          have HF := Lib.hid hF'; clear hF' hF
          obtain ⟨x, hx⟩ : ∃ x, x = l.getD k 0 := ⟨_, rfl⟩
          rw [← hx] at hck HF
          clear hx
          go_wp2_with fail
          refine (bwithin_any _ _ _ _).mono ?_
          rintro e w' ⟨rfl, rfl⟩
          generalize hg : wi x 1 20 = g at HF
          clear hg
          cases g
          · go_wp2
            go_ret
            exact ⟨ret_int (by have := HF.out; rw [HR.out, ← this]; rfl), by (repeat' (first | (with_reducible exact Below.refl _ _) | (with_reducible assumption) | (with_reducible refine Below.drewN ?_ _) | (with_reducible refine Below.alloc ?_ ?_ _) | (with_reducible refine Below.drew ?_) | (with_reducible refine Below.setCell ?_ ?_ _) | (with_reducible refine Below.step (by assumption) ?_ ?_) | (with_reducible exact And.left (by assumption)) | go_size))⟩
          · go_wp2
            go_round
            case rel => exact ⟨k + 1, by go_num, by omega, Lib.hid (by simpa using HF.out)⟩
            case measure => simp [intOf]; omega
        · go_wp2
          go_ret
          exact ⟨ret_int (by have := hF.out; rw [HR.out, ← this, drop_end l k (by rw [HL.out.len]; omega)]; rfl), by (repeat' (first | (with_reducible exact Below.refl _ _) | (with_reducible assumption) | (with_reducible refine Below.drewN ?_ _) | (with_reducible refine Below.alloc ?_ ?_ _) | (with_reducible refine Below.drew ?_) | (with_reducible refine Below.setCell ?_ ?_ _) | (with_reducible refine Below.step (by assumption) ?_ ?_) | (with_reducible exact And.left (by assumption)) | go_size))⟩

theorem floor_pos (x y : Int) (w : World) (hx0 : -9000000000000000000 ≤ x) (hx1 : x ≤ 9000000000000000000) (hy : 0 < y) (hy1 : y ≤ 9000000000000000000) :
    Calls Try.prog 128 #[.int .i64 x, .int .i64 y] w fun e' w' => e' = .returned (.int .i64 (x / y)) ∧ w = w' := by
  have hyn : (y == 0) = false := by simp; omega
  have hq := tdiv_bd x y 9000000000000000000 (by omega) (by omega)
  by_cases h0 : 0 ≤ x
  · have e1 : 0 ≤ x / y := Int.ediv_nonneg h0 (by omega)
    have e2 : x.tdiv y = x / y := Int.tdiv_eq_ediv_of_nonneg h0
    rw [e2] at hq
    have e3 : 0 ≤ x % y := Int.emod_nonneg _ (by omega)
    clear e2
    go_enter Try.func128, Try.ntmps128
    go_wp2
    go_ret
    exact ⟨rfl, rfl⟩
  · have h0' : x < 0 := by omega
    have hE := Lib.hid (Int.tdiv_eq_ediv (a := x) (b := y))
    have hM := Lib.hid (Int.tmod_eq_emod (a := x) (b := y))
    by_cases hd : x % y = 0
    · have ht : x.tmod y = 0 := by rw [hM.out]; simp [Int.dvd_of_emod_eq_zero hd]; exact hd
      have ht' : decide (x.tmod y < 0) = false := by simp [ht]
      have HT := Lib.hid ht
      clear ht
      go_enter Try.func128, Try.ntmps128
      go_wp2
      go_ret
      exact ⟨ret_int (by rw [hE.out]; simp [Int.dvd_of_emod_eq_zero hd]), rfl⟩
    · have hnd : ¬ (0 ≤ x ∨ y ∣ x) := by
        rintro (h | h)
        · omega
        · exact hd (Int.emod_eq_zero_of_dvd h)
      have ht : x.tmod y < 0 := by
        rw [hM.out, if_neg hnd]
        have := Int.emod_lt_of_pos x hy
        omega
      have he : x.tdiv y - 1 = x / y := by
        rw [hE.out, if_neg hnd]
        have : y.sign = 1 := Int.sign_eq_one_of_pos hy
        omega
      have HE := Lib.hid he
      clear he
      go_enter Try.func128, Try.ntmps128
      go_wp2
      go_ret
      exact ⟨ret_int HE.out, rfl⟩

theorem toZero_pos (x y : Int) (w : World) (hx0 : -9000000000000000000 ≤ x) (hx1 : x ≤ 9000000000000000000) (hy : 0 < y) (hy1 : y ≤ 9000000000000000000) :
    Calls Try.prog 114 #[.int .i64 x, .int .i64 y] w fun e' w' => e' = .returned (.int .i64 (x.tdiv y)) ∧ w = w' := by
  by_cases h0 : x < 0
  · have hq : 0 ≤ (-x) / y := Int.ediv_nonneg (by omega) (by omega)
    have hq2 : (-x) / y ≤ -x := Int.ediv_le_self _ (by omega)
    have he : -((-x) / y) = x.tdiv y := by
      rw [← Int.tdiv_eq_ediv_of_nonneg (by omega), Int.neg_tdiv, Int.neg_neg]
    have HE := Lib.hid he
    clear he
    go_enter Try.func114, Try.ntmps114
    go_wp2_with (go_at_call 128; refine (floor_pos _ _ _ (by omega) (by omega) (by omega) (by omega)).mono ?_; rintro e w' ⟨rfl, rfl⟩)
    go_ret
    exact ⟨ret_int HE.out, rfl⟩
  · have he : x / y = x.tdiv y := (Int.tdiv_eq_ediv_of_nonneg (by omega)).symm
    have HE := Lib.hid he
    clear he
    go_enter Try.func114, Try.ntmps114
    go_wp2_with (go_at_call 128; refine (floor_pos _ _ _ (by omega) (by omega) (by omega) (by omega)).mono ?_; rintro e w' ⟨rfl, rfl⟩)
    go_ret
    exact ⟨ret_int HE.out, rfl⟩

theorem fewSections_any (a : Option Addr) (n c : Nat) (e : Bool) (w : World) (hn : n ≤ 9223372036854775807) :
    Calls Try.prog 14 #[.agg #[.slice a n c, .bool e]] w fun e' w' => e' = .returned (.bool (decide ((n : Int) ≤ 12))) ∧ Below w.heap.size w w' := by
  go_enter Try.func14, Try.ntmps14
  go_wp2
  go_ret
  exact ⟨rfl, by (repeat' (first | (with_reducible exact Below.refl _ _) | (with_reducible assumption) | (with_reducible refine Below.drewN ?_ _) | (with_reducible refine Below.alloc ?_ ?_ _) | (with_reducible refine Below.drew ?_) | (with_reducible refine Below.setCell ?_ ?_ _) | (with_reducible refine Below.step (by assumption) ?_ ?_) | (with_reducible exact And.left (by assumption)) | go_size))⟩

set_option maxRecDepth 100000 in
theorem rstateErr_any (y f b : List Int) (a a1 a2 : Option Addr) (n c n1 c1 n2 c2 : Nat) (e : Bool) (w : World) (hy : IntsR w a n y) (hf : IntsR w a1 n1 f) (hb : IntsR w a2 n2 b) :
    Calls Try.prog 15 #[.agg #[.slice a n c, .bool e], .agg #[.slice a1 n1 c1, .slice a2 n2 c2]] w fun e' w' => e' = .returned (.int .i64 (stErr y f b)) ∧ Below w.heap.size w w' := by
  have hn := hy.small
  have hn1 := hf.small
  have hn2 := hb.small
  have HCL := Lib.hid (fun (w' : World) (hb' : Below w.heap.size w w') => lineErr_any y a n c e w' (hy.below hb'))
  have HW1 := Lib.hid (fun (w' : World) (hb' : Below w.heap.size w w') => wavesErr_any f a1 n1 c1 w' (hf.below hb'))
  have HW2 := Lib.hid (fun (w' : World) (hb' : Below w.heap.size w w') => wavesErr_any b a2 n2 c2 w' (hb.below hb'))
  have L := Lib.hid (show y.length = n ∧ f.length = n1 ∧ b.length = n2 from ⟨hy.len, hf.len, hb.len⟩)
  clear hy hf hb
  have HE0 := Lib.hid (stErr_line (y := y) (f := f) (b := b))
  have HE1 := Lib.hid (stErr_shape (y := y) (f := f) (b := b))
  have HE2 := Lib.hid (stErr_waves (y := y) (f := f) (b := b))
  rw [L.out.1, L.out.2.1, L.out.2.2] at HE1 HE2
  clear L
  generalize stErr y f b = R at HE0 HE1 HE2
  generalize lineErr y = el at HCL HE0 HE1 HE2
  generalize wErr f = e1 at HW1 HE2
  generalize wErr b = e2 at HW2 HE2
  go_enter Try.func15, Try.ntmps15
  go_wp2_with fail
  refine (HCL.out _ (by (repeat' (first | (with_reducible exact Below.refl _ _) | (with_reducible assumption) | (with_reducible refine Below.drewN ?_ _) | (with_reducible refine Below.alloc ?_ ?_ _) | (with_reducible refine Below.drew ?_) | (with_reducible refine Below.setCell ?_ ?_ _) | (with_reducible refine Below.step (by assumption) ?_ ?_) | (with_reducible exact And.left (by assumption)) | go_size)))).mono ?_
  rintro e5 w1 ⟨rfl, hb1⟩
  have hs1 := hb1.size
  simp only [World.size_alloc] at hs1
  have q2 : w1.cell? ⟨w.heap.size + 1, 0, none⟩ = some (.slice a1 n1 c1) := by rw [cellB hb1 _ _ (by simp)]; go_simp
  have q3 : w1.cell? ⟨w.heap.size + 1, 1, none⟩ = some (.slice a2 n2 c2) := by rw [cellB hb1 _ _ (by simp)]; go_simp
  have q0 : w1.cell? ⟨w.heap.size, 0, none⟩ = some (.slice a n c) := by rw [cellB hb1 _ _ (by simp; omega)]; go_simp
  by_cases h0 : el = 0
  · subst h0
    by_cases hs : n1 = n ∧ n2 = n
    · obtain ⟨rfl, rfl⟩ := hs
      have HR := HE2.out rfl rfl rfl
      clear HE0 HE1 HE2
      have HS1 : Hid (e1 = 0 → R = e2) := fun h => by rw [HR, h]; simp
      have HS2 : Hid (¬ e1 = 0 → R = e1) := fun h => by rw [HR, if_pos h]
      clear HR
      go_wp2_with fail
      refine (HW1.out _ (by (repeat' (first | (with_reducible exact Below.refl _ _) | (with_reducible assumption) | (with_reducible refine Below.drewN ?_ _) | (with_reducible refine Below.alloc ?_ ?_ _) | (with_reducible refine Below.drew ?_) | (with_reducible refine Below.setCell ?_ ?_ _) | (with_reducible refine Below.step (by assumption) ?_ ?_) | (with_reducible exact And.left (by assumption)) | go_size)))).mono ?_
      rintro e6 w2 ⟨rfl, rfl⟩
      by_cases h1 : e1 = 0
      · have HS1' := Lib.hid (HS1.out h1)
        clear HS1 HS2
        subst h1
        go_wp2_with fail
        refine (HW2.out _ (by (repeat' (first | (with_reducible exact Below.refl _ _) | (with_reducible assumption) | (with_reducible refine Below.drewN ?_ _) | (with_reducible refine Below.alloc ?_ ?_ _) | (with_reducible refine Below.drew ?_) | (with_reducible refine Below.setCell ?_ ?_ _) | (with_reducible refine Below.step (by assumption) ?_ ?_) | (with_reducible exact And.left (by assumption)) | go_size)))).mono ?_
        rintro e7 w3 ⟨rfl, rfl⟩
        go_wp2
        go_ret
        exact ⟨ret_int HS1'.out.symm, by (repeat' (first | (with_reducible exact Below.refl _ _) | (with_reducible assumption) | (with_reducible refine Below.drewN ?_ _) | (with_reducible refine Below.alloc ?_ ?_ _) | (with_reducible refine Below.drew ?_) | (with_reducible refine Below.setCell ?_ ?_ _) | (with_reducible refine Below.step (by assumption) ?_ ?_) | (with_reducible exact And.left (by assumption)) | go_size))⟩
      · have h1' : (e1 != 0) = true := by simpa using h1
        have HS1' := Lib.hid (HS2.out h1)
        clear HS1 HS2
        go_wp2
        go_ret
        exact ⟨ret_int HS1'.out.symm, by (repeat' (first | (with_reducible exact Below.refl _ _) | (with_reducible assumption) | (with_reducible refine Below.drewN ?_ _) | (with_reducible refine Below.alloc ?_ ?_ _) | (with_reducible refine Below.drew ?_) | (with_reducible refine Below.setCell ?_ ?_ _) | (with_reducible refine Below.step (by assumption) ?_ ?_) | (with_reducible exact And.left (by assumption)) | go_size))⟩
    · have HR := Lib.hid (HE1.out rfl hs)
      clear HE0 HE1 HE2
      rcases (show ((n1 : Int) != (n : Int)) = true ∨ ((n1 : Int) != (n : Int)) = false ∧ ((n2 : Int) != (n : Int)) = true by
        by_cases h1 : n1 = n
        · right; refine ⟨by simp; omega, by simp; omega⟩
        · left; simp; omega) with g1 | ⟨g1, g2⟩
      all_goals
        clear hs
        go_wp2
        go_ret
        exact ⟨ret_int HR.out.symm, by (repeat' (first | (with_reducible exact Below.refl _ _) | (with_reducible assumption) | (with_reducible refine Below.drewN ?_ _) | (with_reducible refine Below.alloc ?_ ?_ _) | (with_reducible refine Below.drew ?_) | (with_reducible refine Below.setCell ?_ ?_ _) | (with_reducible refine Below.step (by assumption) ?_ ?_) | (with_reducible exact And.left (by assumption)) | go_size))⟩
  · have h1' : (el != 0) = true := by simpa using h0
    have HR := Lib.hid (HE0.out h0)
    clear HE0 HE1 HE2
    go_wp2
    go_ret
    exact ⟨ret_int HR.out.symm, by (repeat' (first | (with_reducible exact Below.refl _ _) | (with_reducible assumption) | (with_reducible refine Below.drewN ?_ _) | (with_reducible refine Below.alloc ?_ ?_ _) | (with_reducible refine Below.drew ?_) | (with_reducible refine Below.setCell ?_ ?_ _) | (with_reducible refine Below.step (by assumption) ?_ ?_) | (with_reducible exact And.left (by assumption)) | go_size))⟩
end Go.Proofs.Ytiellefbndlkkaa
