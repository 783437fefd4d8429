/- The value of an impulse at a time. -/
import Derived.Test.YtiellefbndlkkaaImpulse
namespace Go.Proofs.Ytiellefbndlkkaa
open Go.RowKit
set_option linter.unusedVariables false

theorem checkImpulse_any (l : List (Int × Int)) (a : Option Addr) (n c : Nat) (w : World) (hl : PairsR w a n l) :
    Calls Try.prog 50 #[.agg #[.slice a n c]] w fun e' w' => e' = .returned (.tuple #[.int .i64 (impErr l).1, .int .i64 (impErr l).2]) ∧ Below w.heap.size w w' := by
  have hlen := hl.len
  by_cases h2 : 2 ≤ n
  · by_cases h12 : n ≤ 12
    · have := checkImpulse_main l a n c w hl h2 h12
      rwa [show impScan l n 0 = impErr l by unfold impErr; rw [if_pos (by omega), if_pos (by omega), hlen]] at this
    · have := checkImpulse_short a n c w 8 hl.small (.inr ⟨by omega, rfl⟩)
      rwa [show impErr l = (0, 8) by unfold impErr; rw [if_pos (by omega), if_neg (by omega)]]
  · have := checkImpulse_short a n c w 10 hl.small (.inl ⟨by omega, rfl⟩)
    rwa [show impErr l = (0, 10) by unfold impErr; rw [if_neg (by omega)]]
set_option maxRecDepth 100000 in
theorem open_any (l : List (Int × Int)) (a : Option Addr) (n c : Nat) (w : World) (hl : PairsR w a n l) :
    Calls Try.prog 115 #[.agg #[.slice a n c]] w fun e' w' => e' = .returned (.tuple #[.agg #[.slice a n c], .int .i64 (impErr l).2]) ∧ Below w.heap.size w w' := by
  have HC := Lib.hid (fun (w' : World) (hb : Below w.heap.size w w') => checkImpulse_any l a n c w' (hl.below hb))
  clear hl
  generalize impErr l = E at HC
  obtain ⟨i, E⟩ := E
  go_enter Try.func115, Try.ntmps115
  go_wp2_with fail
  refine (HC.out _ (by (repeat' (first | (with_reducible exact Below.refl _ _) | (with_reducible assumption) | (with_reducible refine Below.drewN ?_ _) | (with_reducible refine Below.alloc ?_ ?_ _) | (with_reducible refine Below.drew ?_) | (with_reducible refine Below.setCell ?_ ?_ _) | (with_reducible refine Below.step (by assumption) ?_ ?_) | (with_reducible exact And.left (by assumption)) | go_size)))).mono ?_
  rintro e5 w5 ⟨rfl, hb5⟩
  have hz5 := hb5.size
  simp only [World.size_alloc] at hz5
  have q0 : w5.cell? ⟨w.heap.size, 0, none⟩ = some (.slice a n c) := by { rw [cellB hb5 _ _ (by first | (simp; done) | (simp; omega) | omega)]; all_goals (first | assumption | go_simp) }; have q1 : w5.cell? ⟨w.heap.size + 1, 0, none⟩ = some (.slice none 0 0) := by { rw [cellB hb5 _ _ (by first | (simp; done) | (simp; omega) | omega)]; all_goals (first | assumption | go_simp) }; have f1 : w5.frozen? ⟨w.heap.size + 1, 0, none⟩ = false := by { rw [frozenB hb5 _ _ (by first | (simp; done) | (simp; omega) | omega)]; all_goals (first | assumption | go_simp) }; have l0 : w.heap.size + 1 < w5.heap.size := by { omega }
  have HB5 := Lib.hid (show Below w.heap.size w w5 by (repeat' (first | (with_reducible exact Below.refl _ _) | (with_reducible assumption) | (with_reducible refine Below.drewN ?_ _) | (with_reducible refine Below.alloc ?_ ?_ _) | (with_reducible refine Below.drew ?_) | (with_reducible refine Below.setCell ?_ ?_ _) | (with_reducible refine Below.step (by assumption) ?_ ?_) | (with_reducible exact And.left (by assumption)) | go_size)))
  clear hb5 HC
  go_wp2
  refine bodyPost_ret (v := .tuple #[.agg #[.slice a n c], .int .i64 E]) (by simp [results, Try.results115, go_sem, q1]) rfl ⟨rfl, ?_⟩
  have := HB5.out
  (repeat' (first | (with_reducible exact Below.refl _ _) | (with_reducible assumption) | (with_reducible refine Below.drewN ?_ _) | (with_reducible refine Below.alloc ?_ ?_ _) | (with_reducible refine Below.drew ?_) | (with_reducible refine Below.setCell ?_ ?_ _) | (with_reducible refine Below.step (by assumption) ?_ ?_) | (with_reducible exact And.left (by assumption)) | go_size))
theorem value1_any (x y t : Int) (B : Nat) (w : World) (hB : B < w.heap.size) (hc : w.cell? ⟨B, 0, none⟩ = some (.int .i64 t)) : Calls Try.prog 148 #[.agg #[.int .i64 x, .int .i64 y], .pointer (some ⟨B, 0, none⟩)] w fun e w' => e = .returned (.bool (decide (t ≤ x))) ∧ Below w.heap.size w w' := by
  go_enter Try.func148, Try.ntmps148
  go_wp2
  go_ret
  exact ⟨rfl, by (repeat' (first | (with_reducible exact Below.refl _ _) | (with_reducible assumption) | (with_reducible refine Below.drewN ?_ _) | (with_reducible refine Below.alloc ?_ ?_ _) | (with_reducible refine Below.drew ?_) | (with_reducible refine Below.setCell ?_ ?_ _) | (with_reducible refine Below.step (by assumption) ?_ ?_) | (with_reducible exact And.left (by assumption)) | go_size))⟩
theorem cf_value1 (args : Array Value) (w : World) : (callFunc 148 args).run Try.prog w = .ok (.enter 148 args) w := by kernel_rfl
set_option maxRecDepth 100000 in
theorem indexPts_any (B : Nat) (t : Int) (l : List (Int × Int)) (a : Option Addr) (n c : Nat) (w : World) (hl : PairsR w a n l) (hB : B < w.heap.size) (hc : w.cell? ⟨B, 0, none⟩ = some (.int .i64 t)) :
    Calls Try.prog 147 #[.slice a n c, .func (.func 148) #[] #[.pointer (some ⟨B, 0, none⟩)]] w fun e' w' => e' = .returned (.int .i64 (idxFrom (fun p => decide (t ≤ p.1)) l 0)) ∧ Below w.heap.size w w' := by
  have HL := Lib.hid hl
  have HCT := Lib.hid hc
  have hn := hl.small
  clear hl hc
  go_enter Try.func147, Try.ntmps147
  go_wp2
  go_loopw [8] (fun i wr => ∃ k : Nat, i = .int .i64 k ∧ k ≤ n ∧ Hid (idxFrom (fun p => decide (t ≤ p.1)) (l.drop k) k = idxFrom (fun p => decide (t ≤ p.1)) l 0) ∧ Hid (Below w.heap.size w wr)) (fun i _ => n - (intOf i).toNat)
  case atStart => exact ⟨0, rfl, Nat.zero_le _, rfl, Lib.hid (Below.refl _ _)⟩
  case round =>
    obtain ⟨k, rfl, hk, hF, hB'⟩ := hrel
    by_cases hlt : k < n
    · obtain ⟨b, o, rfl, hb, hc⟩ := HL.out.addr (by omega)
      have hck := (hc k hlt).1
      have hck2 := (hc k hlt).2
      rw [← cellB hB'.out _ _ hb] at hck hck2
      clear hc
      have hF' := hF.out
      rw [drop_at l k (0, 0) (by rw [HL.out.len]; exact hlt), idxFrom] at hF'
      have HF := Lib.hid hF'; clear hF' hF
      obtain ⟨⟨x, y⟩, hx⟩ : ∃ x, x = l.getD k (0, 0) := ⟨_, rfl⟩
      rw [← hx] at hck hck2 HF
      clear hx
      have i0 : (0 : Int) ≤ (k : Int) := by omega
      have hz := hB'.out.size
      go_wp2_with fail
      refine (value1_any x y t B wr (by omega) (by rw [cellB hB'.out _ _ hB]; exact HCT.out)).mono ?_
      rintro e w' ⟨rfl, hb'⟩
      have HB := Lib.hid (hB'.out.trans (hb'.mono hB'.out.size))
      clear hb' hB'
      by_cases hx : t ≤ x
      · rw [if_pos (by simpa using hx)] at HF
        have hx' : decide (t ≤ x) = true := by simpa using hx
        rw [hx']
        go_wp2
        go_ret
        exact ⟨ret_int HF.out, HB.out⟩
      · rw [if_neg (by simpa using hx)] at HF
        have hx' : decide (t ≤ x) = false := by simpa using hx
        rw [hx']
        clear hx hx'
        go_wp2
        go_roundw
        case rel => exact ⟨k + 1, by go_num, by omega, HF, HB⟩
        case measure => simp [intOf]; omega
    · go_wp2
      go_ret
      exact ⟨ret_int (by rw [← hF.out, drop_end l k (by rw [HL.out.len]; omega)]; rfl), hB'.out⟩

theorem idxFrom_lt {α : Type} (p : α → Bool) : ∀ (l : List α) (k : Nat), idxFrom p l k = -1 ∨ ∃ m : Nat, idxFrom p l k = ((k + m : Nat) : Int) ∧ m < l.length
  | [], k => .inl rfl
  | x :: r, k => by
    simp only [idxFrom]
    by_cases h : p x = true
    · exact .inr ⟨0, by rw [if_pos h]; rfl, by simp⟩
    · rw [if_neg h]
      rcases idxFrom_lt p r (k + 1) with h1 | ⟨m, h1, h2⟩
      · exact .inl h1
      · exact .inr ⟨m + 1, by rw [h1]; congr 1; omega, by simp; omega⟩
/-- The value of an impulse at a time: a numerator and a denominator. -/
def idxT (l : List (Int × Int)) (t : Int) : Int := idxFrom (fun p => decide (t ≤ p.1)) l 0
def valAt (l : List (Int × Int)) (t : Int) : Nat → Int × Int
  | 0 => if (gp l 0).1 = t then ((gp l 0).2, 1) else (0, 1)
  | j + 1 => if (gp l (j + 1)).1 = t then ((gp l (j + 1)).2, 1) else ((gp l j).2 * ((gp l (j + 1)).1 - t) + (gp l (j + 1)).2 * (t - (gp l j).1), (gp l (j + 1)).1 - (gp l j).1)
def valOf (l : List (Int × Int)) (t : Int) : Int × Int :=
  if idxT l t = -1 then ((gp l (l.length - 1)).2, 1) else valAt l t (idxT l t).toNat
theorem gp_mem {l : List (Int × Int)} {k : Nat} (h : k < l.length) : gp l k ∈ l := by simp [gp, List.getD, h]
set_option maxRecDepth 100000 in
theorem end_any (l : List (Int × Int)) (a : Option Addr) (n c : Nat) (w : World) (hl : PairsR w a n l) (h0 : 0 < n) :
    Calls Try.prog 125 #[.agg #[.slice a n c]] w fun e' w' => e' = .returned (.agg #[.int .i64 (gp l (n - 1)).1, .int .i64 (gp l (n - 1)).2]) ∧ Below w.heap.size w w' := by
  obtain ⟨m, rfl⟩ : ∃ m, n = m + 1 := ⟨n - 1, by omega⟩
  have hn := hl.small
  obtain ⟨b0, o0, rfl, hb0, hc0⟩ := hl.addr h0
  have hc := hc0 m (by omega)
  have cx := hc.1
  have cy := hc.2
  rw [Nat.add_sub_cancel]
  clear hl hc0 hc
  obtain ⟨x, hx⟩ : ∃ x, x = (gp l m).1 := ⟨_, rfl⟩
  obtain ⟨y, hy⟩ : ∃ y, y = (gp l m).2 := ⟨_, rfl⟩
  rw [← hx] at cx
  rw [← hy] at cy
  rw [← hx, ← hy]
  clear hx hy
  have i0 : (0 : Int) ≤ (m : Int) := by omega
  go_enter Try.func125, Try.ntmps125
  go_wp2
  refine bodyPost_ret (v := .agg #[.int .i64 x, .int .i64 y]) (by simp [results, Try.results125, go_sem]) rfl ⟨rfl, ?_⟩
  (repeat' (first | (with_reducible exact Below.refl _ _) | (with_reducible assumption) | (with_reducible refine Below.drewN ?_ _) | (with_reducible refine Below.alloc ?_ ?_ _) | (with_reducible refine Below.drew ?_) | (with_reducible refine Below.setCell ?_ ?_ _) | (with_reducible refine Below.step (by assumption) ?_ ?_) | (with_reducible exact And.left (by assumption)) | go_size))
theorem field1 (x y : Int) (w : World) : (Instr.field 126 (.agg #[.int .i64 x, .int .i64 y]) 1).run Try.prog w = .ok (.int .i64 y) w := by kernel_rfl
set_option maxHeartbeats 1000000 in
set_option maxRecDepth 100000 in
theorem value_any (l : List (Int × Int)) (t : Int) (a : Option Addr) (n c : Nat) (w : World) (hl : PairsR w a n l) (h2 : 2 ≤ n) (bl : ∀ p ∈ l, 0 ≤ p.1 ∧ p.1 ≤ 1000000 ∧ -1000000 ≤ p.2 ∧ p.2 ≤ 1000000) (t0 : 0 ≤ t) (t1 : t ≤ 1000000) :
    Calls Try.prog 116 #[.agg #[.slice a n c], .int .i64 t] w fun e' w' => e' = .returned (.tuple #[.int .i64 (valOf l t).1, .int .i64 (valOf l t).2]) ∧ Below w.heap.size w w' := by
  have hn := hl.small
  have HI := Lib.hid (fun (w' : World) (hb : Below w.heap.size w w') (h1 : w.heap.size + 1 < w'.heap.size) h2 => indexPts_any (w.heap.size + 1) t l a n c w' (hl.below hb) h1 h2)
  have HEN := Lib.hid (fun (w' : World) (hb : Below w.heap.size w w') => end_any l a n c w' (hl.below hb) (by omega))
  have hlen := hl.len
  have hix := idxFrom_lt (fun p => decide (t ≤ p.1)) l 0
  have HV := Lib.hid (show valOf l t = if idxT l t = -1 then ((gp l (n - 1)).2, 1) else valAt l t (idxT l t).toNat by rw [← hlen]; rfl)
  unfold idxT at HV
  obtain ⟨b0, o0, rfl, hb0, hc0⟩ := hl.addr (by omega)
  have HC := Lib.hid hc0
  have HBL := Lib.hid (fun k (hk : k < n) => bl _ (gp_mem (l := l) (k := k) (by omega)))
  generalize idxFrom (fun p => decide (t ≤ p.1)) l 0 = I at *
  rw [hlen] at hix
  clear hl hc0 hlen bl
  rcases hix with rfl | ⟨m, rfl, hm⟩
  · obtain ⟨P1, hP1⟩ : ∃ P1, P1 = (gp l (n - 1)).1 := ⟨_, rfl⟩
    obtain ⟨P2, hP2⟩ : ∃ P2, P2 = (gp l (n - 1)).2 := ⟨_, rfl⟩
    rw [← hP1, ← hP2] at HEN
    have HP2 := Lib.hid hP2
    have HV' := Lib.hid (show valOf l t = ((gp l (n - 1)).2, 1) by rw [HV.out, if_pos rfl])
    clear hP1 hP2 HV
    have HV := HV'
    go_enter Try.func116, Try.ntmps116
    go_wp2_with fail
    refine (HI.out _ (by (repeat' (first | (with_reducible exact Below.refl _ _) | (with_reducible assumption) | (with_reducible refine Below.drewN ?_ _) | (with_reducible refine Below.alloc ?_ ?_ _) | (with_reducible refine Below.drew ?_) | (with_reducible refine Below.setCell ?_ ?_ _) | (with_reducible refine Below.step (by assumption) ?_ ?_) | (with_reducible exact And.left (by assumption)) | go_size))) (by simp) (by go_simp)).mono ?_
    rintro e5 w5 ⟨rfl, hb5⟩
    have hz5 := hb5.size
    simp only [World.size_alloc] at hz5
    have q0 : w5.cell? ⟨w.heap.size, 0, none⟩ = some (.slice (some ⟨b0, o0, none⟩) n c) := by { rw [cellB hb5 _ _ (by first | (simp; done) | (simp; omega) | omega)]; all_goals (first | assumption | go_simp) }; have q1 : w5.cell? ⟨w.heap.size + 1, 0, none⟩ = some (.int .i64 t) := by { rw [cellB hb5 _ _ (by first | (simp; done) | (simp; omega) | omega)]; all_goals (first | assumption | go_simp) }; have l0 : w.heap.size < w5.heap.size := by { omega }; have l1 : w.heap.size + 1 < w5.heap.size := by { omega }
    have HB5 := Lib.hid (show Below w.heap.size w w5 by (repeat' (first | (with_reducible exact Below.refl _ _) | (with_reducible assumption) | (with_reducible refine Below.drewN ?_ _) | (with_reducible refine Below.alloc ?_ ?_ _) | (with_reducible refine Below.drew ?_) | (with_reducible refine Below.setCell ?_ ?_ _) | (with_reducible refine Below.step (by assumption) ?_ ?_) | (with_reducible exact And.left (by assumption)) | go_size)))
    clear hb5 HI
    go_wp2_with fail
    refine (HEN.out _ HB5.out).mono ?_
    rintro e6 w6 ⟨rfl, hb6⟩
    have HB6 := Lib.hid (HB5.out.trans (hb6.mono HB5.out.size))
    clear hb6
    have hfd := field1 P1 P2
    go_wp2
    go_ret2
    refine ⟨?_, HB6.out⟩
    rw [HV.out, ← HP2.out]
    rfl
  · simp only [Nat.zero_add] at *
    have hxy := HC.out m hm
    have hbd := HBL.out m hm
    obtain ⟨x, hx⟩ : ∃ x, x = (gp l m).1 := ⟨_, rfl⟩
    obtain ⟨y, hy⟩ : ∃ y, y = (gp l m).2 := ⟨_, rfl⟩
    rw [← hx, ← hy] at hxy hbd
    have HX := Lib.hid hx
    have HY := Lib.hid hy
    clear hx hy HEN
    have i0 : (0 : Int) ≤ (m : Int) := by omega
    have i1 : (m : Int) < (n : Int) := by omega
    have i2 : ¬ ((m : Int) < 0) := by omega
    go_enter Try.func116, Try.ntmps116
    go_wp2_with fail
    refine (HI.out _ (by (repeat' (first | (with_reducible exact Below.refl _ _) | (with_reducible assumption) | (with_reducible refine Below.drewN ?_ _) | (with_reducible refine Below.alloc ?_ ?_ _) | (with_reducible refine Below.drew ?_) | (with_reducible refine Below.setCell ?_ ?_ _) | (with_reducible refine Below.step (by assumption) ?_ ?_) | (with_reducible exact And.left (by assumption)) | go_size))) (by simp) (by go_simp)).mono ?_
    rintro e5 w5 ⟨rfl, hb5⟩
    have hz5 := hb5.size
    simp only [World.size_alloc] at hz5
    have q0 : w5.cell? ⟨w.heap.size, 0, none⟩ = some (.slice (some ⟨b0, o0, none⟩) n c) := by { rw [cellB hb5 _ _ (by first | (simp; done) | (simp; omega) | omega)]; all_goals (first | assumption | go_simp) }; have q1 : w5.cell? ⟨w.heap.size + 1, 0, none⟩ = some (.int .i64 t) := by { rw [cellB hb5 _ _ (by first | (simp; done) | (simp; omega) | omega)]; all_goals (first | assumption | go_simp) }; have l0 : w.heap.size < w5.heap.size := by { omega }; have l1 : w.heap.size + 1 < w5.heap.size := by { omega }
    have hb5' : Below w.heap.size w w5 := by (repeat' (first | (with_reducible exact Below.refl _ _) | (with_reducible assumption) | (with_reducible refine Below.drewN ?_ _) | (with_reducible refine Below.alloc ?_ ?_ _) | (with_reducible refine Below.drew ?_) | (with_reducible refine Below.setCell ?_ ?_ _) | (with_reducible refine Below.step (by assumption) ?_ ?_) | (with_reducible exact And.left (by assumption)) | go_size))
    have HB5 := Lib.hid hb5'
    rw [← cellB hb5' _ _ hb0, ← cellB hb5' _ _ hb0] at hxy
    have cx := hxy.1
    have cy := hxy.2
    have hbl5 : b0 < w5.heap.size := by omega
    clear hb5 HI hb5' hxy
    by_cases hxt : x = t
    · have hxt' : (x == t) = true := by simpa using hxt
      have HR := Lib.hid (show valOf l t = (y, 1) by
        rw [HV.out, if_neg (by omega), Int.toNat_natCast]
        rcases m with _ | j
        · rw [valAt, if_pos (by rw [← HX.out]; exact hxt), HY.out]
        · rw [valAt, if_pos (by rw [← HX.out]; exact hxt), HY.out])
      clear hxt HV
      go_wp2
      go_quiet (fail)
      go_wp2
      go_ret2
      refine ⟨?_, ?_⟩
      · rw [HR.out]; rfl
      · have := HB5.out; (repeat' (first | (with_reducible exact Below.refl _ _) | (with_reducible assumption) | (with_reducible refine Below.drewN ?_ _) | (with_reducible refine Below.alloc ?_ ?_ _) | (with_reducible refine Below.drew ?_) | (with_reducible refine Below.setCell ?_ ?_ _) | (with_reducible refine Below.step (by assumption) ?_ ?_) | (with_reducible exact And.left (by assumption)) | go_size))
    · have hxt' : (x == t) = false := by simpa using hxt
      rcases m with _ | j
      · have HR := Lib.hid (show valOf l t = (0, 1) by
          rw [HV.out, if_neg (by omega), Int.toNat_natCast, valAt, if_neg (by rw [← HX.out]; exact hxt)])
        simp only [Nat.zero_mul, Nat.add_zero] at cx cy
        clear hxt HV
        go_wp2
        go_quiet (fail)
        go_wp2
        go_ret2
        refine ⟨?_, ?_⟩
        · rw [HR.out]; rfl
        · have := HB5.out; (repeat' (first | (with_reducible exact Below.refl _ _) | (with_reducible assumption) | (with_reducible refine Below.drewN ?_ _) | (with_reducible refine Below.alloc ?_ ?_ _) | (with_reducible refine Below.drew ?_) | (with_reducible refine Below.setCell ?_ ?_ _) | (with_reducible refine Below.step (by assumption) ?_ ?_) | (with_reducible exact And.left (by assumption)) | go_size))
      · have hpq := HC.out j (by omega)
        have hbp := HBL.out j (by omega)
        obtain ⟨p, hp⟩ : ∃ p, p = (gp l j).1 := ⟨_, rfl⟩
        obtain ⟨q, hq⟩ : ∃ q, q = (gp l j).2 := ⟨_, rfl⟩
        rw [← hp, ← hq] at hpq hbp
        rw [← cellB HB5.out _ _ hb0, ← cellB HB5.out _ _ hb0] at hpq
        have cp := hpq.1
        have cq := hpq.2
        have HR := Lib.hid (show valOf l t = (q * (x - t) + y * (t - p), x - p) by
          rw [HV.out, if_neg (by omega), Int.toNat_natCast, valAt, if_neg (by rw [← HX.out]; exact hxt), ← HX.out, ← HY.out, hp, hq])
        have b1 := mulb (a := q) (b := x - t) 1000000 1000000 1000000000000 (by omega) (by omega) (by omega) (by omega) (by omega)
        have b2 := mulb (a := y) (b := t - p) 1000000 1000000 1000000000000 (by omega) (by omega) (by omega) (by omega) (by omega)
        have hj0 : ((j : Int) + 1 == 0) = false := by simp; omega
        clear hxt HV hpq hp hq
        go_wp2
        go_quiet (fail)
        go_wp2
        generalize hW : w5.drewN _ = w6
        have hb6 : Below w5.heap.size w5 w6 := by rw [← hW]; (repeat' (first | (with_reducible exact Below.refl _ _) | (with_reducible assumption) | (with_reducible refine Below.drewN ?_ _) | (with_reducible refine Below.alloc ?_ ?_ _) | (with_reducible refine Below.drew ?_) | (with_reducible refine Below.setCell ?_ ?_ _) | (with_reducible refine Below.step (by assumption) ?_ ?_) | (with_reducible exact And.left (by assumption)) | go_size))
        have hz6 := hb6.size
        have i3 : (0 : Int) ≤ (j : Int) := by omega
        have i4 : (j : Int) < (n : Int) := by omega
        have i5 : (j : Int) ≤ 9223372036854775807 := by omega
        have q0' : w6.cell? ⟨w.heap.size, 0, none⟩ = some (.slice (some ⟨b0, o0, none⟩) n c) := by { rw [cellB hb6 _ _ (by first | (simp; done) | (simp; omega) | omega)]; all_goals (first | assumption | go_simp) }; have q1' : w6.cell? ⟨w.heap.size + 1, 0, none⟩ = some (.int .i64 t) := by { rw [cellB hb6 _ _ (by first | (simp; done) | (simp; omega) | omega)]; all_goals (first | assumption | go_simp) }; have l0' : w.heap.size < w6.heap.size := by { omega }; have l1' : w.heap.size + 1 < w6.heap.size := by { omega }; have cx' : w6.cell? ⟨b0, o0 + (j + 1) * 2, none⟩ = some (.int .i64 x) := by { rw [cellB hb6 _ _ (by first | (simp; done) | (simp; omega) | omega)]; all_goals (first | assumption | go_simp) }; have cy' : w6.cell? ⟨b0, o0 + (j + 1) * 2 + 1, none⟩ = some (.int .i64 y) := by { rw [cellB hb6 _ _ (by first | (simp; done) | (simp; omega) | omega)]; all_goals (first | assumption | go_simp) }; have cp' : w6.cell? ⟨b0, o0 + j * 2, none⟩ = some (.int .i64 p) := by { rw [cellB hb6 _ _ (by first | (simp; done) | (simp; omega) | omega)]; all_goals (first | assumption | go_simp) }; have cq' : w6.cell? ⟨b0, o0 + j * 2 + 1, none⟩ = some (.int .i64 q) := by { rw [cellB hb6 _ _ (by first | (simp; done) | (simp; omega) | omega)]; all_goals (first | assumption | go_simp) }
        have hbl6 : b0 < w6.heap.size := by omega
        have HB6 := Lib.hid (HB5.out.trans (hb6.mono HB5.out.size))
        clear hW hb6 q0 q1 l0 l1 cx cy cp cq HB5
        go_region
        all_goals
          go_wp2
          go_quiet (fail)
          go_wp2
          go_ret2
          refine ⟨?_, ?_⟩
          · rw [HR.out]; rfl
          · have := HB6.out; (repeat' (first | (with_reducible exact Below.refl _ _) | (with_reducible assumption) | (with_reducible refine Below.drewN ?_ _) | (with_reducible refine Below.alloc ?_ ?_ _) | (with_reducible refine Below.drew ?_) | (with_reducible refine Below.setCell ?_ ?_ _) | (with_reducible refine Below.step (by assumption) ?_ ?_) | (with_reducible exact And.left (by assumption)) | go_size))
end Go.Proofs.Ytiellefbndlkkaa
