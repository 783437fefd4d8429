import Derived.Deep.AppendLies
import Derived.Deep.CutRange
import Derived.Test.YtdklmcicogmeaaaGreatMDSubs
import Derived.Test.YtdklmcicogmeaaaGreatMLib
import Derived.Test.YtdklmcicogmeaaaGreatMPlain0
import Derived.Test.YtdklmcicogmeaaaGreatMQTail
/- Cells from a block on are kept; slices.Clone at integers; the frame of the iterator of subsets. -/
namespace Go.Proofs.YtdklmcicogmeaaaGreat
open Go.RowKit
set_option linter.unusedVariables false

theorem keepF_refl (B : Nat) (A : World) : KeepF B A A := fun _ _ _ _ _ h => h
theorem keepF_trans {B : Nat} {a b c : World} (h1 : KeepF B a b) (h2 : KeepF B b c) : KeepF B a c := fun k cs t z hk h => h2 k cs t z hk (h1 k cs t z hk h)
theorem keepF_below {B : Nat} {a b : World} (h : Below a.heap.size a b) : KeepF B a b := fun k cs t z _ hc => by
  rw [h.block k (Array.getElem?_eq_some_iff.1 hc).1]; exact hc
theorem owns_keep {B : Nat} {A A' : World} {e : TypeId} {sz n : Nat} {v : Value} {xs : List Value} (h : A.ownsRow B e sz v n xs) (hk : KeepF B A A') : A'.ownsRow B e sz v n xs := by
  refine ⟨h.1, ?_⟩
  rcases h.2 with hn | ⟨g, cap, cur, rfl, hbase, hgg, rest⟩
  · exact .inl hn
  · exact .inr ⟨g, cap, cur, rfl, hbase, hk _ _ _ _ hbase hgg, rest⟩
set_option maxRecDepth 100000 in
theorem cloneInts_any (l : List Int) (B : Nat) (a : Option Addr) (n c : Nat) (w : World) (h : w.ownsRow B 3 1 (.slice a n c) n (icells l)) (hn : n ≤ 100000) :
    Calls Tryz.prog 137 #[.slice a n c] w fun e' w' => ∃ a' c', e' = .returned (.slice a' n c') ∧ Below w.heap.size w w' ∧ w'.ownsRow w.heap.size 3 1 (.slice a' n c') n (icells l) := by
  have H := Lib.hid (show IntsR w a n l from SlR.of_owns h)
  rcases h.2 with ⟨hv, h0⟩ | ⟨g, cap, cur, hv, _, _, _, _, _, _⟩
  · cases hv
    have qT : ∀ (w : World), (binOp .eql 27 (.slice none 0 0) (.slice none 0 0)).run Tryz.prog w = .ok (.bool true) w := fun w => by first | exact Lib.run_eql_slice_nil w _ _ _ _ _ _ _ Tryz.underlying27 | exact Go.run_eql_slice_nil w _ _ _ _ _ _ _ Tryz.underlying27 | kernel_rfl
    have hl : l = [] := by have := H.out.len; exact List.eq_nil_of_length_eq_zero this
    subst hl
    clear h H
    go_enter Tryz.func137, Tryz.ntmps137
    go_wp2
    go_ret
    exact ⟨none, 0, rfl, by (repeat' (first | (with_reducible exact Below.refl _ _) | (with_reducible assumption) | (with_reducible refine Below.drewN ?_ _) | (with_reducible refine Below.alloc ?_ ?_ _) | (with_reducible refine Below.drew ?_) | (with_reducible refine Below.setCell ?_ ?_ _) | (with_reducible refine Below.step (by assumption) ?_ ?_) | (with_reducible exact And.left (by assumption)) | go_size)), World.ownsRow_nil _ _ _ _⟩
  · cases hv
    have qT : ∀ (w : World), (binOp .eql 27 (.slice (some ⟨g, 0, none⟩) n c) (.slice none 0 0)).run Tryz.prog w = .ok (.bool false) w := fun w => by first | exact Lib.run_eql_slice_nil w _ _ _ _ _ _ _ Tryz.underlying27 | exact Go.run_eql_slice_nil w _ _ _ _ _ _ _ Tryz.underlying27 | kernel_rfl
    clear h
    go_enter Tryz.func137, Tryz.ntmps137
    go_wp2_with (at_builtin; refine wpList_append_sl _ rfl _ _ 27 rfl w.heap.size 3 _ 1 8 Tryz.underlying27 infoInt rfl (by omega) _ _ _ rfl (World.ownsRow_made w #[] 0 (by omega) (by simp [maxLen]) rfl) _ n c (icells l) rfl (H.out.below (by (repeat' (first | (with_reducible exact Below.refl _ _) | (with_reducible assumption) | (with_reducible refine Below.drewN ?_ _) | (with_reducible refine Below.alloc ?_ ?_ _) | (with_reducible refine Below.drew ?_) | (with_reducible refine Below.setCell ?_ ?_ _) | (with_reducible refine Below.step (by assumption) ?_ ?_) | (with_reducible exact And.left (by assumption)) | go_size)))) (icells_one _) (by omega) (by omega) (by simp) ?_)
    intro v2 w2 hown2 _ hb2
    try simp only [Nat.zero_add, List.nil_append] at hown2
    obtain ⟨a', c', rfl, _, _⟩ := owns_slice hown2
    have HO := Lib.hid hown2
    have HB := Lib.hid hb2
    clear hown2 hb2
    go_wp2
    go_ret
    exact ⟨a', c', rfl, Below.trans (by (repeat' (first | (with_reducible exact Below.refl _ _) | (with_reducible assumption) | (with_reducible refine Below.drewN ?_ _) | (with_reducible refine Below.alloc ?_ ?_ _) | (with_reducible refine Below.drew ?_) | (with_reducible refine Below.setCell ?_ ?_ _) | (with_reducible refine Below.step (by assumption) ?_ ?_) | (with_reducible exact And.left (by assumption)) | go_size))) HB.out, HO.out⟩
end Go.Proofs.YtdklmcicogmeaaaGreat

/- The iterator of subsets: its recursive function. -/
namespace Go.Proofs.YtdklmcicogmeaaaGreat
open Go.RowKit Go.Shelf
set_option linter.unusedVariables false
attribute [local go_sem] Oper.semAt_some

/-- The blocks of integers from B on are kept. -/
def KeepI (B : Nat) (A A' : World) : Prop := ∀ k c z, B ≤ k → A.heap[k]? = some (.cells c 3 z) → A'.heap[k]? = some (.cells c 3 z)
theorem keepI_refl (B : Nat) (A : World) : KeepI B A A := fun _ _ _ _ h => h
theorem keepI_trans {B : Nat} {a b c : World} (h1 : KeepI B a b) (h2 : KeepI B b c) : KeepI B a c := fun k cs z hk h => h2 k cs z hk (h1 k cs z hk h)
theorem keepI_below {B : Nat} {a b : World} (h : Below a.heap.size a b) : KeepI B a b := fun k cs z _ hc => by
  rw [h.block k (Array.getElem?_eq_some_iff.1 hc).1]; exact hc
theorem owns_keepI {B : Nat} {A A' : World} {sz n : Nat} {v : Value} {xs : List Value} (h : A.ownsRow B 3 sz v n xs) (hk : KeepI B A A') : A'.ownsRow B 3 sz v n xs := by
  refine ⟨h.1, ?_⟩
  rcases h.2 with hn | ⟨g, cap, cur, rfl, hbase, hgg, rest⟩
  · exact .inl hn
  · exact .inr ⟨g, cap, cur, rfl, hbase, hk _ _ _ hbase hgg, rest⟩
def nats (l : List Nat) : List Int := l.map (fun (x : Nat) => (x : Int))
def extX (c d f t : Nat) : List (List Nat) := (List.range' f t).flatMap fun n => (ext c d (n + 1)).map (n :: ·)
theorem extX_succ (c d f t : Nat) : extX c d f (t + 1) = extX c d f t ++ (ext c d (f + t + 1)).map ((f + t) :: ·) := by
  unfold extX
  rw [List.range'_1_concat, List.flatMap_append]
  simp
theorem extX_map (c d f t : Nat) (C : List Nat) : (extX c d f (t + 1)).map (C ++ ·) = (extX c d f t).map (C ++ ·) ++ (ext c d (f + t + 1)).map ((C ++ [f + t]) ++ ·) := by
  rw [extX_succ, List.map_append, List.map_map]
  congr 1
  apply List.map_congr_left
  intro x _
  simp
theorem extX_pre {c d f t : Nat} (h : t ≤ c - f) : extX c d f t <+: ext c (d + 1) f := by
  show extX c d f t <+: extX c d f (c - f)
  have : ∀ j, extX c d f t <+: extX c d f (t + j) := fun j => by
    induction j with
    | zero => exact List.prefix_refl _
    | succ j ih => rw [← Nat.add_assoc, extX_succ]; exact ih.trans (List.prefix_append _ _)
  have h2 := this (c - f - t)
  rwa [show t + (c - f - t) = c - f by omega] at h2
theorem pre_map {a b L T : List (List Nat)} {g : List Nat → List Nat} (h : a <+: b) (hT : (L ++ b.map g) <+: T) : (L ++ a.map g) <+: T := by
  obtain ⟨r, rfl⟩ := h
  refine List.IsPrefix.trans ?_ hT
  rw [List.map_append, ← List.append_assoc]
  exact List.prefix_append _ _
set_option maxHeartbeats 4000000 in
set_option maxRecDepth 100000 in
theorem extended_calls (T : List (List Nat)) (lr c k B0 : Nat) (J : List (List Nat) → World → Prop) (Jx : World → Prop) (hc : c ≤ 1000) (hk : k ≤ 1000)
    (hJ : ∀ L A B, J L A → Below A.heap.size A B → J L B) (hZ : ∀ L A, J L A → B0 ≤ A.heap.size)
    (hY : ∀ L S a cap A, (L ++ [S]) <+: T → J L A → S.length = k → (∀ x ∈ S, x < c) → A.ownsRow B0 3 1 (.slice a k cap) k (icells (nats S)) → YieldAt Fence.wide 1 Tryz.prog lr #[.slice a k cap] A (fun e B => (e = .returned (.bool true) ∧ J (L ++ [S]) B ∧ KeepI B0 A B) ∨ (e = .returned (.bool false) ∧ Jx B))) :
    ∀ (d : Nat) (C : List Nat) (f n : Nat) (fi : Int) (L : List (List Nat)) (a : Option Addr) (cap : Nat) (A : World), fi = (f : Int) → C.length = n → n + d = k → f ≤ 2000 → (∀ x ∈ C, x < c) → A.ownsRow B0 3 1 (.slice a n cap) n (icells (nats C)) → J L A → (L ++ (ext c d f).map (C ++ ·)) <+: T →
    Calls Tryz.prog 115 #[.slice a n cap, .int .i64 fi, .int .i64 c, .int .i64 k, .func (.yield lr) #[] #[]] A (fun e B => (e = .returned (.bool true) ∧ J (L ++ (ext c d f).map (C ++ ·)) B ∧ KeepI B0 A B) ∨ (e = .returned (.bool false) ∧ Jx B)) := by
  have HJ := Lib.hid hJ
  have HY := Lib.hid hY
  have HZ := Lib.hid hZ
  clear hJ hY hZ
  intro d
  induction d with
  | zero =>
    intro C f n fi L a cap A hfi hn hnd hf hC hO hL hT
    subst hfi
    obtain rfl : n = k := by omega
    obtain ⟨fn, tmps, assign, body, hy, hR⟩ := HY.out L C a cap A (by simpa [ext] using hT) hL hn hC hO
    clear hT
    have hkk : ((n : Int) == (n : Int)) = true := by simp
    clear hO hL
    go_enter Tryz.func115, Tryz.ntmps115
    go_upto_region 2 with (fail)
    go_cut [18, 10] from 16 to 19 (fun v18 v10 wx => (v10 = .bool true ∧ J (L ++ [C]) wx ∧ KeepI B0 A wx) ∨ (v10 = .bool false ∧ Jx wx))
    case first =>
      refine (wpIn_wide (n := 2)).1 ?_
      gi_wp2
      refine hR.mono ?_
      rintro e W' (⟨rfl, hJ2, hK2⟩ | ⟨rfl, hJx⟩)
      · gi_wp2
        go_meet
        exact .inl ⟨rfl, hJ2, hK2⟩
      · gi_wp2
        go_meet
        exact .inr ⟨rfl, hJx⟩
    case rest =>
      rcases hcut with ⟨rfl, hJ2, hK2⟩ | ⟨rfl, hJ2⟩
      · go_wp2
        go_ret
        exact .inl ⟨rfl, by simpa [ext] using hJ2, hK2⟩
      · go_wp2
        go_ret
        exact .inr ⟨rfl, hJ2⟩
  | succ d ih =>
    intro C f n fi L a cap A hfi hn hnd hf hC hO hL hT
    have HPR := Lib.hid hT
    clear hT
    subst hfi
    have hne : ((n : Int) == (k : Int)) = false := by simp; omega
    have IH := Lib.hid ih
    have HO := Lib.hid hO
    clear ih hO
    go_enter Tryz.func115, Tryz.ntmps115
    go_wp2_with fail
    go_loopw [11] (fun v wr => ∃ p t : Nat, v = .int .i64 (p : Int) ∧ p = f + t ∧ (t = 0 ∨ p ≤ c) ∧ J (L ++ (extX c d f t).map (C ++ ·)) wr ∧ KeepI B0 A wr) (fun v _ => c - (intOf v).toNat)
    case atStart => exact ⟨f, 0, rfl, rfl, .inl rfl, by simpa [extX] using hL, keepI_refl _ _⟩
    case round =>
      obtain ⟨p, t, rfl, hpt, ht, hJr, hK⟩ := hrel
      by_cases hlt : p < c
      · have i1 : (p : Int) < (c : Int) := by omega
        have HOr := Lib.hid (owns_keepI HO.out hK)
        have HPT := Lib.hid hpt
        clear hpt
        have HZr := Lib.hid (HZ.out _ _ hJr)
        go_wp2_with fail
        refine (cloneInts_any _ _ _ _ _ _ HOr.out (by omega)).mono ?_
        rintro e6 w6 ⟨a6, c6, rfl, hb6, ho6⟩
        have HB6 := Lib.hid hb6
        have hz6 := hb6.size
        have HO6 := Lib.hid ho6
        clear hb6 ho6
        go_wp2_with (at_builtin; refine wpList_append_sl _ rfl _ _ 27 rfl wr.heap.size 3 _ 1 8 Tryz.underlying27 infoInt rfl (by omega) (.slice a6 n c6) n _ rfl (HO6.out.alloc _) _ 1 1 [.int .i64 (p : Int)] rfl (SlR.lit _ _ _ _ _ 1 1 (by rfl) (by simp) rfl (by omega)) (by simp [Value.oneCell']) (by omega) (by omega) (by simp; omega) ?_)
        intro v2 w2 hown2 hgr2 hb2
        obtain ⟨av2, cv2, rfl, _, _⟩ := owns_slice hown2
        have HB2 := Lib.hid (show Below wr.heap.size wr w2 from (HB6.out.alloc hz6 _).trans hb2)
        have HJ2 := Lib.hid (HJ.out _ _ _ hJr HB2.out)
        have HK2 := Lib.hid (keepI_trans hK (keepI_below HB2.out))
        have HO2 := Lib.hid (owns_mono (base' := B0) hown2 HZr.out)
        clear hown2 hgr2 hb2 hJr hK HB6 HO6
        go_wp2_with fail
        have hoo : w2.ownsRow B0 3 1 (.slice av2 (n + 1) cv2) (n + 1) (icells (nats (C ++ [p]))) := by
          have := HO2.out
          unfold nats at this ⊢
          rw [List.map_append, icells_append]
          exact this
        refine (IH.out (C ++ [p]) (p + 1) (n + 1) _ _ av2 cv2 w2 (by omega) (by simp; omega) (by omega) (by omega) (fun x hx => by
          rcases List.mem_append.1 hx with h | h
          · exact hC x h
          · simp at h; omega) hoo HJ2.out (by
          have h := pre_map (extX_pre (c := c) (d := d) (f := f) (t := t + 1) (by have := HPT.out; omega)) HPR.out
          rw [extX_map, ← List.append_assoc] at h
          have h2 := HPT.out
          subst h2
          exact h)).mono ?_
        rintro e9 w9 (⟨rfl, hJ9, hK9⟩ | ⟨rfl, hJ9⟩)
        · have HJ9 := Lib.hid (show J (L ++ (extX c d f (t + 1)).map (C ++ ·)) w9 by
            rw [extX_map, ← List.append_assoc]
            have h := HPT.out
            subst h
            exact hJ9)
          have HK9 := Lib.hid (keepI_trans HK2.out hK9)
          clear hoo hJ9 hK9
          go_wp2
          go_roundw
          case rel => exact ⟨p + 1, t + 1, by go_num, by have := HPT.out; omega, by omega, HJ9.out, HK9.out⟩
          case measure => simp [intOf]; omega
        · clear hoo
          go_wp2
          go_ret
          exact .inr ⟨rfl, hJ9⟩
      · have i1 : ¬ (p : Int) < (c : Int) := by omega
        have hE : ext c (d + 1) f = extX c d f t := by
          show (List.range' f (c - f)).flatMap _ = (List.range' f t).flatMap _
          rw [show c - f = t by omega]
        rw [← hE] at hJr
        clear hE
        go_wp2
        go_ret
        exact .inl ⟨rfl, hJr, hK⟩
end Go.Proofs.YtdklmcicogmeaaaGreat

/- Small functions of the references and the laws. -/
namespace Go.Proofs.YtdklmcicogmeaaaGreat
open Go.RowKit
set_option linter.unusedVariables false

set_option maxRecDepth 100000 in
theorem copyInts_any (l : List Int) (a : Option Addr) (n c : Nat) (w : World) (h : IntsR w a n l) (hn : n ≤ 100000) :
    Calls Tryz.prog 39 #[.slice a n c] w fun e' w' => ∃ a' c', e' = .returned (.slice a' n c') ∧ Below w.heap.size w w' ∧ w'.ownsRow w.heap.size 3 1 (.slice a' n c') n (icells l) := by
  have H := Lib.hid h
  clear h
  go_enter Tryz.func39, Tryz.ntmps39
  go_wp2_with (at_builtin; refine wpList_append_sl _ rfl _ _ 27 rfl w.heap.size 3 _ 1 8 Tryz.underlying27 infoInt rfl (by omega) _ _ _ rfl (World.ownsRow_made w #[] 0 (by omega) (by simp [maxLen]) rfl) a n c (icells l) rfl (H.out.below (by (repeat' (first | (with_reducible exact Below.refl _ _) | (with_reducible assumption) | (with_reducible refine Below.drewN ?_ _) | (with_reducible refine Below.alloc ?_ ?_ _) | (with_reducible refine Below.drew ?_) | (with_reducible refine Below.setCell ?_ ?_ _) | (with_reducible refine Below.step (by assumption) ?_ ?_) | (with_reducible exact And.left (by assumption)) | go_size)))) (icells_one _) (by omega) (by omega) (by simp) ?_)
  intro v2 w2 hown2 _ hb2
  try simp only [Nat.zero_add, List.nil_append] at hown2
  obtain ⟨a', c', rfl, _, _⟩ := owns_slice hown2
  have HO := Lib.hid hown2
  have HB := Lib.hid hb2
  clear hown2 hb2
  go_wp2
  go_ret
  exact ⟨a', c', rfl, Below.trans (by (repeat' (first | (with_reducible exact Below.refl _ _) | (with_reducible assumption) | (with_reducible refine Below.drewN ?_ _) | (with_reducible refine Below.alloc ?_ ?_ _) | (with_reducible refine Below.drew ?_) | (with_reducible refine Below.setCell ?_ ?_ _) | (with_reducible refine Below.step (by assumption) ?_ ?_) | (with_reducible exact And.left (by assumption)) | go_size))) HB.out, HO.out⟩

theorem drop_any {p : Int → Bool} (l : List Int) (k : Nat) (h : k < l.length) : (l.drop k).any p = (p (l.getD k 0) || (l.drop (k + 1)).any p) := by
  rw [drop_at l k 0 h]; rfl

set_option maxRecDepth 100000 in
theorem ints_any (l1 l2 : List Int) (a1 a2 : Option Addr) (n1 c1 n2 c2 : Nat) (w : World) (h1 : IntsR w a1 n1 l1) (h2 : IntsR w a2 n2 l2) :
    Calls Tryz.prog 48 #[.slice a1 n1 c1, .slice a2 n2 c2] w fun e' w' => e' = .returned (.bool (decide (l1 = l2))) ∧ ∃ m, w' = w.drewN m := by
  have H1 := Lib.hid h1
  have H2 := Lib.hid h2
  have hn1 := h1.small
  have hn2 := h2.small
  clear h1 h2
  by_cases hne : n1 = n2
  · subst hne
    have hbb : ((n1 : Int) != (n1 : Int)) = false := by simp
    go_enter Tryz.func48, Tryz.ntmps48
    go_wp2
    go_loopw [5] (fun i wr => ∃ k : Nat, i = .int .i64 k ∧ k ≤ n1 ∧ Hid (decide (l1.drop k = l2.drop k) = decide (l1 = l2)) ∧ ∃ m, wr = w.drewN m) (fun i _ => n1 - (intOf i).toNat)
    case atStart => exact ⟨0, rfl, Nat.zero_le _, rfl, 0, rfl⟩
    case round =>
      obtain ⟨k, rfl, hk, hF, m, rfl⟩ := hrel
      by_cases hlt : k < n1
      · obtain ⟨b1, o1, rfl, hb1, hc1⟩ := H1.out.addr (by omega)
        obtain ⟨b2, o2, rfl, hb2, hc2⟩ := H2.out.addr (by omega)
        have hck1 := hc1 k hlt
        have hck2 := hc2 k hlt
        clear hc1 hc2
        have hF' := hF.out
        rw [drop_at l1 k 0 (by rw [H1.out.len]; exact hlt), drop_at l2 k 0 (by rw [H2.out.len]; exact hlt)] at hF'
        obtain ⟨x, hx⟩ : ∃ x, x = l1.getD k 0 := ⟨_, rfl⟩
        obtain ⟨y, hy⟩ : ∃ y, y = l2.getD k 0 := ⟨_, rfl⟩
        rw [← hx] at hck1 hF'
        rw [← hy] at hck2 hF'
        have HF := Lib.hid hF'
        have hk0 : (0 : Int) ≤ (k : Int) := by omega
        have hk1 : (k : Int) < (n1 : Int) := by omega
        clear hx hy hF' hF
        by_cases hxy : x = y
        · subst hxy
          have hbx : (x != x) = false := by simp
          go_wp2
          go_quiet (fail)
          go_wp2
          go_roundw
          case rel => exact ⟨k + 1, by go_num, by omega, Lib.hid (by simpa using HF.out), _, rfl⟩
          case measure => simp [intOf]; omega
        · have hbx : (x != y) = true := by simpa using hxy
          go_wp2
          go_quiet (fail)
          go_wp2
          go_ret
          exact ⟨ret_bool (by rw [← HF.out]; simp [hxy]), _, World.drewN_drewN _ _ _⟩
      · go_wp2
        go_ret
        exact ⟨ret_bool (by rw [← hF.out, drop_end l1 k (by rw [H1.out.len]; omega), drop_end l2 k (by rw [H2.out.len]; omega)]; rfl), m, rfl⟩
  · have hbb : ((n1 : Int) != (n2 : Int)) = true := by simp; omega
    go_enter Tryz.func48, Tryz.ntmps48
    go_wp2
    go_ret
    refine ⟨ret_bool ?_, 0, rfl⟩
    have : ¬ l1 = l2 := by intro h; apply hne; rw [← H1.out.len, ← H2.out.len, h]
    simp [this]

theorem floor_pos (x y : Int) (w : World) (hx0 : -9000000000000000000 ≤ x) (hx1 : x ≤ 9000000000000000000) (hy : 0 < y) (hy1 : y ≤ 9000000000000000000) :
    Calls Tryz.prog 14 #[.int .i64 x, .int .i64 y] w fun e' w' => e' = .returned (.int .i64 (x / y)) ∧ w = w' := by
  have hyn : (y == 0) = false := by simp; omega
  have hq := tdiv_bd x y 9000000000000000000 (by omega) (by omega)
  by_cases h0 : 0 ≤ x
  · have e1 : 0 ≤ x / y := Int.ediv_nonneg h0 (by omega)
    have e2 : x.tdiv y = x / y := Int.tdiv_eq_ediv_of_nonneg h0
    rw [e2] at hq
    have e3 : 0 ≤ x % y := Int.emod_nonneg _ (by omega)
    clear e2
    go_enter Tryz.func14, Tryz.ntmps14
    go_wp2
    go_ret
    exact ⟨rfl, rfl⟩
  · have h0' : x < 0 := by omega
    have hE := Lib.hid (Int.tdiv_eq_ediv (a := x) (b := y))
    have hM := Lib.hid (Int.tmod_eq_emod (a := x) (b := y))
    by_cases hd : x % y = 0
    · have ht : x.tmod y = 0 := by rw [hM.out]; simp [Int.dvd_of_emod_eq_zero hd]; exact hd
      have ht' : decide (x.tmod y < 0) = false := by simp [ht]
      have HT := Lib.hid ht
      clear ht
      go_enter Tryz.func14, Tryz.ntmps14
      go_wp2
      go_ret
      exact ⟨ret_int (by rw [hE.out]; simp [Int.dvd_of_emod_eq_zero hd]), rfl⟩
    · have hnd : ¬ (0 ≤ x ∨ y ∣ x) := by
        rintro (h | h)
        · omega
        · exact hd (Int.emod_eq_zero_of_dvd h)
      have ht : x.tmod y < 0 := by
        rw [hM.out, if_neg hnd]
        have := Int.emod_lt_of_pos x hy
        omega
      have he : x.tdiv y - 1 = x / y := by
        rw [hE.out, if_neg hnd]
        have : y.sign = 1 := Int.sign_eq_one_of_pos hy
        omega
      have HE := Lib.hid he
      clear he
      go_enter Tryz.func14, Tryz.ntmps14
      go_wp2
      go_ret
      exact ⟨ret_int HE.out, rfl⟩

end Go.Proofs.YtdklmcicogmeaaaGreat

/- Slices of records in memory: a list, and how one element lies in cells. No program in sight. -/
namespace Go.Proofs.YtdklmcicogmeaaaGreat
open Go.RowKit
set_option linter.unusedVariables false

/-- The cells of a list of records; every record takes k cells. -/
def ecells {α : Type} (enc : α → List Value) (l : List α) : List Value := l.flatMap enc
section
variable {α : Type} {enc : α → List Value} {k : Nat}
theorem ecells_len (hk : ∀ x, (enc x).length = k) : ∀ l : List α, (ecells enc l).length = l.length * k
  | [] => by simp [ecells]
  | x :: r => by
    have := ecells_len hk r
    simp only [ecells, List.flatMap_cons, List.length_append, List.length_cons] at *
    rw [this, hk, Nat.succ_mul]; omega
theorem ecells_append (a b : List α) : ecells enc (a ++ b) = ecells enc a ++ ecells enc b := by simp [ecells]
theorem ecells_one (x : α) : ecells enc [x] = enc x := by simp [ecells]
theorem ecells_get (hk : ∀ x, (enc x).length = k) : ∀ {l : List α} {i : Nat} {x : α}, l[i]? = some x → ∀ j, j < k → (ecells enc l)[i * k + j]? = (enc x)[j]?
  | [], i, x, h, j, hj => by simp at h
  | y :: r, 0, x, h, j, hj => by
    simp only [List.getElem?_cons_zero, Option.some.injEq] at h
    subst h
    simp only [ecells, List.flatMap_cons, Nat.zero_mul, Nat.zero_add]
    rw [List.getElem?_append_left (by rw [hk]; exact hj)]
  | y :: r, i + 1, x, h, j, hj => by
    simp only [List.getElem?_cons_succ] at h
    have := ecells_get hk h j hj
    simp only [ecells, List.flatMap_cons] at *
    rw [List.getElem?_append_right (by rw [hk, Nat.succ_mul]; omega), hk, show (i + 1) * k + j - k = i * k + j by rw [Nat.succ_mul]; omega]
    exact this
/-- A slice of records. -/
def ER (enc : α → List Value) (k : Nat) (w : World) (a : Option Addr) (n : Nat) (l : List α) : Prop := l.length = n ∧ SlR w a n k (ecells enc l)
theorem ER.len {w : World} {a : Option Addr} {n : Nat} {l : List α} (h : ER enc k w a n l) : l.length = n := h.1
theorem ER.below {w w' : World} {a : Option Addr} {n : Nat} {l : List α} (h : ER enc k w a n l) (hb : Below w.heap.size w w') : ER enc k w' a n l := ⟨h.1, h.2.below hb⟩
theorem ER.small {w : World} {a : Option Addr} {n : Nat} {l : List α} (h : ER enc k w a n l) : n ≤ 9223372036854775807 := h.2.small
theorem ER.nil (w : World) (a : Option Addr) : ER enc k w a 0 [] := ⟨rfl, SlR.nil w a k⟩
theorem ER.of_owns {w : World} {base : Nat} {e : TypeId} {n c : Nat} {a : Option Addr} {l : List α} (hl : l.length = n) (h : w.ownsRow base e k (.slice a n c) n (ecells enc l)) : ER enc k w a n l := ⟨hl, SlR.of_owns h⟩
theorem ER.addr (hk : ∀ x, (enc x).length = k) {w : World} {a : Option Addr} {n : Nat} {l : List α} (h : ER enc k w a n l) (hn : 0 < n) :
    ∃ b o, a = some ⟨b, o, none⟩ ∧ b < w.heap.size ∧ ∀ i x, l[i]? = some x → ∀ j, j < k → w.cell? ⟨b, o + (i * k + j), none⟩ = (enc x)[j]? := by
  obtain ⟨b, o, ha, hlt, hc⟩ := h.2.2.2 hn
  refine ⟨b, o, ha, hlt, fun i x hx j hj => ?_⟩
  have h1 := ecells_get hk hx j hj
  have h2 : j < (enc x).length := by rw [hk]; exact hj
  rw [List.getElem?_eq_getElem h2] at h1 ⊢
  exact hc _ _ h1
theorem take_last {l : List α} {i : Nat} {x : α} (h : l[i]? = some x) : l.take (i + 1) = l.take i ++ [x] := by
  rw [List.take_add_one, h]; rfl
theorem get_of_lt {l : List α} {i n : Nat} (hl : l.length = n) (h : i < n) : ∃ x, l[i]? = some x := ⟨l[i]'(by omega), List.getElem?_eq_getElem (by omega)⟩
theorem ER.get {w : World} {a : Option Addr} {n : Nat} {l : List α} (h : ER enc k w a n l) {i : Nat} (hi : i < n) : ∃ x, l[i]? = some x := get_of_lt h.1 hi
theorem ecells_ones (h1 : ∀ x, ∀ u ∈ enc x, u.oneCell' = true) (l : List α) : ∀ u ∈ ecells enc l, u.oneCell' = true := fun u hu => by
  obtain ⟨x, _, hx⟩ := List.mem_flatMap.1 hu
  exact h1 x u hx
/-- An element is built, a literal of one record. -/
theorem ER.take_full {l : List α} {n : Nat} (hl : l.length = n) : l.take n = l := List.take_of_length_le (by omega)
/-- What a slice of the call's own says of every element. -/
theorem ecells_inj {enc : α → List Value} {k : Nat} (hk : ∀ x, (enc x).length = k) (hinj : ∀ x y, enc x = enc y → x = y) (hk0 : 0 < k) : ∀ {a b : List α}, ecells enc a = ecells enc b → a = b
  | [], [], _ => rfl
  | [], y :: r, h => by
    have h1 : (ecells enc ([] : List α)).length = (ecells enc (y :: r)).length := by rw [h]
    rw [ecells_len hk, ecells_len hk, List.length_cons, Nat.succ_mul] at h1
    simp at h1; omega
  | y :: r, [], h => by
    have h1 : (ecells enc (y :: r)).length = (ecells enc ([] : List α)).length := by rw [h]
    rw [ecells_len hk, ecells_len hk, List.length_cons, Nat.succ_mul] at h1
    simp at h1; omega
  | x :: a, y :: b, h => by
    simp only [ecells, List.flatMap_cons] at h
    have h1 := List.append_inj h (by rw [hk, hk])
    rw [hinj x y h1.1]
    have h2 : ecells enc a = ecells enc b := h1.2
    rw [ecells_inj hk hinj hk0 h2]
end
end Go.Proofs.YtdklmcicogmeaaaGreat
