import Derived.Test.YtkphbibonagkfaaGreatProg
import Derived.Deep.AppendLies
import Derived.Deep.CutRange
import Derived.Test.YtkphbibonagkfaaGreatDPairs
import Derived.Test.YtkphbibonagkfaaGreatDSubs
import Derived.Test.YtkphbibonagkfaaGreatMLib
import Derived.Test.YtkphbibonagkfaaGreatMRoundTr
import Derived.Test.YtkphbibonagkfaaGreatQTail
/- The contracts of the small functions on integers. -/
namespace Go.Proofs.YtkphbibonagkfaaGreat
open Go.RowKit
set_option linter.unusedVariables false

theorem infoInt : (Tryz.prog.info? 3).map (fun i => (i.zero, i.size, i.bytes)) = some (some (.int .i64 0), 1, 8) := by kernel_rfl

theorem bwithin_any (n lo hi : Int) (w : World) : Calls Tryz.prog 49 #[.int .i64 n, .int .i64 lo, .int .i64 hi] w fun e' w' => e' = .returned (.bool (wi n lo hi)) ∧ w = w' := by
  by_cases h : lo ≤ n
  · go_enter Tryz.func49, Tryz.ntmps49
    go_wp2
    go_ret
    exact ⟨by simp [wi, h], rfl⟩
  · have h' : n < lo := by omega
    go_enter Tryz.func49, Tryz.ntmps49
    go_wp2
    go_ret
    exact ⟨ret_bool (by simp [wi]; omega), rfl⟩
theorem bsize_any (n : Int) (w : World) (h0 : -9223372036854775807 ≤ n) (h1 : n ≤ 9223372036854775807) : Calls Tryz.prog 135 #[.int .i64 n] w fun e' w' => e' = .returned (.int .i64 (sz n)) ∧ w = w' := by
  go_enter Tryz.func135, Tryz.ntmps135
  go_wp2
  all_goals
    go_ret
    exact ⟨ret_int (by unfold sz; omega), rfl⟩
theorem cell_lit (w0 w : World) (cs : List Value) (t B i : Nat) (u : Value) (hw : w.heap = (w0.alloc (.cells cs.toArray t)).heap) (hB : B = w0.heap.size) (hu : cs[i]? = some u) : w.cell? ⟨B, i, none⟩ = some u := by
  subst hB
  have h : w.heap[w0.heap.size]? = some (.cells cs.toArray t) := by rw [hw]; exact heap_alloc_new w0 _
  rw [cell_of_row _ _ i _ _ _ h]; simpa using hu
end Go.Proofs.YtkphbibonagkfaaGreat

/- Lines and states: the program's functions. -/
namespace Go.Proofs.YtkphbibonagkfaaGreat
open Go.RowKit
set_option linter.unusedVariables false

set_option maxRecDepth 100000 in
theorem indexInts_any (f : FuncId) (p : Int → Bool) (hf : ∀ args w, (callFunc f args).run Tryz.prog w = .ok (.enter f args) w) (hp : ∀ (x : Int) (w : World), Calls Tryz.prog f #[.int .i64 x] w fun e w' => e = .returned (.bool (p x)) ∧ w = w')
    (l : List Int) (a : Option Addr) (n c : Nat) (w : World) (hl : IntsR w a n l) :
    Calls Tryz.prog 164 #[.slice a n c, .func (.func f) #[] #[]] w fun e' w' => e' = .returned (.int .i64 (idxFrom p l 0)) ∧ w = w' := by
  have HL := Lib.hid hl
  have HP := Lib.hid hp
  have hn := hl.small
  clear hl hp
  go_enter Tryz.func164, Tryz.ntmps164
  go_wp2
  go_loop [8] (fun i => ∃ k : Nat, i = .int .i64 k ∧ k ≤ n ∧ Hid (idxFrom p (l.drop k) k = idxFrom p l 0)) (fun i => n - (intOf i).toNat)
  case atStart => exact ⟨0, rfl, Nat.zero_le _, rfl⟩
  case round =>
    obtain ⟨k, rfl, hk, hF⟩ := hrel
    by_cases hlt : k < n
    · obtain ⟨b, o, rfl, hb, hc⟩ := HL.out.addr (by omega)
      have hck := hc k hlt
      clear hc
      have hF' := hF.out
      rw [drop_at l k 0 (by rw [HL.out.len]; exact hlt), idxFrom] at hF'
      have HF := Lib.hid hF'; clear hF' hF
      obtain ⟨x, hx⟩ : ∃ x, x = l.getD k 0 := ⟨_, rfl⟩
      rw [← hx] at hck HF
      clear hx
      go_wp2_with fail
      refine (HP.out _ _).mono ?_
      rintro e w' ⟨rfl, rfl⟩
      by_cases hx : p x = true
      · rw [if_pos hx] at HF
        rw [hx]
        go_wp2
        go_ret
        exact ⟨ret_int HF.out, rfl⟩
      · rw [if_neg hx] at HF
        have hx' : p x = false := by simpa using hx
        rw [hx']
        clear hx hx'
        go_wp2
        go_round
        case rel => exact ⟨k + 1, by go_num, by omega, HF⟩
        case measure => simp [intOf]; omega
    · go_wp2
      go_ret
      exact ⟨ret_int (by rw [← hF.out, drop_end l k (by rw [HL.out.len]; omega)]; rfl), rfl⟩
set_option maxRecDepth 100000 in
theorem containsInts_any (f : FuncId) (p : Int → Bool) (hf : ∀ args w, (callFunc f args).run Tryz.prog w = .ok (.enter f args) w) (hp : ∀ (x : Int) (w : World), Calls Tryz.prog f #[.int .i64 x] w fun e w' => e = .returned (.bool (p x)) ∧ w = w')
    (l : List Int) (a : Option Addr) (n c : Nat) (w : World) (hl : IntsR w a n l) :
    Calls Tryz.prog 126 #[.slice a n c, .func (.func f) #[] #[]] w fun e' w' => e' = .returned (.bool (l.any p)) ∧ w = w' := by
  have HI := Lib.hid (indexInts_any f p hf hp l a n c w hl)
  clear hf hp hl
  go_enter Tryz.func126, Tryz.ntmps126
  go_wp2_with fail
  refine HI.out.mono ?_
  rintro e w' ⟨rfl, rfl⟩
  go_wp2
  go_ret
  exact ⟨ret_bool (idxFrom_any p l 0), rfl⟩
end Go.Proofs.YtkphbibonagkfaaGreat

/- Cells from a block on are kept; slices.Clone at integers; the frame of the iterator of subsets. -/
namespace Go.Proofs.YtkphbibonagkfaaGreat
open Go.RowKit
set_option linter.unusedVariables false

theorem keepF_refl (B : Nat) (A : World) : KeepF B A A := fun _ _ _ _ _ h => h
theorem keepF_trans {B : Nat} {a b c : World} (h1 : KeepF B a b) (h2 : KeepF B b c) : KeepF B a c := fun k cs t z hk h => h2 k cs t z hk (h1 k cs t z hk h)
theorem keepF_below {B : Nat} {a b : World} (h : Below a.heap.size a b) : KeepF B a b := fun k cs t z _ hc => by
  rw [h.block k (Array.getElem?_eq_some_iff.1 hc).1]; exact hc
theorem owns_keep {B : Nat} {A A' : World} {e : TypeId} {sz n : Nat} {v : Value} {xs : List Value} (h : A.ownsRow B e sz v n xs) (hk : KeepF B A A') : A'.ownsRow B e sz v n xs := by
  refine ⟨h.1, ?_⟩
  rcases h.2 with hn | ⟨g, cap, cur, rfl, hbase, hgg, rest⟩
  · exact .inl hn
  · exact .inr ⟨g, cap, cur, rfl, hbase, hk _ _ _ _ hbase hgg, rest⟩
set_option maxRecDepth 100000 in
theorem cloneInts_any (l : List Int) (B : Nat) (a : Option Addr) (n c : Nat) (w : World) (h : w.ownsRow B 3 1 (.slice a n c) n (icells l)) (hn : n ≤ 100000) :
    Calls Tryz.prog 172 #[.slice a n c] w fun e' w' => ∃ a' c', e' = .returned (.slice a' n c') ∧ Below w.heap.size w w' ∧ w'.ownsRow w.heap.size 3 1 (.slice a' n c') n (icells l) := by
  have H := Lib.hid (show IntsR w a n l from SlR.of_owns h)
  rcases h.2 with ⟨hv, h0⟩ | ⟨g, cap, cur, hv, _, _, _, _, _, _⟩
  · cases hv
    have qT : ∀ (w : World), (binOp .eql 42 (.slice none 0 0) (.slice none 0 0)).run Tryz.prog w = .ok (.bool true) w := fun w => by first | exact Lib.run_eql_slice_nil w _ _ _ _ _ _ _ Tryz.underlying42 | exact Go.run_eql_slice_nil w _ _ _ _ _ _ _ Tryz.underlying42 | kernel_rfl
    have hl : l = [] := by have := H.out.len; exact List.eq_nil_of_length_eq_zero this
    subst hl
    clear h H
    go_enter Tryz.func172, Tryz.ntmps172
    go_wp2
    go_ret
    exact ⟨none, 0, rfl, by (repeat' (first | (with_reducible exact Below.refl _ _) | (with_reducible assumption) | (with_reducible refine Below.drewN ?_ _) | (with_reducible refine Below.alloc ?_ ?_ _) | (with_reducible refine Below.drew ?_) | (with_reducible refine Below.setCell ?_ ?_ _) | (with_reducible refine Below.step (by assumption) ?_ ?_) | (with_reducible exact And.left (by assumption)) | go_size)), World.ownsRow_nil _ _ _ _⟩
  · cases hv
    have qT : ∀ (w : World), (binOp .eql 42 (.slice (some ⟨g, 0, none⟩) n c) (.slice none 0 0)).run Tryz.prog w = .ok (.bool false) w := fun w => by first | exact Lib.run_eql_slice_nil w _ _ _ _ _ _ _ Tryz.underlying42 | exact Go.run_eql_slice_nil w _ _ _ _ _ _ _ Tryz.underlying42 | kernel_rfl
    clear h
    go_enter Tryz.func172, Tryz.ntmps172
    go_wp2_with (at_builtin; refine wpList_append_sl _ rfl _ _ 42 rfl w.heap.size 3 _ 1 8 Tryz.underlying42 infoInt rfl (by omega) _ _ _ rfl (World.ownsRow_made w #[] 0 (by omega) (by simp [maxLen]) rfl) _ n c (icells l) rfl (H.out.below (by (repeat' (first | (with_reducible exact Below.refl _ _) | (with_reducible assumption) | (with_reducible refine Below.drewN ?_ _) | (with_reducible refine Below.alloc ?_ ?_ _) | (with_reducible refine Below.drew ?_) | (with_reducible refine Below.setCell ?_ ?_ _) | (with_reducible refine Below.step (by assumption) ?_ ?_) | (with_reducible exact And.left (by assumption)) | go_size)))) (icells_one _) (by omega) (by omega) (by simp) ?_)
    intro v2 w2 hown2 _ hb2
    try simp only [Nat.zero_add, List.nil_append] at hown2
    obtain ⟨a', c', rfl, _, _⟩ := owns_slice hown2
    have HO := Lib.hid hown2
    have HB := Lib.hid hb2
    clear hown2 hb2
    go_wp2
    go_ret
    exact ⟨a', c', rfl, Below.trans (by (repeat' (first | (with_reducible exact Below.refl _ _) | (with_reducible assumption) | (with_reducible refine Below.drewN ?_ _) | (with_reducible refine Below.alloc ?_ ?_ _) | (with_reducible refine Below.drew ?_) | (with_reducible refine Below.setCell ?_ ?_ _) | (with_reducible refine Below.step (by assumption) ?_ ?_) | (with_reducible exact And.left (by assumption)) | go_size))) HB.out, HO.out⟩
end Go.Proofs.YtkphbibonagkfaaGreat

/- The iterator of subsets: its recursive function. -/
namespace Go.Proofs.YtkphbibonagkfaaGreat
open Go.RowKit Go.Shelf
set_option linter.unusedVariables false
attribute [local go_sem] Oper.semAt_some

/-- The blocks of integers from B on are kept. -/
def KeepI (B : Nat) (A A' : World) : Prop := ∀ k c z, B ≤ k → A.heap[k]? = some (.cells c 3 z) → A'.heap[k]? = some (.cells c 3 z)
theorem keepI_refl (B : Nat) (A : World) : KeepI B A A := fun _ _ _ _ h => h
theorem keepI_trans {B : Nat} {a b c : World} (h1 : KeepI B a b) (h2 : KeepI B b c) : KeepI B a c := fun k cs z hk h => h2 k cs z hk (h1 k cs z hk h)
theorem keepI_below {B : Nat} {a b : World} (h : Below a.heap.size a b) : KeepI B a b := fun k cs z _ hc => by
  rw [h.block k (Array.getElem?_eq_some_iff.1 hc).1]; exact hc
theorem owns_keepI {B : Nat} {A A' : World} {sz n : Nat} {v : Value} {xs : List Value} (h : A.ownsRow B 3 sz v n xs) (hk : KeepI B A A') : A'.ownsRow B 3 sz v n xs := by
  refine ⟨h.1, ?_⟩
  rcases h.2 with hn | ⟨g, cap, cur, rfl, hbase, hgg, rest⟩
  · exact .inl hn
  · exact .inr ⟨g, cap, cur, rfl, hbase, hk _ _ _ hbase hgg, rest⟩
def nats (l : List Nat) : List Int := l.map (fun (x : Nat) => (x : Int))
def extX (c d f t : Nat) : List (List Nat) := (List.range' f t).flatMap fun n => (ext c d (n + 1)).map (n :: ·)
theorem extX_succ (c d f t : Nat) : extX c d f (t + 1) = extX c d f t ++ (ext c d (f + t + 1)).map ((f + t) :: ·) := by
  unfold extX
  rw [List.range'_1_concat, List.flatMap_append]
  simp
theorem extX_map (c d f t : Nat) (C : List Nat) : (extX c d f (t + 1)).map (C ++ ·) = (extX c d f t).map (C ++ ·) ++ (ext c d (f + t + 1)).map ((C ++ [f + t]) ++ ·) := by
  rw [extX_succ, List.map_append, List.map_map]
  congr 1
  apply List.map_congr_left
  intro x _
  simp
theorem extX_pre {c d f t : Nat} (h : t ≤ c - f) : extX c d f t <+: ext c (d + 1) f := by
  show extX c d f t <+: extX c d f (c - f)
  have : ∀ j, extX c d f t <+: extX c d f (t + j) := fun j => by
    induction j with
    | zero => exact List.prefix_refl _
    | succ j ih => rw [← Nat.add_assoc, extX_succ]; exact ih.trans (List.prefix_append _ _)
  have h2 := this (c - f - t)
  rwa [show t + (c - f - t) = c - f by omega] at h2
theorem pre_map {a b L T : List (List Nat)} {g : List Nat → List Nat} (h : a <+: b) (hT : (L ++ b.map g) <+: T) : (L ++ a.map g) <+: T := by
  obtain ⟨r, rfl⟩ := h
  refine List.IsPrefix.trans ?_ hT
  rw [List.map_append, ← List.append_assoc]
  exact List.prefix_append _ _
set_option maxHeartbeats 4000000 in
set_option maxRecDepth 100000 in
theorem extended_calls (T : List (List Nat)) (lr c k B0 : Nat) (J : List (List Nat) → World → Prop) (Jx : World → Prop) (hc : c ≤ 1000) (hk : k ≤ 1000)
    (hJ : ∀ L A B, J L A → Below A.heap.size A B → J L B) (hZ : ∀ L A, J L A → B0 ≤ A.heap.size)
    (hY : ∀ L S a cap A, (L ++ [S]) <+: T → J L A → S.length = k → (∀ x ∈ S, x < c) → A.ownsRow B0 3 1 (.slice a k cap) k (icells (nats S)) → YieldAt Fence.wide 1 Tryz.prog lr #[.slice a k cap] A (fun e B => (e = .returned (.bool true) ∧ J (L ++ [S]) B ∧ KeepI B0 A B) ∨ (e = .returned (.bool false) ∧ Jx B))) :
    ∀ (d : Nat) (C : List Nat) (f n : Nat) (fi : Int) (L : List (List Nat)) (a : Option Addr) (cap : Nat) (A : World), fi = (f : Int) → C.length = n → n + d = k → f ≤ 2000 → (∀ x ∈ C, x < c) → A.ownsRow B0 3 1 (.slice a n cap) n (icells (nats C)) → J L A → (L ++ (ext c d f).map (C ++ ·)) <+: T →
    Calls Tryz.prog 155 #[.slice a n cap, .int .i64 fi, .int .i64 c, .int .i64 k, .func (.yield lr) #[] #[]] A (fun e B => (e = .returned (.bool true) ∧ J (L ++ (ext c d f).map (C ++ ·)) B ∧ KeepI B0 A B) ∨ (e = .returned (.bool false) ∧ Jx B)) := by
  have HJ := Lib.hid hJ
  have HY := Lib.hid hY
  have HZ := Lib.hid hZ
  clear hJ hY hZ
  intro d
  induction d with
  | zero =>
    intro C f n fi L a cap A hfi hn hnd hf hC hO hL hT
    subst hfi
    obtain rfl : n = k := by omega
    obtain ⟨fn, tmps, assign, body, hy, hR⟩ := HY.out L C a cap A (by simpa [ext] using hT) hL hn hC hO
    clear hT
    have hkk : ((n : Int) == (n : Int)) = true := by simp
    clear hO hL
    go_enter Tryz.func155, Tryz.ntmps155
    go_upto_region 2 with (fail)
    go_cut [18, 10] from 16 to 19 (fun v18 v10 wx => (v10 = .bool true ∧ J (L ++ [C]) wx ∧ KeepI B0 A wx) ∨ (v10 = .bool false ∧ Jx wx))
    case first =>
      refine (wpIn_wide (n := 2)).1 ?_
      gi_wp2
      refine hR.mono ?_
      rintro e W' (⟨rfl, hJ2, hK2⟩ | ⟨rfl, hJx⟩)
      · gi_wp2
        go_meet
        exact .inl ⟨rfl, hJ2, hK2⟩
      · gi_wp2
        go_meet
        exact .inr ⟨rfl, hJx⟩
    case rest =>
      rcases hcut with ⟨rfl, hJ2, hK2⟩ | ⟨rfl, hJ2⟩
      · go_wp2
        go_ret
        exact .inl ⟨rfl, by simpa [ext] using hJ2, hK2⟩
      · go_wp2
        go_ret
        exact .inr ⟨rfl, hJ2⟩
  | succ d ih =>
    intro C f n fi L a cap A hfi hn hnd hf hC hO hL hT
    have HPR := Lib.hid hT
    clear hT
    subst hfi
    have hne : ((n : Int) == (k : Int)) = false := by simp; omega
    have IH := Lib.hid ih
    have HO := Lib.hid hO
    clear ih hO
    go_enter Tryz.func155, Tryz.ntmps155
    go_wp2_with fail
    go_loopw [11] (fun v wr => ∃ p t : Nat, v = .int .i64 (p : Int) ∧ p = f + t ∧ (t = 0 ∨ p ≤ c) ∧ J (L ++ (extX c d f t).map (C ++ ·)) wr ∧ KeepI B0 A wr) (fun v _ => c - (intOf v).toNat)
    case atStart => exact ⟨f, 0, rfl, rfl, .inl rfl, by simpa [extX] using hL, keepI_refl _ _⟩
    case round =>
      obtain ⟨p, t, rfl, hpt, ht, hJr, hK⟩ := hrel
      by_cases hlt : p < c
      · have i1 : (p : Int) < (c : Int) := by omega
        have HOr := Lib.hid (owns_keepI HO.out hK)
        have HPT := Lib.hid hpt
        clear hpt
        have HZr := Lib.hid (HZ.out _ _ hJr)
        go_wp2_with fail
        refine (cloneInts_any _ _ _ _ _ _ HOr.out (by omega)).mono ?_
        rintro e6 w6 ⟨a6, c6, rfl, hb6, ho6⟩
        have HB6 := Lib.hid hb6
        have hz6 := hb6.size
        have HO6 := Lib.hid ho6
        clear hb6 ho6
        go_wp2_with (at_builtin; refine wpList_append_sl _ rfl _ _ 42 rfl wr.heap.size 3 _ 1 8 Tryz.underlying42 infoInt rfl (by omega) (.slice a6 n c6) n _ rfl (HO6.out.alloc _) _ 1 1 [.int .i64 (p : Int)] rfl (SlR.lit _ _ _ _ _ 1 1 (by rfl) (by simp) rfl (by omega)) (by simp [Value.oneCell']) (by omega) (by omega) (by simp; omega) ?_)
        intro v2 w2 hown2 hgr2 hb2
        obtain ⟨av2, cv2, rfl, _, _⟩ := owns_slice hown2
        have HB2 := Lib.hid (show Below wr.heap.size wr w2 from (HB6.out.alloc hz6 _).trans hb2)
        have HJ2 := Lib.hid (HJ.out _ _ _ hJr HB2.out)
        have HK2 := Lib.hid (keepI_trans hK (keepI_below HB2.out))
        have HO2 := Lib.hid (owns_mono (base' := B0) hown2 HZr.out)
        clear hown2 hgr2 hb2 hJr hK HB6 HO6
        go_wp2_with fail
        have hoo : w2.ownsRow B0 3 1 (.slice av2 (n + 1) cv2) (n + 1) (icells (nats (C ++ [p]))) := by
          have := HO2.out
          unfold nats at this ⊢
          rw [List.map_append, icells_append]
          exact this
        refine (IH.out (C ++ [p]) (p + 1) (n + 1) _ _ av2 cv2 w2 (by omega) (by simp; omega) (by omega) (by omega) (fun x hx => by
          rcases List.mem_append.1 hx with h | h
          · exact hC x h
          · simp at h; omega) hoo HJ2.out (by
          have h := pre_map (extX_pre (c := c) (d := d) (f := f) (t := t + 1) (by have := HPT.out; omega)) HPR.out
          rw [extX_map, ← List.append_assoc] at h
          have h2 := HPT.out
          subst h2
          exact h)).mono ?_
        rintro e9 w9 (⟨rfl, hJ9, hK9⟩ | ⟨rfl, hJ9⟩)
        · have HJ9 := Lib.hid (show J (L ++ (extX c d f (t + 1)).map (C ++ ·)) w9 by
            rw [extX_map, ← List.append_assoc]
            have h := HPT.out
            subst h
            exact hJ9)
          have HK9 := Lib.hid (keepI_trans HK2.out hK9)
          clear hoo hJ9 hK9
          go_wp2
          go_roundw
          case rel => exact ⟨p + 1, t + 1, by go_num, by have := HPT.out; omega, by omega, HJ9.out, HK9.out⟩
          case measure => simp [intOf]; omega
        · clear hoo
          go_wp2
          go_ret
          exact .inr ⟨rfl, hJ9⟩
      · have i1 : ¬ (p : Int) < (c : Int) := by omega
        have hE : ext c (d + 1) f = extX c d f t := by
          show (List.range' f (c - f)).flatMap _ = (List.range' f t).flatMap _
          rw [show c - f = t by omega]
        rw [← hE] at hJr
        clear hE
        go_wp2
        go_ret
        exact .inl ⟨rfl, hJr, hK⟩
end Go.Proofs.YtkphbibonagkfaaGreat
