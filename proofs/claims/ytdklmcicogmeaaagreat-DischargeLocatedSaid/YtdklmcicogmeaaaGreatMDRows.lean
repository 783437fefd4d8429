import Derived.Test.YtdklmcicogmeaaaGreatDAns
import Derived.Test.YtdklmcicogmeaaaGreatMDEqG
import Derived.Test.YtdklmcicogmeaaaGreatMDLst
/- A row of rows of integers in memory: as it is made, and as a result; the explanations in plain words. -/
namespace Go.Proofs.YtdklmcicogmeaaaGreat
open Go.RowKit Go.Shelf
set_option linter.unusedVariables false

theorem infoInts : (Tryz.prog.info? 27).map (fun i => (i.zero, i.size, i.bytes)) = some (some (.slice none 0 0), 1, 24) := by kernel_rfl
theorem IntsR.sameC {w w' : World} {a : Option Addr} {n : Nat} {l : List Int} (h : IntsR w a n l) (hs : SameCells w w') (hsz : w.heap.size ≤ w'.heap.size) : IntsR w' a n l := SlR.same h hs hsz
theorem RowsI.same {w w' : World} {a : Option Addr} {n : Nat} {LL : List (List Nat)} (h : RowsI w a n LL) (hs : SameCells w w') (hsz : w.heap.size ≤ w'.heap.size) : RowsI w' a n LL := by
  obtain ⟨vs, h1, h2, h3⟩ := h
  refine ⟨vs, h1.same hs hsz, h2, fun i S hS => ?_⟩
  obtain ⟨b, m, c, h4, h5⟩ := h3 i S hS
  exact ⟨b, m, c, h4, h5.sameC hs hsz⟩
/-- Blocks of integers and of rows are kept. -/
def KeepR (A A' : World) : Prop := A.heap.size ≤ A'.heap.size ∧ ∀ (k : Nat) c t z, (t = 3 ∨ t = 27) → A.heap[k]? = some (Obj.cells c t z) → A'.heap[k]? = some (Obj.cells c t z)
theorem KeepR.below {A B : World} (h : Below A.heap.size A B) : KeepR A B := ⟨h.size, fun k c t z _ hk => (h.block k (Array.getElem?_eq_some_iff.1 hk).1).trans hk⟩
theorem KeepR.trans {A B C : World} (h : KeepR A B) (h' : KeepR B C) : KeepR A C := ⟨Nat.le_trans h.1 h'.1, fun k c t z ht hk => h'.2 k c t z ht (h.2 k c t z ht hk)⟩
theorem KeepR.put {A : World} {l : Nat} {r r' : Loop} (hl : A.heap[l]? = some (.loop r)) : KeepR A (A.putObj l (.loop r')) := ⟨by rw [World.putObj_size]; exact Nat.le_refl _, fun k c t z _ hk => by
  rw [World.putObj_heap_other (by rintro rfl; rw [hl] at hk; cases hk)]; exact hk⟩
theorem KeepR.set {A : World} {b : Nat} {x v : Value} (hb : A.heap[b]? = some (Obj.cells #[x] 95)) : KeepR A (A.setCell ⟨b, 0, none⟩ v) := ⟨by simp, fun k c t z ht hk => by
  rw [heap_set_ne (by rintro rfl; rw [hb] at hk; simp only [Option.some.injEq, Obj.cells.injEq] at hk; rcases ht with rfl | rfl <;> exact absurd hk.2.1 (by decide))]; exact hk⟩
/-- Integers in a block of their own kind. -/
def IntsT (w : World) (a : Option Addr) (n : Nat) (l : List Int) : Prop := IntsR w a n l ∧ ∀ (B o : Nat) z, a = some ⟨B, o, z⟩ → ∃ cur y, w.heap[B]? = some (Obj.cells cur 3 y)
theorem IntsT.of_owns {w : World} {base : Nat} {n c : Nat} {a : Option Addr} {l : List Int} (h : w.ownsRow base 3 1 (.slice a n c) n (icells l)) : IntsT w a n l := by
  refine ⟨SlR.of_owns h, fun B o z ha => ?_⟩
  rcases h.2 with ⟨hv, _⟩ | ⟨g, cap, cur, hv, _, hg, _⟩
  · cases hv; cases ha
  · cases hv; cases ha; exact ⟨_, _, hg⟩
theorem IntsT.keep {w w' : World} {a : Option Addr} {n : Nat} {l : List Int} (h : IntsT w a n l) (hs : w.heap.size ≤ w'.heap.size) (hk : ∀ (B : Nat) c z, w.heap[B]? = some (Obj.cells c 3 z) → w'.heap[B]? = some (Obj.cells c 3 z)) : IntsT w' a n l := by
  refine ⟨⟨h.1.1, h.1.2.1, fun hn => ?_⟩, fun B o z ha => ?_⟩
  · obtain ⟨b, o, ha, hlt, hc⟩ := h.1.2.2 hn
    refine ⟨b, o, ha, Nat.lt_of_lt_of_le hlt hs, fun i u hu => ?_⟩
    obtain ⟨cur, y, hcur⟩ := h.2 b o none ha
    have h1 := hc i u hu
    have h2 := hk b cur y hcur
    unfold World.cell? at h1 ⊢
    rw [h2]; rw [hcur] at h1; exact h1
  · obtain ⟨cur, y, hcur⟩ := h.2 B o z ha
    exact ⟨cur, y, hk B cur y hcur⟩
/-- A row of rows as it is made. -/
structure RowsO (lo : Nat) (w : World) (v : Value) (k : Nat) (LL : List (List Nat)) (vs : List Value) : Prop where
  own : w.ownsRow lo 27 1 v k vs
  len : LL.length = k
  row : ∀ (i : Nat) (S : List Nat), LL[i]? = some S → ∃ b m c, vs[i]? = some (Value.slice b m c) ∧ IntsT w b m (nats S)
theorem RowsO.zero (lo : Nat) (w : World) : RowsO lo w (.slice none 0 0) 0 [] [] := ⟨World.ownsRow_nil _ _ _ _, rfl, fun i S h => by simp at h⟩
theorem RowsO.keep {lo : Nat} {w w' : World} {v : Value} {k : Nat} {LL : List (List Nat)} {vs : List Value} (h : RowsO lo w v k LL vs) (hk : KeepR w w') : RowsO lo w' v k LL vs := by
  refine ⟨⟨h.own.1, ?_⟩, h.len, fun i S hS => ?_⟩
  · rcases h.own.2 with hn | ⟨g, cap, cur, rfl, hbase, hgg, rest⟩
    · exact .inl hn
    · exact .inr ⟨g, cap, cur, rfl, hbase, hk.2 _ _ _ _ (.inr rfl) hgg, rest⟩
  · obtain ⟨b, m, c, h1, h2⟩ := h.row i S hS
    exact ⟨b, m, c, h1, h2.keep hk.1 (fun B cc z hB => hk.2 _ _ _ _ (.inl rfl) hB)⟩
/-- One row more. -/
theorem RowsO.next {lo : Nat} {w w' : World} {v v' : Value} {k : Nat} {LL : List (List Nat)} {vs : List Value} {S : List Nat} {b : Option Addr} {m c : Nat} (h : RowsO lo w v k LL vs) (hS : IntsT w b m (nats S))
    (ho : w'.ownsRow lo 27 1 v' (k + 1) (vs ++ [.slice b m c])) (hg : w.grownBy w' v.ownBlock) : RowsO lo w' v' (k + 1) (LL ++ [S]) (vs ++ [.slice b m c]) := by
  have hvl : vs.length = k := by have := h.own.1; omega
  have hK : ∀ (B : Nat) cur z, w.heap[B]? = some (Obj.cells cur 3 z) → w'.heap[B]? = some (Obj.cells cur 3 z) := fun B cur z hB => by
    rw [hg.block B (Array.getElem?_eq_some_iff.1 hB).1 (fun e => ?_)]
    · exact hB
    · rcases h.own.2 with ⟨rfl, _⟩ | ⟨g, cap, cur', rfl, _, hgg, _⟩
      · simp [Value.ownBlock] at e
      · simp only [Value.ownBlock, Option.some.injEq] at e
        subst e
        rw [hgg] at hB
        simp only [Option.some.injEq, Obj.cells.injEq] at hB
        exact absurd hB.2.1 (by decide)
  refine ⟨ho, by simp [h.len], fun i T hT => ?_⟩
  by_cases hi : i < k
  · rw [List.getElem?_append_left (by rw [h.len]; exact hi)] at hT
    obtain ⟨b', m', c', h1, h2⟩ := h.row i T hT
    exact ⟨b', m', c', by rw [List.getElem?_append_left (by omega)]; exact h1, h2.keep hg.size hK⟩
  · rw [List.getElem?_append_right (by rw [h.len]; omega), h.len] at hT
    have hik : i = k := by
      have := (List.getElem?_eq_some_iff.1 hT).1
      simp at this; omega
    subst hik
    rw [Nat.sub_self, List.getElem?_cons_zero, Option.some.injEq] at hT
    subst hT
    exact ⟨b, m, c, by rw [List.getElem?_append_right (by omega), hvl, Nat.sub_self]; rfl, hS.keep hg.size hK⟩
theorem RowsO.rows {lo : Nat} {w : World} {a : Option Addr} {n c k : Nat} {LL : List (List Nat)} {vs : List Value} (h : RowsO lo w (.slice a n c) k LL vs) : k = n ∧ RowsI w a n LL := by
  have hk : k = n := by
    rcases h.own.2 with ⟨hv, h0⟩ | ⟨g, cap, cur, hv, _⟩
    · cases hv; omega
    · cases hv; rfl
  subst hk
  exact ⟨rfl, vs, SlR.of_owns h.own, h.len, fun i S hS => by
    obtain ⟨b, m, c', h1, h2⟩ := h.row i S hS
    exact ⟨b, m, c', h1, h2.1⟩⟩
/-- The explanations: of all sets that explain those of the least size. -/
def xpS (p : List Nat → Bool) (m : Nat) : Nat → Nat → List (List Nat) × Int
  | 0, _ => ([], 12)
  | t + 1, k => if (ext m k 0).filter p ≠ [] then ((ext m k 0).filter p, 0) else xpS p m t (k + 1)
def xplE (s l : List T3) (fs : List Int) (rs : List (Int × Int)) : List (List Nat) × Int :=
  if askE s l fs rs ≠ 0 then ([], askE s l fs rs) else xpS (fun S => expB s l fs rs (nats S)) l.length (l.length + 1) 0
end Go.Proofs.YtdklmcicogmeaaaGreat

/- The sets of a size: the iterator that the program makes, and its call. -/
namespace Go.Proofs.YtdklmcicogmeaaaGreat
open Go.RowKit Go.Shelf
set_option linter.unusedVariables false

theorem cf_subsets1 (args : Array Value) (w : World) : (callFunc 114 args).run Tryz.prog w = .ok (.enter 114 args) w := by kernel_rfl
theorem subsets_any (c k : Int) (w : World) : Calls Tryz.prog 64 #[.int .i64 c, .int .i64 k] w fun e' w' => e' = .returned (.func (.func 114) #[] #[.pointer (some ⟨w.heap.size, 0, none⟩), .pointer (some ⟨w.heap.size + 1, 0, none⟩)]) ∧ Below w.heap.size w w' ∧ w.heap.size + 1 < w'.heap.size ∧ w'.heap[w.heap.size]? = some (.cells #[.int .i64 c] 3) ∧ w'.heap[w.heap.size + 1]? = some (.cells #[.int .i64 k] 3) := by
  go_enter Tryz.func64, Tryz.ntmps64
  go_wp2
  refine bodyPost_ret (v := .func (.func 114) #[] #[.pointer (some ⟨w.heap.size, 0, none⟩), .pointer (some ⟨w.heap.size + 1, 0, none⟩)]) (by simp [results, Tryz.results64, go_sem]) rfl ⟨rfl, ?_, ?_, ?_, ?_⟩
  · (repeat' (first | (with_reducible exact Below.refl _ _) | (with_reducible assumption) | (with_reducible refine Below.drewN ?_ _) | (with_reducible refine Below.alloc ?_ ?_ _) | (with_reducible refine Below.drew ?_) | (with_reducible refine Below.setCell ?_ ?_ _) | (with_reducible refine Below.step (by assumption) ?_ ?_) | (with_reducible exact And.left (by assumption)) | go_size))
  · simp
  · rw [Below.heap_alloc _ _ _ (by simp)]; exact heap_alloc_new _ _
  · have := heap_alloc_new (w.alloc (Obj.cells #[.int .i64 c] 3)) (Obj.cells #[.int .i64 k] 3)
    simpa using this
set_option maxHeartbeats 1000000 in
set_option maxRecDepth 100000 in
theorem subsets1_calls (lr c k x y B0 : Nat) (J : List (List Nat) → World → Prop) (Jx : World → Prop) (W : World) (hc : c ≤ 1000) (hk : k ≤ 1000)
    (hJ : ∀ L A B, J L A → Below A.heap.size A B → J L B) (hZ : ∀ L A, J L A → B0 ≤ A.heap.size)
    (hY : ∀ L S a cap A, (L ++ [S]) <+: ext c k 0 → J L A → S.length = k → (∀ x ∈ S, x < c) → A.ownsRow B0 3 1 (.slice a k cap) k (icells (nats S)) → YieldAt Fence.wide 1 Tryz.prog lr #[.slice a k cap] A (fun e B => (e = .returned (.bool true) ∧ J (L ++ [S]) B ∧ KeepI B0 A B) ∨ (e = .returned (.bool false) ∧ Jx B)))
    (hx : W.cell? ⟨x, 0, none⟩ = some (.int .i64 c)) (hy : W.cell? ⟨y, 0, none⟩ = some (.int .i64 k)) (h0 : J [] W) :
    Calls Tryz.prog 114 #[.func (.yield lr) #[] #[], .pointer (some ⟨x, 0, none⟩), .pointer (some ⟨y, 0, none⟩)] W (fun e B => (∃ v, e = .returned v) ∧ (J (ext c k 0) B ∨ Jx B)) := by
  have HC := Lib.hid (extended_calls (ext c k 0) lr c k B0 J Jx hc hk hJ hZ hY k [] 0 0 0 [] none 0 W rfl rfl (by omega) (by omega) (by simp) (World.ownsRow_nil _ _ _ _) h0 (by simp))
  clear hJ hZ hY h0
  go_enter Tryz.func114, Tryz.ntmps114
  go_wp2_with fail
  refine (HC.out).mono ?_
  rintro e B (⟨rfl, h1, _⟩ | ⟨rfl, h1⟩)
  · have h1 : J (ext c k 0) B := by simpa using h1
    go_wp2
    go_end0
    exact ⟨⟨_, rfl⟩, .inl h1⟩
  · go_wp2
    go_end0
    exact ⟨⟨_, rfl⟩, .inr h1⟩
end Go.Proofs.YtdklmcicogmeaaaGreat
