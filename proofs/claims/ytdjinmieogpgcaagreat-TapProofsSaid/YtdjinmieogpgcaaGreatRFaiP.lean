import Derived.Test.YtdjinmieogpgcaaGreatMTReaR
/- The first failure, the reference: what its search keeps in memory. -/
namespace Go.Proofs.YtdjinmieogpgcaaGreat
open Go.RowKit Go.Shelf
set_option linter.unusedVariables false
theorem infoRow6 : (Tryz.prog.info? 48).map (fun i => (i.zero, i.size, i.bytes)) = some (some (.slice none 0 0), 1, 24) := by kernel_rfl
theorem own_ty {w : World} {b1 b2 s1 s2 n1 n2 : Nat} {e1 e2 : TypeId} {v1 v2 : Value} {x1 x2 : List Value} (h1 : w.ownsRow b1 e1 s1 v1 n1 x1) (h2 : w.ownsRow b2 e2 s2 v2 n2 x2) (he : e1 ≠ e2) : ∀ g, v1.ownBlock = some g → v2.ownBlock ≠ some g := by
 intro g hg hg2
 rcases h1.2 with ⟨rfl, _⟩ | ⟨g1, cap1, cur1, rfl, _, hg1, _⟩
 ·simp [Value.ownBlock] at hg
 ·rcases h2.2 with ⟨rfl, _⟩ | ⟨g2, cap2, cur2, rfl, _, hgg2, _⟩
  ·simp [Value.ownBlock] at hg2
  ·simp only [Value.ownBlock, Option.some.injEq] at hg hg2
   subst hg; subst hg2
   rw [hg1] at hgg2
   simp only [Option.some.injEq, Obj.cells.injEq] at hgg2
   exact he hgg2.2.1
def RunV (a5 : Nat) (vo : Value) (r : List Nat) (v : Value) (B : World) : Prop := ∃ a c, v = .slice a r.length c ∧ B.ownsRow a5 3 1 v r.length (icells (nats r)) ∧ ∀ g, v.ownBlock = some g → vo.ownBlock ≠ some g
theorem RunV.below {a5 : Nat} {vo v : Value} {r : List Nat} {A B : World} (h : RunV a5 vo r v A) (hb : Below A.heap.size A B) : RunV a5 vo r v B := by
 obtain ⟨a, c, h1, h2, h3⟩ := h
 exact ⟨a, c, h1, owns_below h2 hb (fun z hz => (h2.lt z hz).2), h3⟩
theorem RunV.set {a5 : Nat} {vo v : Value} {r : List Nat} {A : World} {b i : Nat} {t : TypeId} {c : Array Value} {x : Value} (h : RunV a5 vo r v A) (hb : A.heap[b]? = some (.cells c t)) (ht : 3 ≠ t) : RunV a5 vo r v (A.setCell ⟨b, i, none⟩ x) := by
 obtain ⟨a, c, h1, h2, h3⟩ := h
 exact ⟨a, c, h1, own_setO h2 hb ht, h3⟩
theorem RunV.pushO {a5 : Nat} {vo vo' v : Value} {r : List Nat} {A B : World} (h : RunV a5 vo r v A) (hg : A.grownBy B vo.ownBlock) (hbl : vo'.ownBlock = vo.ownBlock ∨ vo'.ownBlock = some A.heap.size) : RunV a5 vo' r v B := by
 obtain ⟨a, c, h1, h2, h3⟩ := h
 refine ⟨a, c, h1, own_apart h2 hg h3, fun g hgv => ?_⟩
 rcases hbl with e | e
 ·rw [e]; exact h3 g hgv
 ·rw [e]
  have := (h2.lt g hgv).2
  intro h
  simp only [Option.some.injEq] at h
  omega
theorem RunV.pushR {a5 n : Nat} {vo vr v : Value} {r : List Nat} {vs : List Value} {A B : World} (h : RunV a5 vo r v A) (hr : A.ownsRow a5 48 1 vr n vs) (hg : A.grownBy B vr.ownBlock) : RunV a5 vo r v B := by
 obtain ⟨a, c, h1, h2, h3⟩ := h
 exact ⟨a, c, h1, own_apart h2 hg (own_ty h2 hr (by decide)), h3⟩
def RunL (a5 : Nat) (vo : Value) (Rs : List (List Nat)) (vs : List Value) (B : World) : Prop := vs.length = Rs.length ∧ ∀ (i : Nat) (r : List Nat), Rs[i]? = some r → ∃ v, vs[i]? = some v ∧ RunV a5 vo r v B
structure RfO (w : World) (a5 : Nat) (c1 c3 : Array Value) (X1 X2 X3 N : Nat) (Ks Os : List Nat) (Rs : List (List Nat)) (vo vr : Value) (B : World) : Prop where
 k1 : BlkR B X1 (.cells c1 45)
 k2 : BlkR B X2 (.cells (kwN N Ks) 4)
 k3 : BlkR B X3 (.cells c3 47)
 op : B.ownsRow a5 3 1 vo Os.length (icells (nats Os))
 rn : ∃ vs, B.ownsRow a5 48 1 vr Rs.length vs ∧ RunL a5 vo Rs vs B
 bw : Below w.heap.size w B
 sz : a5 ≤ B.heap.size
section
variable {w A B : World} {a5 X1 X2 X3 N : Nat} {c1 c3 : Array Value} {Ks Os : List Nat} {Rs : List (List Nat)} {vo vr : Value}
theorem RfO.below (h : RfO w a5 c1 c3 X1 X2 X3 N Ks Os Rs vo vr A) (hb : Below A.heap.size A B) : RfO w a5 c1 c3 X1 X2 X3 N Ks Os Rs vo vr B := by
 obtain ⟨vs, h1, h2, h3⟩ := h.rn
 exact ⟨h.k1.below hb, h.k2.below hb, h.k3.below hb, owns_below h.op hb (fun z hz => (h.op.lt z hz).2), ⟨vs, owns_below h1 hb (fun z hz => (h1.lt z hz).2), h2, fun i r hr => by obtain ⟨v, g1, g2⟩ := h3 i r hr; exact ⟨v, g1, g2.below hb⟩⟩, h.bw.trans (hb.mono h.bw.size), Nat.le_trans h.sz hb.size⟩
theorem RfO.set (h : RfO w a5 c1 c3 X1 X2 X3 N Ks Os Rs vo vr A) (h1 : X1 ≠ X2) (h3 : X3 ≠ X2) (hw : w.heap.size ≤ X2) (T : Nat) : RfO w a5 c1 c3 X1 X2 X3 N (Ks ++ [T]) Os Rs vo vr (A.setCell ⟨X2, T, none⟩ (.bool true)) := by
 obtain ⟨vs, g1, g2, g3⟩ := h.rn
 exact ⟨(heap_set_neI h1).trans h.k1, by rw [← kwN_set]; exact blk_set h.k2 T _, (heap_set_neI h3).trans h.k3, own_setO h.op h.k2 (by decide), ⟨vs, own_setO g1 h.k2 (by decide), g2, fun i r hr => by obtain ⟨v, q1, q2⟩ := g3 i r hr; exact ⟨v, q1, q2.set h.k2 (by decide)⟩⟩, h.bw.setCell hw _, by simpa using h.sz⟩
theorem RfO.pushO (h : RfO w a5 c1 c3 X1 X2 X3 N Ks Os Rs vo vr A) {vo' : Value} {T : Nat} (ho : B.ownsRow a5 3 1 vo' (Os.length + 1) (icells (nats Os) ++ [.int .i64 (T : Int)])) (hg : A.grownBy B vo.ownBlock) (hbl : vo'.ownBlock = vo.ownBlock ∨ vo'.ownBlock = some A.heap.size) (hb : Below a5 A B) (hw : w.heap.size ≤ a5) :
    RfO w a5 c1 c3 X1 X2 X3 N Ks (Os ++ [T]) Rs vo' vr B := by
 obtain ⟨vs, g1, g2, g3⟩ := h.rn
 refine ⟨h.k1.other h.op hg (by decide), h.k2.other h.op hg (by decide), h.k3.other h.op hg (by decide), ?_, ⟨vs, own_apart g1 hg (own_ty g1 h.op (by decide)), g2, fun i r hr => by obtain ⟨v, q1, q2⟩ := g3 i r hr; exact ⟨v, q1, q2.pushO hg hbl⟩⟩, h.bw.trans (hb.mono hw), Nat.le_trans h.sz hb.size⟩
 rw [List.length_append, List.length_singleton]
 unfold nats
 rw [List.map_append, icells_append]
 exact ho
theorem RfO.pushR (h : RfO w a5 c1 c3 X1 X2 X3 N Ks Os Rs vo vr A) {vr' v : Value} {r : List Nat} {vs : List Value} (hr : A.ownsRow a5 48 1 vr Rs.length vs) (hl : RunL a5 vo Rs vs A) (hv : RunV a5 vo r v A) (ho : B.ownsRow a5 48 1 vr' (Rs.length + 1) (vs ++ [v])) (hg : A.grownBy B vr.ownBlock) (hb : Below a5 A B) (hw : w.heap.size ≤ a5) :
    RfO w a5 c1 c3 X1 X2 X3 N Ks Os (Rs ++ [r]) vo vr' B := by
 refine ⟨h.k1.other hr hg (by decide), h.k2.other hr hg (by decide), h.k3.other hr hg (by decide), own_apart h.op hg (own_ty h.op hr (by decide)), ⟨vs ++ [v], by rw [List.length_append, List.length_singleton]; exact ho, by rw [List.length_append, List.length_append, hl.1]; rfl, fun i q hq => ?_⟩, h.bw.trans (hb.mono hw), Nat.le_trans h.sz hb.size⟩
 by_cases hi : i < Rs.length
 ·rw [List.getElem?_append_left hi] at hq
  obtain ⟨u, q1, q2⟩ := hl.2 i q hq
  exact ⟨u, by rw [List.getElem?_append_left (by rw [hl.1]; exact hi)]; exact q1, q2.pushR hr hg⟩
 ·rw [List.getElem?_append_right (by omega)] at hq
  have hii : i = Rs.length := by
   have := (List.getElem?_eq_some_iff.1 hq).1
   simp at this; omega
  subst hii
  simp at hq
  subst hq
  exact ⟨v, by rw [List.getElem?_append_right (by rw [hl.1]; exact Nat.le_refl _), hl.1]; simp, hv.pushR hr hg⟩
end
theorem wpList_app7 {ops : Array Oper} {rest : List Oper} {o : Oper} {a : Act} {Q : Exit → Act → World → Prop} (w : World) (hgd : o.guard = none) (s x : Operand)
    (ho : o.op = .call { callee := .builtin .append, args := #[s, x], argTypes := #[113, 113] }) (base n B : Nat) (v : Value) (xs : List Value) (u : Value) (hs : a.eval s = v)
    (hown : w.ownsRow base 48 1 v n xs) (hx : a.eval x = .slice (some ⟨B, 0, none⟩) 1 1) (hc : w.cell? ⟨B, 0, none⟩ = some u) (h1 : u.oneCell' = true) (hn : n ≤ 1000000) (hbase : base ≤ w.heap.size)
    (h : ∀ v' w', w'.ownsRow base 48 1 v' (n + 1) (xs ++ [u]) → w.grownBy w' v.ownBlock → (v'.ownBlock = v.ownBlock ∨ v'.ownBlock = some w.heap.size) → Below base w w' → wpList Tryz.prog ops Q rest (a.put o.dst v') w') : wpList Tryz.prog ops Q (o :: rest) a w := by
 obtain ⟨i, hi1, hi2, hi3, hi4⟩ := info_parts infoRow6
 have hmul : (n + 1) * 24 ≤ 1000001 * 24 := Nat.mul_le_mul (by omega) (by omega)
 refine wpList_append_own_at w hgd s x 113 ho base 48 i _ 1 24 Tryz.underlying113 hi1 hi2 hi3 hi4 rfl (by omega) v n xs hs hown ⟨B, 0, none⟩ 1 1 [u] hx rfl (fun j u' hu => ?_) (fun u' hu => ?_) (by unfold maxLen; omega) (by omega) hbase
  (fun v' w' h2 h3 _ h5 => h v' w' h2 h3 h5 ((Below.refl base w).grown h3 hbase (fun k hk => (hown.lt k hk).1)))
 ·rcases j with _ | j
  ·simp at hu; subst hu; simpa [Addr.add] using hc
  ·simp at hu
 ·simp at hu; subst hu; exact h1
theorem find_fst {p : Nat → Bool} : ∀ (cs : List Nat) (j : Nat), j < cs.length → (∀ i, i < j → p (cs.getD i 0) = false) → p (cs.getD j 0) = true → cs.find? p = some (cs.getD j 0)
 | c :: r, 0, _, _, h => by
  have h' : p c = true := h
  rw [List.find?_cons, h']; rfl
 | c :: r, j + 1, hj, h0, h => by
  have h' : p c = false := h0 0 (by omega)
  rw [List.find?_cons, h']
  exact find_fst r j (by simpa using hj) (fun i hi => h0 (i + 1) (by omega)) h
end Go.Proofs.YtdjinmieogpgcaaGreat
