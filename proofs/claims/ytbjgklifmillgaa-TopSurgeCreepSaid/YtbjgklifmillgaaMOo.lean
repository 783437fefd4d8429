import Derived.Test.YtbjgklifmillgaaExtreme
/- Three rows of the call's own. -/
namespace Go.Proofs.Ytbjgklifmillgaa
open Go.RowKit
set_option linter.unusedVariables false

/-- Two values that own no block in common. -/
def Dis (v v' : Value) : Prop := ∀ k, v.ownBlock = some k → v'.ownBlock ≠ some k
theorem Dis.symm {v v' : Value} (h : Dis v v') : Dis v' v := fun k h1 h2 => h k h2 h1
theorem Dis.kept {v v' : Value} (h : Dis v v') : v'.ownBlock = none ∨ v'.ownBlock ≠ v.ownBlock := by
  rcases hq : v'.ownBlock with _ | k
  · exact .inl rfl
  · exact .inr (fun h2 => h k h2.symm hq)
/-- Three rows of integers, each in a block of its own. -/
structure O3 (w : World) (base : Nat) (v1 v2 v3 : Value) (n1 n2 n3 : Nat) (l1 l2 l3 : List Int) : Prop where
  o1 : w.ownsRow base 3 1 v1 n1 (icells l1)
  o2 : w.ownsRow base 3 1 v2 n2 (icells l2)
  o3 : w.ownsRow base 3 1 v3 n3 (icells l3)
  d12 : Dis v1 v2
  d23 : Dis v2 v3
  d31 : Dis v3 v1
theorem O3.rot {w : World} {base : Nat} {v1 v2 v3 : Value} {n1 n2 n3 : Nat} {l1 l2 l3 : List Int} (h : O3 w base v1 v2 v3 n1 n2 n3 l1 l2 l3) : O3 w base v2 v3 v1 n2 n3 n1 l2 l3 l1 := ⟨h.o2, h.o3, h.o1, h.d23, h.d31, h.d12⟩
theorem O3.below {w w' : World} {base : Nat} {v1 v2 v3 : Value} {n1 n2 n3 : Nat} {l1 l2 l3 : List Int} (h : O3 w base v1 v2 v3 n1 n2 n3 l1 l2 l3) (hb : Below w.heap.size w w') : O3 w' base v1 v2 v3 n1 n2 n3 l1 l2 l3 :=
  ⟨owns_below h.o1 hb (fun q hq => (h.o1.lt q hq).2), owns_below h.o2 hb (fun q hq => (h.o2.lt q hq).2), owns_below h.o3 hb (fun q hq => (h.o3.lt q hq).2), h.d12, h.d23, h.d31⟩
theorem O3.set {w : World} {base b o : Nat} {v1 v2 v3 : Value} {n1 n2 n3 : Nat} {l1 l2 l3 : List Int} (h : O3 w base v1 v2 v3 n1 n2 n3 l1 l2 l3) (hb : b < base) (u : Value) : O3 (w.setCell ⟨b, o, none⟩ u) base v1 v2 v3 n1 n2 n3 l1 l2 l3 :=
  ⟨ownsRow_setCell_below h.o1 (a := ⟨b, o, none⟩) hb u, ownsRow_setCell_below h.o2 (a := ⟨b, o, none⟩) hb u, ownsRow_setCell_below h.o3 (a := ⟨b, o, none⟩) hb u, h.d12, h.d23, h.d31⟩
theorem O3.nil (w : World) (base : Nat) : O3 w base (.slice none 0 0) (.slice none 0 0) (.slice none 0 0) 0 0 0 [] [] [] :=
  ⟨World.ownsRow_nil _ _ _ _, World.ownsRow_nil _ _ _ _, World.ownsRow_nil _ _ _ _, (fun k h => by simp [Value.ownBlock] at h), (fun k h => by simp [Value.ownBlock] at h), (fun k h => by simp [Value.ownBlock] at h)⟩
theorem Dis.new {w : World} {base n sz : Nat} {e : TypeId} {v v' v2 : Value} {xs : List Value} (h : Dis v v2) (ho : w.ownsRow base e sz v2 n xs) (hat : v'.ownBlock = v.ownBlock ∨ v'.ownBlock = some w.heap.size) : Dis v' v2 := fun k hk h2 => by
  rcases hat with h1 | h1
  · rw [h1] at hk; exact h k hk h2
  · rw [h1] at hk
    simp only [Option.some.injEq] at hk
    have := (ho.lt k h2).2
    omega
/-- The first row has got one element more. -/
theorem O3.step {w w' : World} {base : Nat} {v1 v2 v3 v' : Value} {n1 n2 n3 : Nat} {l1 l2 l3 : List Int} {x : Int} (h : O3 w base v1 v2 v3 n1 n2 n3 l1 l2 l3) (hown : w'.ownsRow base 3 1 v' (n1 + 1) (icells l1 ++ [.int .i64 x])) (hg : w.grownBy w' v1.ownBlock) (hat : v'.ownBlock = v1.ownBlock ∨ v'.ownBlock = some w.heap.size) :
    O3 w' base v' v2 v3 (n1 + 1) n2 n3 (l1 ++ [x]) l2 l3 :=
  ⟨by rw [icells_append]; exact hown, h.o2.kept hg h.d12.kept, h.o3.kept hg h.d31.symm.kept, h.d12.new h.o2 hat, h.d23, (h.d31.symm.new h.o3 hat).symm⟩
end Go.Proofs.Ytbjgklifmillgaa

/- Three rows of integers and a fourth of any elements, each in a block of its own. -/
namespace Go.Proofs.Ytbjgklifmillgaa
open Go.RowKit
set_option linter.unusedVariables false

structure O4 (w : World) (base : Nat) (v1 v2 v3 : Value) (n1 n2 n3 : Nat) (l1 l2 l3 : List Int) (e : TypeId) (sz : Nat) (vp : Value) (np : Nat) (xs : List Value) : Prop where
  o : O3 w base v1 v2 v3 n1 n2 n3 l1 l2 l3
  op : w.ownsRow base e sz vp np xs
  p1 : Dis v1 vp
  p2 : Dis v2 vp
  p3 : Dis v3 vp
section
variable {w w' : World} {base : Nat} {v1 v2 v3 v' vp vq : Value} {n1 n2 n3 np sz : Nat} {l1 l2 l3 : List Int} {e : TypeId} {xs ys : List Value}
theorem O4.rot (h : O4 w base v1 v2 v3 n1 n2 n3 l1 l2 l3 e sz vp np xs) : O4 w base v2 v3 v1 n2 n3 n1 l2 l3 l1 e sz vp np xs := ⟨h.o.rot, h.op, h.p2, h.p3, h.p1⟩
theorem O4.below (h : O4 w base v1 v2 v3 n1 n2 n3 l1 l2 l3 e sz vp np xs) (hb : Below w.heap.size w w') : O4 w' base v1 v2 v3 n1 n2 n3 l1 l2 l3 e sz vp np xs :=
  ⟨h.o.below hb, owns_below h.op hb (fun q hq => (h.op.lt q hq).2), h.p1, h.p2, h.p3⟩
theorem O4.set {b o : Nat} (h : O4 w base v1 v2 v3 n1 n2 n3 l1 l2 l3 e sz vp np xs) (hb : b < base) (u : Value) : O4 (w.setCell ⟨b, o, none⟩ u) base v1 v2 v3 n1 n2 n3 l1 l2 l3 e sz vp np xs :=
  ⟨h.o.set hb u, ownsRow_setCell_below h.op (a := ⟨b, o, none⟩) hb u, h.p1, h.p2, h.p3⟩
theorem O4.nil (w : World) (base : Nat) (e : TypeId) (sz : Nat) : O4 w base (.slice none 0 0) (.slice none 0 0) (.slice none 0 0) 0 0 0 [] [] [] e sz (.slice none 0 0) 0 [] :=
  ⟨O3.nil _ _, World.ownsRow_nil _ _ _ _, (fun k h => by simp [Value.ownBlock] at h), (fun k h => by simp [Value.ownBlock] at h), (fun k h => by simp [Value.ownBlock] at h)⟩
/-- The first row has got one element more. -/
theorem O4.step {x : Int} (h : O4 w base v1 v2 v3 n1 n2 n3 l1 l2 l3 e sz vp np xs) (hown : w'.ownsRow base 3 1 v' (n1 + 1) (icells l1 ++ [.int .i64 x])) (hg : w.grownBy w' v1.ownBlock) (hat : v'.ownBlock = v1.ownBlock ∨ v'.ownBlock = some w.heap.size) :
    O4 w' base v' v2 v3 (n1 + 1) n2 n3 (l1 ++ [x]) l2 l3 e sz vp np xs :=
  ⟨h.o.step hown hg hat, h.op.kept hg h.p1.kept, h.p1.new h.op hat, h.p2, h.p3⟩
/-- The fourth row has got more. -/
theorem O4.stepP {m : Nat} (h : O4 w base v1 v2 v3 n1 n2 n3 l1 l2 l3 e sz vp np xs) (hown : w'.ownsRow base e sz vq m ys) (hg : w.grownBy w' vp.ownBlock) (hat : vq.ownBlock = vp.ownBlock ∨ vq.ownBlock = some w.heap.size) :
    O4 w' base v1 v2 v3 n1 n2 n3 l1 l2 l3 e sz vq m ys :=
  ⟨⟨h.o.o1.kept hg h.p1.symm.kept, h.o.o2.kept hg h.p2.symm.kept, h.o.o3.kept hg h.p3.symm.kept, h.o.d12, h.o.d23, h.o.d31⟩, hown, (h.p1.symm.new h.o.o1 hat).symm, (h.p2.symm.new h.o.o2 hat).symm, (h.p3.symm.new h.o.o3 hat).symm⟩
end
end Go.Proofs.Ytbjgklifmillgaa
