import Derived.Maps.OwnSet
import Derived.Maps.OwnOps
import Derived.DeepKeys4
import Derived.Test.YtidboecjllaofaaGreatME
import Derived.Test.YtidboecjllaofaaGreatTReg1
/- A map of the call's own, as a function from keys to elements. -/
namespace Go.Proofs.YtidboecjllaofaaGreat
open Go.RowKit
set_option linter.unusedVariables false

/-- An element reads as itself. -/
def heldR (v : Value) : Option (DataW Value × List MemPlace) := some (.held v, [])
section
variable {P : Program} {α : Type} {K t e : TypeId} {kv : α → Value} {kl : α → Lit} {ok : α → Prop}
/-- What the laws ask of the keys. -/
structure KeyG (P : Program) (K : TypeId) (kv : α → Value) (kl : α → Lit) (ok : α → Prop) : Prop where
  kd : Go.Maps.Keyed P K
  of : ∀ a, ok a → keyOf P K (kv a) = some (kl a)
  lit : ∀ a, ok a → WideAt.IsKeyLit (kl a)
  inj : ∀ a b, ok a → ok b → kl a = kl b → a = b
/-- The map at block b has the elements that f tells (at most n). -/
def MapG (P : Program) (K : TypeId) (kl : α → Lit) (ok : α → Prop) (w : World) (b n : Nat) (f : α → Option Value) : Prop :=
  ∃ D, w.ownsMap P K heldR b n D ∧ ∀ a, ok a → Maps.has D (kl a) = (f a).isSome ∧ ∀ v, f a = some v → ∀ z, D.atKey (kl a) z = .held v
variable {w : World} {b n : Nat} {f : α → Option Value}
theorem MapG.made (w : World) : MapG P K kl ok (w.alloc (.map #[] 0)) w.heap.size 0 (fun _ => none) :=
  ⟨.map [], World.ownsMap_made w P K heldR, fun a _ => ⟨rfl, fun v h => by cases h⟩⟩
theorem MapG.lt (h : MapG P K kl ok w b n f) : b < w.heap.size := by obtain ⟨D, h1, _⟩ := h; exact h1.lt
theorem MapG.other {w' : World} (h : MapG P K kl ok w b n f) (ho : ∀ o, w.heap[b]? = some o → (∀ c t z, o ≠ .cells c t z) → (∀ r, o ≠ .loop r) → w'.heap[b]? = some o) : MapG P K kl ok w' b n f := by
  obtain ⟨D, ⟨es, clock, hb, h2⟩, h3⟩ := h
  exact ⟨D, ⟨es, clock, ho _ hb (fun _ _ _ h => by cases h) (fun _ h => by cases h), h2⟩, h3⟩
theorem MapG.below {w' : World} (h : MapG P K kl ok w b n f) (hb : Below w.heap.size w w') : MapG P K kl ok w' b n f :=
  h.other fun o ho _ _ => (hb.block b (Array.getElem?_eq_some_iff.1 ho).1).trans ho
theorem MapG.put {l : Nat} {r r' : Loop} (h : MapG P K kl ok w b n f) (hl : w.heap[l]? = some (.loop r)) : MapG P K kl ok (w.putObj l (.loop r')) b n f :=
  h.other fun o ho _ h2 => (World.putObj_heap_other (by rintro rfl; rw [hl] at ho; simp only [Option.some.injEq] at ho; exact h2 _ ho.symm)).trans ho
theorem MapG.set {X i : Nat} {c : Array Value} {t' : TypeId} {v : Value} (h : MapG P K kl ok w b n f) (hx : w.heap[X]? = some (.cells c t')) : MapG P K kl ok (w.setCell ⟨X, i, none⟩ v) b n f :=
  h.other fun o ho h1 _ => by
    rw [show (w.setCell ⟨X, i, none⟩ v).heap[b]? = w.heap[b]? from by
      have hne : X ≠ b := by rintro rfl; rw [hx] at ho; simp only [Option.some.injEq] at ho; exact h1 _ _ _ ho.symm
      simp [World.setCell, Array.getElem?_modify, hne]]
    exact ho
theorem MapG.look_ok (hk : KeyG P K kv kl ok) (ht : P.underlying t = some (.map K e)) {z : Value} (hz : (zeroValue e).run P w = .ok z w) (h : MapG P K kl ok w b n f) {a : α} (ha : ok a) :
    (Instr.lookup t (.map (some b)) (kv a) true).run P w = .ok (.tuple #[(f a).getD z, .bool (f a).isSome]) w := by
  obtain ⟨D, h1, h2⟩ := h
  obtain ⟨h3, h4⟩ := h2 a ha
  obtain ⟨v, ps, hr, hv⟩ := h1.look_ok hk.kd ht hz (show heldR z = some (.held z, []) from rfl) (hk.of a ha)
  rw [hr, h3]
  have hv : DataW.held v = D.atKey (kl a) (.held z) := by
    unfold heldR at hv
    simp only [Option.some.injEq, Prod.mk.injEq] at hv
    exact hv.1
  cases hf : f a with
  | some v0 =>
    rw [h4 v0 hf] at hv
    injection hv with hv
    subst hv
    rfl
  | none =>
    rw [hf] at h3
    rw [Maps.atKey_of_not_has h3] at hv
    injection hv with hv
    subst hv
    rfl
theorem MapG.look (hk : KeyG P K kv kl ok) (ht : P.underlying t = some (.map K e)) {z : Value} (hz : (zeroValue e).run P w = .ok z w) (h : MapG P K kl ok w b n f) {a : α} (ha : ok a) {v0 : Value} (hf : f a = some v0) :
    (Instr.lookup t (.map (some b)) (kv a) false).run P w = .ok v0 w := by
  obtain ⟨D, h1, h2⟩ := h
  obtain ⟨h3, h4⟩ := h2 a ha
  obtain ⟨v, ps, hr, hv⟩ := h1.lookup hk.kd ht hz (show heldR z = some (.held z, []) from rfl) (hk.of a ha)
  rw [hr]
  unfold heldR at hv
  simp only [Option.some.injEq, Prod.mk.injEq] at hv
  have hv := hv.1
  rw [h4 v0 hf] at hv
  injection hv with hv
  subst hv
  rfl
theorem MapG.store [DecidableEq α] (hk : KeyG P K kv kl ok) (ht : P.underlying t = some (.map K e)) (hn : n < maxLen) (h : MapG P K kl ok w b n f) {a : α} (ha : ok a) (v : Value) :
    ∃ w', (Instr.mapUpdate t (.map (some b)) (kv a) v).run P w = .ok () w' ∧ MapG P K kl ok w' b (n + 1) (fun x => if x = a then some v else f x) ∧ w.grownBy w' (some b) ∧ (∀ o, w'.heap[b]? = some o → ∀ c t z, o ≠ .cells c t z) := by
  obtain ⟨D, h1, h2⟩ := h
  obtain ⟨w', hr, h3, h4⟩ := h1.store hk.kd ht hn (hk.of a ha) (show heldR v = some (.held v, []) from rfl)
  refine ⟨w', hr, ⟨_, h3, fun x hx => ?_⟩, h4.grown, ?_⟩
  · by_cases hxa : x = a
    · subst hxa
      show Maps.has _ _ = (if x = x then some v else f x).isSome ∧ ∀ u, (if x = x then some v else f x) = some u → ∀ z, _
      rw [if_pos rfl]
      refine ⟨Maps.has_put_same h1.isMap (hk.lit x hx) _, fun u hu z => ?_⟩
      rw [Maps.atKey_put_same h1.isMap (hk.lit x hx)]
      injection hu with hu
      rw [hu]
    · show Maps.has _ _ = (if x = a then some v else f x).isSome ∧ ∀ u, (if x = a then some v else f x) = some u → ∀ z, _
      rw [if_neg hxa]
      have hne : kl x ≠ kl a := fun e => hxa (hk.inj x a hx ha e)
      refine ⟨by rw [Maps.has_put_other hne]; exact (h2 x hx).1, fun u hu z => ?_⟩
      rw [Maps.atKey_put_other hne]
      exact (h2 x hx).2 u hu z
  · obtain ⟨es, clock, hb, _⟩ := h3
    intro o ho c t' z hh
    rw [hb] at ho
    subst hh
    cases ho
end
end Go.Proofs.YtidboecjllaofaaGreat

/- Moments and pairs as keys of maps. -/
namespace Go.Proofs.YtidboecjllaofaaGreat
open Go.RowKit
set_option linter.unusedVariables false
set_option linter.unusedSimpArgs false

theorem laidAll : laidOutB Tryz.prog = true := by kernel_rfl
theorem rowMom : 27 < Tryz.prog.types.size := of_decide_eq_true (by kernel_rfl)
theorem rowPai : 29 < Tryz.prog.types.size := of_decide_eq_true (by kernel_rfl)
theorem lawMom : WideMaps.KeyLaw Tryz.prog 27 := deep_law_laid laidAll (m := 3) (by omega) rowMom (by kernel_rfl) (by kernel_rfl)
theorem lawPai : WideMaps.KeyLaw Tryz.prog 29 := deep_law_laid laidAll (m := 4) (by omega) rowPai (by kernel_rfl) (by kernel_rfl)
theorem someSize : ∃ d, Tryz.prog.types.size = d + 5 := ⟨Tryz.prog.types.size - 5, by kernel_rfl⟩
theorem cellsInt : Tryz.prog.cellsOf 3 = 1 := by kernel_rfl
theorem cellsMom : Tryz.prog.cellsOf 27 = 2 := by kernel_rfl
theorem cellsReg : Tryz.prog.cellsOf 25 = 6 := by kernel_rfl
theorem cellsRng : Tryz.prog.cellsOf 23 = 2 := by kernel_rfl
theorem cellsPai : Tryz.prog.cellsOf 29 = 16 := by kernel_rfl
theorem litsInt {d : Nat} {a : Int} (h : (Lit.int .i64 a).wf = true) : Tryz.prog.keyLits (d + 1) 3 [.int .i64 a] = some [.int .i64 a] := by
  simp [Program.keyLits, Tryz.underlying3, h]
theorem litsMom {d : Nat} {a b : Int} (h1 : (Lit.int .i64 a).wf = true) (h2 : (Lit.int .i64 b).wf = true) : Tryz.prog.keyLits (d + 2) 27 [.int .i64 a, .int .i64 b] = some [.int .i64 a, .int .i64 b] := by
  simp [Program.keyLits, Tryz.underlying27, Tryz.underlying3, cellsMom, cellsInt, h1, h2]
theorem litsRng {d : Nat} {a b : Int} (h1 : (Lit.int .i64 a).wf = true) (h2 : (Lit.int .i64 b).wf = true) : Tryz.prog.keyLits (d + 2) 23 [.int .i64 a, .int .i64 b] = some [.int .i64 a, .int .i64 b] := by
  simp [Program.keyLits, Tryz.underlying23, Tryz.underlying3, cellsRng, cellsInt, h1, h2]
theorem litsReg {d : Nat} {a b c e f g : Int} (h1 : (Lit.int .i64 a).wf = true) (h2 : (Lit.int .i64 b).wf = true) (h3 : (Lit.int .i64 c).wf = true) (h4 : (Lit.int .i64 e).wf = true) (h5 : (Lit.int .i64 f).wf = true) (h6 : (Lit.int .i64 g).wf = true) :
    Tryz.prog.keyLits (d + 3) 25 [.int .i64 a, .int .i64 b, .int .i64 c, .int .i64 e, .int .i64 f, .int .i64 g] = some [.int .i64 a, .int .i64 b, .int .i64 c, .int .i64 e, .int .i64 f, .int .i64 g] := by
  unfold Program.keyLits
  simp [Tryz.underlying25, cellsReg, cellsInt, cellsRng, litsInt h1, litsInt h2, litsInt h3, litsInt h4, litsRng h5 h6]
def momL (m : Mom) : Lit := .string (keyBytes [.int .i64 m.tap, .int .i64 m.wait])
def okM (m : Mom) : Prop := (-1000 ≤ m.tap ∧ m.tap ≤ 1000) ∧ -1000 ≤ m.wait ∧ m.wait ≤ 1000
theorem momKey (m : Mom) (h : okM m) : keyOf Tryz.prog 27 (momV m) = some (momL m) := by
  obtain ⟨⟨h1, h2⟩, h3, h4⟩ := h
  obtain ⟨d, hd⟩ := someSize
  unfold keyOf momV momL
  rw [Tryz.underlying27]
  have h5 : Tryz.prog.keyType 27 = true := by kernel_rfl
  have h6 : (Value.agg #[.int .i64 m.tap, .int .i64 m.wait]).formed Tryz.prog 27 = true := by simp [Value.formed, Tryz.underlying27, cellsMom]
  rw [h5, h6, hd]
  have h7 := litsMom (d := d + 4) (a := m.tap) (b := m.wait) (WalkArith.wf_i64 (by omega)) (WalkArith.wf_i64 (by omega))
  simp [Value.cells, h7]
theorem momKeys : KeyG Tryz.prog 27 momV momL okM := ⟨Go.Maps.Keyed.of_law lawMom, momKey, fun a ha => by
  obtain ⟨s, hs⟩ := lawMom.str (momKey a ha)
  rw [hs]; trivial, fun a b ha hb h => by
  have h1 := momKey a ha
  rw [h] at h1
  have := lawMom.inj h1 (momKey b hb)
  unfold momV at this
  obtain ⟨a1, a2⟩ := a
  obtain ⟨b1, b2⟩ := b
  simp at this
  obtain ⟨rfl, rfl⟩ := this
  rfl⟩
def paiV (p : Pai) : Value := .agg (paiC p).toArray
def paiI (p : Pai) : List Int := [p.a.tgt, p.a.band, p.a.dly, p.a.stp, p.a.lo, p.a.hi, p.b.tgt, p.b.band, p.b.dly, p.b.stp, p.b.lo, p.b.hi, p.ma.tap, p.ma.wait, p.mb.tap, p.mb.wait]
def paiL (p : Pai) : Lit := .string (keyBytes ((paiI p).map (Lit.int .i64)))
def okI (x : Int) : Prop := -100000 ≤ x ∧ x ≤ 100000
def okP (p : Pai) : Prop := (okI p.a.tgt ∧ okI p.a.band ∧ okI p.a.dly ∧ okI p.a.stp ∧ okI p.a.lo ∧ okI p.a.hi) ∧ (okI p.b.tgt ∧ okI p.b.band ∧ okI p.b.dly ∧ okI p.b.stp ∧ okI p.b.lo ∧ okI p.b.hi) ∧ (okI p.ma.tap ∧ okI p.ma.wait) ∧ okI p.mb.tap ∧ okI p.mb.wait
theorem okI_wf {x : Int} (h : okI x) : (Lit.int .i64 x).wf = true := WalkArith.wf_i64 (by unfold okI at h; omega)
theorem paiKey (p : Pai) (h : okP p) : keyOf Tryz.prog 29 (paiV p) = some (paiL p) := by
  obtain ⟨⟨a1, a2, a3, a4, a5, a6⟩, ⟨b1, b2, b3, b4, b5, b6⟩, ⟨c1, c2⟩, d1, d2⟩ := h
  obtain ⟨d, hd⟩ := someSize
  unfold keyOf
  rw [Tryz.underlying29]
  have h5 : Tryz.prog.keyType 29 = true := by kernel_rfl
  have h6 : (paiV p).formed Tryz.prog 29 = true := by simp [paiV, paiC, Value.formed, Tryz.underlying29, cellsPai]
  rw [h5, h6, hd]
  have h7 := litsReg (d := d + 2) (okI_wf a1) (okI_wf a2) (okI_wf a3) (okI_wf a4) (okI_wf a5) (okI_wf a6)
  have h8 := litsReg (d := d + 2) (okI_wf b1) (okI_wf b2) (okI_wf b3) (okI_wf b4) (okI_wf b5) (okI_wf b6)
  have h9 := litsMom (d := d + 3) (okI_wf c1) (okI_wf c2)
  have h10 := litsMom (d := d + 3) (okI_wf d1) (okI_wf d2)
  have h11 : Tryz.prog.keyLits (d + 5 + 1) 29 (paiV p).cells.toList = some ((paiI p).map (Lit.int .i64)) := by
    unfold Program.keyLits
    simp [Tryz.underlying29, paiV, paiC, paiI, Value.cells, cellsPai, cellsReg, cellsMom, h7, h8, h9, h10]
  simp only [Bool.and_self, if_true, h11]
  rfl
theorem paiKeys : KeyG Tryz.prog 29 paiV paiL okP := ⟨Go.Maps.Keyed.of_law lawPai, paiKey, fun a ha => by
  obtain ⟨s, hs⟩ := lawPai.str (paiKey a ha)
  rw [hs]; trivial, fun a b ha hb h => by
  have h1 := paiKey a ha
  rw [h] at h1
  have := lawPai.inj h1 (paiKey b hb)
  unfold paiV paiC at this
  obtain ⟨⟨_, _, _, _, _, _⟩, ⟨_, _, _, _, _, _⟩, ⟨_, _⟩, ⟨_, _⟩⟩ := a
  obtain ⟨⟨_, _, _, _, _, _⟩, ⟨_, _, _, _, _, _⟩, ⟨_, _⟩, ⟨_, _⟩⟩ := b
  simp at this
  obtain ⟨rfl, rfl, rfl, rfl, rfl, rfl, rfl, rfl, rfl, rfl, rfl, rfl, rfl, rfl, rfl, rfl⟩ := this
  rfl⟩
end Go.Proofs.YtidboecjllaofaaGreat
