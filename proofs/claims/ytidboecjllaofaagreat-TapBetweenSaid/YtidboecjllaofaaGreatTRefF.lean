import Derived.Test.YtidboecjllaofaaGreatUTRat
/- What a contact breaks in the reference. -/
namespace Go.Proofs.YtidboecjllaofaaGreat
open Go.RowKit Go.Shelf
set_option linter.unusedVariables false
set_option linter.unusedSimpArgs false
attribute [local go_sem] Oper.semAt_some
def rbrE (m : Mac) (s i : Nat) : Int := if s.testBit i = false then 20 else if curE m s ≠ 0 then curE m s else curE m (trn s i)
def rbrV (m : Mac) (l : Lim) (s i : Nat) (load : Int) : (Int × Int) × (Int × Int) := if rbrE m s i = 0 then (brkC m l s i load, brkV m l s i load) else ((0, 0), (0, 0))
def brkQ (m : Mac) (l : Lim) (s i : Nat) (load : Int) : Rat := ((volA m l i : Int) : Rat) - outQ m l (trn s i) load
theorem brkQ_frR {m : Mac} {l : Lim} {s i : Nat} {load : Int} (he : ElV m l (trn s i) load) : frR (brkQ m l s i load) = brkW m l (trn s i) i load := by
 have hD := he.vo.1
 unfold brkQ outQ brkW
 rw [← divInt_1 (volA m l i), Rat.divInt_sub_divInt _ _ (by decide) (by omega), frR_low (by rw [Int.one_mul]; exact hD)]
theorem brkW_small {m : Mac} {l : Lim} {s i : Nat} {load : Int} (he : ElV m l (trn s i) load) (hi : i < m.br.length) : (brkW m l (trn s i) i load).1.natAbs ≤ 1000000000 ∧ 0 < (brkW m l (trn s i) i load).2 ∧ (brkW m l (trn s i) i load).2 ≤ 1000000000 := by
 obtain ⟨d0, d1, hn⟩ := he.vo
 obtain ⟨v0, v1⟩ := vol_bd he.hm he.hl hi
 obtain ⟨_, p, q, r⟩ := low_props (a := volA m l i * (outT m l (trn s i) load).2 - (outT m l (trn s i) load).1 * 1) (b := 1 * (outT m l (trn s i) load).2) (by rw [Int.one_mul]; exact d0)
 unfold brkW
 have h1 : (volA m l i * (outT m l (trn s i) load).2).natAbs ≤ 1000 * 15120 := mulB (by omega) (by omega)
 refine ⟨?_, p, by omega⟩
 generalize volA m l i * (outT m l (trn s i) load).2 = x at *
 omega
end Go.Proofs.YtidboecjllaofaaGreat
