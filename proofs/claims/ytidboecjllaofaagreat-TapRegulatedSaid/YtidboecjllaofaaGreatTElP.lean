import Derived.Test.YtidboecjllaofaaGreatMB
import Derived.Test.YtidboecjllaofaaGreatTCur
/- The voltage of the output and currents, in plain words. -/
namespace Go.Proofs.YtidboecjllaofaaGreat
set_option linter.unusedVariables false

/-- The voltage of a contact's tap. -/
def volA (m : Mac) (l : Lim) (k : Nat) : Int := (bAt m.br k).tap * l.volt
def numL (m : Mac) (l : Lim) (load : Int) (L : List Nat) : Int := L.foldl (fun a k => a + volA m l k * (2520 / (bAt m.br k).res)) (-load * 2520)
def denL (m : Mac) (L : List Nat) : Int := L.foldl (fun a k => a + 2520 / (bAt m.br k).res) 0
theorem numL_snoc (m : Mac) (l : Lim) (load : Int) (L : List Nat) (k : Nat) : numL m l load (L ++ [k]) = numL m l load L + volA m l k * (2520 / (bAt m.br k).res) := by unfold numL; rw [List.foldl_append]; rfl
theorem denL_snoc (m : Mac) (L : List Nat) (k : Nat) : denL m (L ++ [k]) = denL m L + 2520 / (bAt m.br k).res := by unfold denL; rw [List.foldl_append]; rfl
/-- The contact without a resistance (there is at most one). -/
def isRes (m : Mac) (k : Nat) : Bool := (bAt m.br k).res == 0
def outT (m : Mac) (l : Lim) (s : Nat) (load : Int) : Int × Int :=
  match (cloU s 6).find? (isRes m) with
  | some k => (volA m l k, 1)
  | none => low (numL m l load (cloU s 6)) (denL m (cloU s 6))
theorem div_res {r : Int} (h0 : 1 ≤ r) (h1 : r ≤ 10) : 252 ≤ 2520 / r ∧ 2520 / r ≤ 2520 := by
  have : r = 1 ∨ r = 2 ∨ r = 3 ∨ r = 4 ∨ r = 5 ∨ r = 6 ∨ r = 7 ∨ r = 8 ∨ r = 9 ∨ r = 10 := by omega
  rcases this with rfl | rfl | rfl | rfl | rfl | rfl | rfl | rfl | rfl | rfl <;> decide
theorem vol_bd {m : Mac} {l : Lim} {k : Nat} (hm : MacV m) (hl : 0 ≤ l.volt ∧ l.volt ≤ 1000) (hk : k < m.br.length) : 0 ≤ volA m l k ∧ volA m l k ≤ 1000 := by
  obtain ⟨⟨h0, h1⟩, _⟩ := hm.br k hk
  unfold volA
  obtain h | h : (bAt m.br k).tap = 0 ∨ (bAt m.br k).tap = 1 := by omega
  · rw [h, Int.zero_mul]; omega
  · rw [h, Int.one_mul]; exact hl
theorem snoc_ind {α : Type} {P : List α → Prop} (h0 : P []) (h1 : ∀ L k, P L → P (L ++ [k])) (L : List α) : P L := by
  have key : ∀ M : List α, P M.reverse := by
    intro M
    induction M with
    | nil => exact h0
    | cons x r ih => rw [List.reverse_cons]; exact h1 _ _ ih
  have := key L.reverse
  rwa [List.reverse_reverse] at this
/-- Bounds of the sums over contacts with resistances. -/
theorem sums_bd {m : Mac} {l : Lim} {load : Int} (hm : MacV m) (hl : 0 ≤ l.volt ∧ l.volt ≤ 1000) (hd : -1000 ≤ load ∧ load ≤ 1000) : ∀ L : List Nat, (∀ k ∈ L, k < m.br.length ∧ (bAt m.br k).res ≠ 0) →
    (-2520000 ≤ numL m l load L ∧ numL m l load L ≤ 2520000 + L.length * 2520000) ∧ (L.length * 252 ≤ denL m L ∧ denL m L ≤ L.length * 2520) := by
  refine snoc_ind ?_ ?_
  · intro _; unfold numL denL; simp only [List.foldl_nil, List.length_nil]; omega
  · intro L k ih h
    obtain ⟨⟨a1, a2⟩, b1, b2⟩ := ih (fun j hj => h j (List.mem_append_left _ hj))
    obtain ⟨hk, hr⟩ := h k (by simp)
    obtain ⟨_, r0, r1⟩ := hm.br k hk
    obtain ⟨v0, v1⟩ := vol_bd hm hl hk
    obtain ⟨d0, d1⟩ := div_res (r := (bAt m.br k).res) (by omega) r1
    rw [numL_snoc, denL_snoc, List.length_append, List.length_singleton]
    generalize (bAt m.br k).res = r at *
    generalize volA m l k = v at *
    generalize 2520 / r = q at *
    have p0 : 0 ≤ v * q := Int.mul_nonneg v0 (by omega)
    have p1 : v * q ≤ 1000 * 2520 := Int.mul_le_mul v1 d1 (by omega) (by decide)
    push_cast
    omega
end Go.Proofs.YtidboecjllaofaaGreat
