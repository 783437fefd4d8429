import Derived.Deep.AppendLies
import Derived.Test.YtidboecjllaofaaGreatMA
import Derived.Test.YtidboecjllaofaaGreatMB
/- slices.Clone at integers. -/
namespace Go.Proofs.YtidboecjllaofaaGreat
open Go.RowKit
set_option linter.unusedVariables false

set_option maxRecDepth 100000 in
theorem cloneInts_any (l : List Int) (B : Nat) (a : Option Addr) (n c : Nat) (w : World) (h : w.ownsRow B 3 1 (.slice a n c) n (icells l)) (hn : n ≤ 100000) :
    Calls Tryz.prog 182 #[.slice a n c] w fun e' w' => ∃ a' c', e' = .returned (.slice a' n c') ∧ Below w.heap.size w w' ∧ w'.ownsRow w.heap.size 3 1 (.slice a' n c') n (icells l) := by
  have H := Lib.hid (show IntsR w a n l from SlR.of_owns h)
  rcases h.2 with ⟨hv, h0⟩ | ⟨g, cap, cur, hv, _, _, _, _, _, _⟩
  · cases hv
    have qT : ∀ (w : World), (binOp .eql 62 (.slice none 0 0) (.slice none 0 0)).run Tryz.prog w = .ok (.bool true) w := fun w => by first | exact Lib.run_eql_slice_nil w _ _ _ _ _ _ _ Tryz.underlying62 | exact Go.run_eql_slice_nil w _ _ _ _ _ _ _ Tryz.underlying62 | kernel_rfl
    have hl : l = [] := by have := H.out.len; exact List.eq_nil_of_length_eq_zero this
    subst hl
    clear h H
    go_enter Tryz.func182, Tryz.ntmps182
    go_wp2
    go_ret
    exact ⟨none, 0, rfl, by (repeat' (first | (with_reducible exact Below.refl _ _) | (with_reducible assumption) | (with_reducible refine Below.drewN ?_ _) | (with_reducible refine Below.alloc ?_ ?_ _) | (with_reducible refine Below.drew ?_) | (with_reducible refine Below.setCell ?_ ?_ _) | (with_reducible refine Below.step (by assumption) ?_ ?_) | (with_reducible exact And.left (by assumption)) | go_size)), World.ownsRow_nil _ _ _ _⟩
  · cases hv
    have qT : ∀ (w : World), (binOp .eql 62 (.slice (some ⟨g, 0, none⟩) n c) (.slice none 0 0)).run Tryz.prog w = .ok (.bool false) w := fun w => by first | exact Lib.run_eql_slice_nil w _ _ _ _ _ _ _ Tryz.underlying62 | exact Go.run_eql_slice_nil w _ _ _ _ _ _ _ Tryz.underlying62 | kernel_rfl
    clear h
    go_enter Tryz.func182, Tryz.ntmps182
    go_wp2_with (at_builtin; refine wpList_append_sl _ rfl _ _ 62 rfl w.heap.size 3 _ 1 8 Tryz.underlying62 infoInt rfl (by omega) _ _ _ rfl (World.ownsRow_made w #[] 0 (by omega) (by simp [maxLen]) rfl) _ n c (icells l) rfl (H.out.below (by (repeat' (first | (with_reducible exact Below.refl _ _) | (with_reducible assumption) | (with_reducible refine Below.drewN ?_ _) | (with_reducible refine Below.alloc ?_ ?_ _) | (with_reducible refine Below.drew ?_) | (with_reducible refine Below.setCell ?_ ?_ _) | (with_reducible refine Below.step (by assumption) ?_ ?_) | (with_reducible exact And.left (by assumption)) | go_size)))) (icells_one _) (by omega) (by omega) (by simp) ?_)
    intro v2 w2 hown2 _ hb2
    try simp only [Nat.zero_add, List.nil_append] at hown2
    obtain ⟨a', c', rfl, _, _⟩ := owns_slice hown2
    have HO := Lib.hid hown2
    have HB := Lib.hid hb2
    clear hown2 hb2
    go_wp2
    go_ret
    exact ⟨a', c', rfl, Below.trans (by (repeat' (first | (with_reducible exact Below.refl _ _) | (with_reducible assumption) | (with_reducible refine Below.drewN ?_ _) | (with_reducible refine Below.alloc ?_ ?_ _) | (with_reducible refine Below.drew ?_) | (with_reducible refine Below.setCell ?_ ?_ _) | (with_reducible refine Below.step (by assumption) ?_ ?_) | (with_reducible exact And.left (by assumption)) | go_size))) HB.out, HO.out⟩
end Go.Proofs.YtidboecjllaofaaGreat
