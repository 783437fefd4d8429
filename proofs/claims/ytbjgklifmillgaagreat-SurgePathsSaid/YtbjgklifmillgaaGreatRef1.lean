import Derived.Test.YtbjgklifmillgaaGreatQTail
import Derived.Test.YtbjgklifmillgaaGreatSmall
/- Small functions of the references and the laws. -/
namespace Go.Proofs.YtbjgklifmillgaaGreat
open Go.RowKit
set_option linter.unusedVariables false

set_option maxRecDepth 100000 in
theorem copyInts_any (l : List Int) (a : Option Addr) (n c : Nat) (w : World) (h : IntsR w a n l) (hn : n ≤ 100000) :
    Calls Tryz.prog 38 #[.slice a n c] w fun e' w' => ∃ a' c', e' = .returned (.slice a' n c') ∧ Below w.heap.size w w' ∧ w'.ownsRow w.heap.size 3 1 (.slice a' n c') n (icells l) := by
  have H := Lib.hid h
  clear h
  go_enter Tryz.func38, Tryz.ntmps38
  go_wp2_with (at_builtin; refine wpList_append_sl _ rfl _ _ 22 rfl w.heap.size 3 _ 1 8 Tryz.underlying22 infoInt rfl (by omega) _ _ _ rfl (World.ownsRow_made w #[] 0 (by omega) (by simp [maxLen]) rfl) a n c (icells l) rfl (H.out.below (by (repeat' (first | (with_reducible exact Below.refl _ _) | (with_reducible assumption) | (with_reducible refine Below.drewN ?_ _) | (with_reducible refine Below.alloc ?_ ?_ _) | (with_reducible refine Below.drew ?_) | (with_reducible refine Below.setCell ?_ ?_ _) | (with_reducible refine Below.step (by assumption) ?_ ?_) | (with_reducible exact And.left (by assumption)) | go_size)))) (icells_one _) (by omega) (by omega) (by simp) ?_)
  intro v2 w2 hown2 _ hb2
  try simp only [Nat.zero_add, List.nil_append] at hown2
  obtain ⟨a', c', rfl, _, _⟩ := owns_slice hown2
  have HO := Lib.hid hown2
  have HB := Lib.hid hb2
  clear hown2 hb2
  go_wp2
  go_ret
  exact ⟨a', c', rfl, Below.trans (by (repeat' (first | (with_reducible exact Below.refl _ _) | (with_reducible assumption) | (with_reducible refine Below.drewN ?_ _) | (with_reducible refine Below.alloc ?_ ?_ _) | (with_reducible refine Below.drew ?_) | (with_reducible refine Below.setCell ?_ ?_ _) | (with_reducible refine Below.step (by assumption) ?_ ?_) | (with_reducible exact And.left (by assumption)) | go_size))) HB.out, HO.out⟩

theorem drop_any {p : Int → Bool} (l : List Int) (k : Nat) (h : k < l.length) : (l.drop k).any p = (p (l.getD k 0) || (l.drop (k + 1)).any p) := by
  rw [drop_at l k 0 h]; rfl

set_option maxRecDepth 100000 in
theorem ints_any (l1 l2 : List Int) (a1 a2 : Option Addr) (n1 c1 n2 c2 : Nat) (w : World) (h1 : IntsR w a1 n1 l1) (h2 : IntsR w a2 n2 l2) :
    Calls Tryz.prog 33 #[.slice a1 n1 c1, .slice a2 n2 c2] w fun e' w' => e' = .returned (.bool (decide (l1 = l2))) ∧ ∃ m, w' = w.drewN m := by
  have H1 := Lib.hid h1
  have H2 := Lib.hid h2
  have hn1 := h1.small
  have hn2 := h2.small
  clear h1 h2
  by_cases hne : n1 = n2
  · subst hne
    have hbb : ((n1 : Int) != (n1 : Int)) = false := by simp
    go_enter Tryz.func33, Tryz.ntmps33
    go_wp2
    go_loopw [5] (fun i wr => ∃ k : Nat, i = .int .i64 k ∧ k ≤ n1 ∧ Hid (decide (l1.drop k = l2.drop k) = decide (l1 = l2)) ∧ ∃ m, wr = w.drewN m) (fun i _ => n1 - (intOf i).toNat)
    case atStart => exact ⟨0, rfl, Nat.zero_le _, rfl, 0, rfl⟩
    case round =>
      obtain ⟨k, rfl, hk, hF, m, rfl⟩ := hrel
      by_cases hlt : k < n1
      · obtain ⟨b1, o1, rfl, hb1, hc1⟩ := H1.out.addr (by omega)
        obtain ⟨b2, o2, rfl, hb2, hc2⟩ := H2.out.addr (by omega)
        have hck1 := hc1 k hlt
        have hck2 := hc2 k hlt
        clear hc1 hc2
        have hF' := hF.out
        rw [drop_at l1 k 0 (by rw [H1.out.len]; exact hlt), drop_at l2 k 0 (by rw [H2.out.len]; exact hlt)] at hF'
        obtain ⟨x, hx⟩ : ∃ x, x = l1.getD k 0 := ⟨_, rfl⟩
        obtain ⟨y, hy⟩ : ∃ y, y = l2.getD k 0 := ⟨_, rfl⟩
        rw [← hx] at hck1 hF'
        rw [← hy] at hck2 hF'
        have HF := Lib.hid hF'
        have hk0 : (0 : Int) ≤ (k : Int) := by omega
        have hk1 : (k : Int) < (n1 : Int) := by omega
        clear hx hy hF' hF
        by_cases hxy : x = y
        · subst hxy
          have hbx : (x != x) = false := by simp
          go_wp2
          go_quiet (fail)
          go_wp2
          go_roundw
          case rel => exact ⟨k + 1, by go_num, by omega, Lib.hid (by simpa using HF.out), _, rfl⟩
          case measure => simp [intOf]; omega
        · have hbx : (x != y) = true := by simpa using hxy
          go_wp2
          go_quiet (fail)
          go_wp2
          go_ret
          exact ⟨ret_bool (by rw [← HF.out]; simp [hxy]), _, World.drewN_drewN _ _ _⟩
      · go_wp2
        go_ret
        exact ⟨ret_bool (by rw [← hF.out, drop_end l1 k (by rw [H1.out.len]; omega), drop_end l2 k (by rw [H2.out.len]; omega)]; rfl), m, rfl⟩
  · have hbb : ((n1 : Int) != (n2 : Int)) = true := by simp; omega
    go_enter Tryz.func33, Tryz.ntmps33
    go_wp2
    go_ret
    refine ⟨ret_bool ?_, 0, rfl⟩
    have : ¬ l1 = l2 := by intro h; apply hne; rw [← H1.out.len, ← H2.out.len, h]
    simp [this]

end Go.Proofs.YtbjgklifmillgaaGreat
