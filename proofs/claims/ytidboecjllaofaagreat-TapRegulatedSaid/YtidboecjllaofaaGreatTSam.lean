import Derived.Laws.StructEq
import Derived.Test.YtidboecjllaofaaGreatMB
/- Equality of moments (the reference's helper). -/
namespace Go.Proofs.YtidboecjllaofaaGreat
open Go.RowKit
set_option linter.unusedVariables false

set_option maxRecDepth 100000 in
theorem sameM_any (l1 l2 : List (Int × Int)) (a1 a2 : Option Addr) (n1 c1 n2 c2 : Nat) (w : World) (h1 : PairsR w a1 n1 l1) (h2 : PairsR w a2 n2 l2) :
    Calls Tryz.prog 58 #[.slice a1 n1 c1, .slice a2 n2 c2] w fun e' w' => e' = .returned (.bool (decide (l1 = l2))) ∧ ∃ m, w' = w.drewN m := by
  have H1 := Lib.hid h1
  have H2 := Lib.hid h2
  have hn1 := h1.small
  have hn2 := h2.small
  clear h1 h2
  by_cases hne : n1 = n2
  · subst hne
    have hbb : ((n1 : Int) != (n1 : Int)) = false := by simp
    go_enter Tryz.func58, Tryz.ntmps58
    go_wp2
    go_loopw [5] (fun i wr => ∃ k : Nat, i = .int .i64 k ∧ k ≤ n1 ∧ Hid (decide (l1.drop k = l2.drop k) = decide (l1 = l2)) ∧ ∃ m, wr = w.drewN m) (fun i _ => n1 - (intOf i).toNat)
    case atStart => exact ⟨0, rfl, Nat.zero_le _, rfl, 0, rfl⟩
    case round =>
      obtain ⟨k, rfl, hk, hF, m, rfl⟩ := hrel
      by_cases hlt : k < n1
      · obtain ⟨b1, o1, rfl, hb1, hc1⟩ := H1.out.addr (by omega)
        obtain ⟨b2, o2, rfl, hb2, hc2⟩ := H2.out.addr (by omega)
        have hck1 := (hc1 k hlt).1
        have hck1' := (hc1 k hlt).2
        have hck2 := (hc2 k hlt).1
        have hck2' := (hc2 k hlt).2
        clear hc1 hc2
        have hF' := hF.out
        rw [drop_at l1 k (0, 0) (by rw [H1.out.len]; exact hlt), drop_at l2 k (0, 0) (by rw [H2.out.len]; exact hlt)] at hF'
        obtain ⟨⟨x, y⟩, hx⟩ : ∃ x, x = l1.getD k (0, 0) := ⟨_, rfl⟩
        obtain ⟨⟨x2, y2⟩, hy⟩ : ∃ y, y = l2.getD k (0, 0) := ⟨_, rfl⟩
        rw [← hx] at hck1 hck1' hF'
        rw [← hy] at hck2 hck2' hF'
        have HF := Lib.hid hF'
        have hk0 : (0 : Int) ≤ (k : Int) := by omega
        have hk1 : (k : Int) < (n1 : Int) := by omega
        clear hx hy hF' hF
        go_wp2
        by_cases hxy : x = x2
        · subst hxy
          by_cases hyz : y = y2
          · subst hyz
            go_wp2
            refine drew_of_eq 8 (by kernel_rfl) (by kernel_rfl) ?_; simp only [List.take_succ_cons, List.take_zero, List.drop_succ_cons, List.drop_zero]; repeat go_big_quiet_step (fail)
            refine wpQuiet_nil ?_; intro m7
            go_wp2
            go_roundw
            case rel => exact ⟨k + 1, by go_num, by omega, Lib.hid (by simpa using HF.out), _, rfl⟩
            case measure => simp [intOf]; omega
          · have hbx : (y == y2) = false := by simpa using hyz
            go_wp2
            refine drew_of_eq 8 (by kernel_rfl) (by kernel_rfl) ?_; simp only [List.take_succ_cons, List.take_zero, List.drop_succ_cons, List.drop_zero]; repeat go_big_quiet_step (fail)
            refine wpQuiet_nil ?_; intro m7
            go_wp2
            go_ret
            exact ⟨ret_bool (by rw [← HF.out]; simp [hyz]), _, rfl⟩
        · have hbx : (x == x2) = false := by simpa using hxy
          go_wp2
          refine drew_of_eq 8 (by kernel_rfl) (by kernel_rfl) ?_; simp only [List.take_succ_cons, List.take_zero, List.drop_succ_cons, List.drop_zero]; repeat go_big_quiet_step (fail)
          refine wpQuiet_nil ?_; intro m7
          go_wp2
          go_ret
          exact ⟨ret_bool (by rw [← HF.out]; simp [hxy]), _, rfl⟩
      · go_wp2
        go_ret
        exact ⟨ret_bool (by rw [← hF.out, drop_end l1 k (by rw [H1.out.len]; omega), drop_end l2 k (by rw [H2.out.len]; omega)]; rfl), m, rfl⟩
  · have hbb : ((n1 : Int) != (n2 : Int)) = true := by simp; omega
    go_enter Tryz.func58, Tryz.ntmps58
    go_wp2
    go_ret
    refine ⟨ret_bool ?_, 0, rfl⟩
    have : ¬ l1 = l2 := by intro h; apply hne; rw [← H1.out.len, ← H2.out.len, h]
    simp [this]
end Go.Proofs.YtidboecjllaofaaGreat
