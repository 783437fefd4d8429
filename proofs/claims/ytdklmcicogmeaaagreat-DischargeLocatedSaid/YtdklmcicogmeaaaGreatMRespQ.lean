import Derived.Test.YtdklmcicogmeaaaGreatMDSub
import Derived.Test.YtdklmcicogmeaaaGreatMRGcd
import Derived.Test.YtdklmcicogmeaaaGreatMRNet
/- The reference of responses: the response at a frequency. -/
namespace Go.Proofs.YtdklmcicogmeaaaGreat
open Go.RowKit
set_option linter.unusedVariables false

end Go.Proofs.YtdklmcicogmeaaaGreat

/- The reference of responses: frequencies, responses, equality. -/
namespace Go.Proofs.YtdklmcicogmeaaaGreat
open Go.RowKit
set_option linter.unusedVariables false

theorem rIsFrequency_any (n : Int) (w : World) : Calls Tryz.prog 95 #[.int .i64 n] w fun e' w' => e' = .returned (.bool (wi n 0 6)) ∧ w = w' := by
  go_enter Tryz.func95, Tryz.ntmps95
  go_wp2_with (go_at_call 11; refine (bwithin_any _ _ _ _).mono ?_; rintro e w' ⟨rfl, rfl⟩)
  go_ret
  exact ⟨rfl, rfl⟩
theorem freE_cases (l : List Int) : freE l = if 8 < (l.length : Int) then 8 else if l.any (fun x => !wi x 0 6) = true then 2 else 0 := by
  unfold freE
  by_cases h : 8 < (l.length : Int)
  · have : ¬ (l.length : Int) ≤ 8 := by omega
    rw [if_pos h, decide_eq_false this]; rfl
  · have : (l.length : Int) ≤ 8 := by omega
    rw [if_neg h, decide_eq_true this]
    cases l.any (fun x => !wi x 0 6) <;> rfl
set_option maxRecDepth 100000 in
theorem rFrequenciesErr_any (l : List Int) (a : Option Addr) (n c : Nat) (w : World) (hl : IntsR w a n l) : Calls Tryz.prog 36 #[.slice a n c] w fun e' w' => e' = .returned (.int .i64 (freE l)) ∧ Below w.heap.size w w' := by
  have hn := hl.small
  have HL := Lib.hid hl
  have HLN := Lib.hid hl.len
  have hE := freE_cases l
  rw [hl.len] at hE
  obtain ⟨E, hEE⟩ : ∃ E, E = freE l := ⟨_, rfl⟩
  rw [← hEE] at hE ⊢
  clear hl hEE
  by_cases h8 : 8 < (n : Int)
  · rw [if_pos h8] at hE
    subst hE
    go_enter Tryz.func36, Tryz.ntmps36
    go_wp2
    go_ret
    exact ⟨rfl, by (repeat' (first | (with_reducible exact Below.refl _ _) | (with_reducible assumption) | (with_reducible refine Below.drewN ?_ _) | (with_reducible refine Below.alloc ?_ ?_ _) | (with_reducible refine Below.drew ?_) | (with_reducible refine Below.setCell ?_ ?_ _) | (with_reducible refine Below.step (by assumption) ?_ ?_) | (with_reducible exact And.left (by assumption)) | go_size))⟩
  · rw [if_neg h8] at hE
    have HE := Lib.hid hE
    clear hE
    go_enter Tryz.func36, Tryz.ntmps36
    go_wp2_with fail
    go_loopw [3] (fun i wr => ∃ k : Nat, i = .int .i64 k ∧ k ≤ n ∧ Hid ((l.drop k).any (fun x => !wi x 0 6) = l.any (fun x => !wi x 0 6)) ∧ wr = w) (fun i _ => n - (intOf i).toNat)
    case atStart => exact ⟨0, rfl, Nat.zero_le _, Lib.hid rfl, rfl⟩
    case round =>
      obtain ⟨k, rfl, hk, hG, rfl⟩ := hrel
      have i0 : (0 : Int) ≤ (k : Int) := by omega
      rcases Nat.lt_or_ge k n with hlt | hge
      · have i1 : (k : Int) < (n : Int) := by omega
        obtain ⟨b, o, rfl, hb, hc⟩ := HL.out.addr (by omega)
        have p0 := hc k hlt
        have hG' := hG.out
        rw [drop_any (p := fun x => !wi x 0 6) l k (by rw [HLN.out]; exact hlt)] at hG'
        generalize l.getD k 0 = x at *
        have HB1 := Lib.hid (fun w' => rIsFrequency_any x w')
        generalize wi x 0 6 = b1 at *
        have HG := Lib.hid hG'
        clear hc hG hG'
        go_wp2_with fail
        refine (HB1.out _).mono ?_
        rintro e6 w6 ⟨rfl, rfl⟩
        cases b1
        · have hE := HE.out
          rw [← HG.out] at hE
          have hE2 : E = 2 := by rw [hE]; simp
          clear hE
          subst hE2
          clear HE HG
          go_wp2
          go_ret
          exact ⟨rfl, by (repeat' (first | (with_reducible exact Below.refl _ _) | (with_reducible assumption) | (with_reducible refine Below.drewN ?_ _) | (with_reducible refine Below.alloc ?_ ?_ _) | (with_reducible refine Below.drew ?_) | (with_reducible refine Below.setCell ?_ ?_ _) | (with_reducible refine Below.step (by assumption) ?_ ?_) | (with_reducible exact And.left (by assumption)) | go_size))⟩
        have HG2 := Lib.hid (show (l.drop (k + 1)).any (fun x => !wi x 0 6) = l.any (fun x => !wi x 0 6) by rw [← HG.out]; rfl)
        clear HG
        go_wp2
        go_roundw
        case rel => exact ⟨k + 1, by go_num, by omega, HG2, by first | rfl | trivial⟩
        case measure => simp [intOf]; omega
      · obtain rfl : k = n := by omega
        have hE := HE.out
        rw [← hG.out, drop_end l k (by rw [HLN.out]; exact Nat.le_refl _)] at hE
        rw [if_neg (by simp)] at hE
        subst hE
        clear HE hG
        go_wp2
        go_ret
        exact ⟨rfl, by (repeat' (first | (with_reducible exact Below.refl _ _) | (with_reducible assumption) | (with_reducible refine Below.drewN ?_ _) | (with_reducible refine Below.alloc ?_ ?_ _) | (with_reducible refine Below.drew ?_) | (with_reducible refine Below.setCell ?_ ?_ _) | (with_reducible refine Below.step (by assumption) ?_ ?_) | (with_reducible exact And.left (by assumption)) | go_size))⟩
end Go.Proofs.YtdklmcicogmeaaaGreat
