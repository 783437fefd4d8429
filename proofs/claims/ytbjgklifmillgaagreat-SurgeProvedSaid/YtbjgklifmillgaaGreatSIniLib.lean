import Derived.Test.YtbjgklifmillgaaGreatDist
import Derived.Test.YtbjgklifmillgaaGreatFin2
import Derived.Test.YtbjgklifmillgaaGreatFracsEq
import Derived.Test.YtbjgklifmillgaaGreatLadLib
import Derived.Test.YtbjgklifmillgaaGreatMFr
/- Parts of the statement SurgeInitial: the reference's initial distribution, and fracsOr. -/
namespace Go.Proofs.YtbjgklifmillgaaGreat
open Go.RowKit
set_option linter.unusedVariables false

set_option maxRecDepth 100000 in
theorem rinitial_any (s e : List Int) (a a1 a2 : Option Addr) (n c c1 n2 c2 L : Nat) (g : Bool) (w : World) (hs : IntsR w a n s) (he : IntsR w a1 n e) (h : Lad s e g n L) :
    Calls Tryz.prog 41 #[.agg #[.slice a n c, .slice a1 n c1, .slice a2 n2 c2, .bool g]] w fun e' w' => ∃ a' c', e' = .returned (.slice a' (n + 1) c') ∧ Below w.heap.size w w' ∧ ∃ ys, SlN w.heap.size w' a' (n + 1) 4 ys ∧ ∀ k, k < n + 1 → EntL (fun b => b < w'.heap.size) w' ys k (((nu s e L k : Int) : Rat) / ((dd s e L L : Int) : Rat)) := by
  have HD := Lib.hid (fun (w' : World) (hb : Below w.heap.size w w') => dist_any s e a a1 n c c1 L g w' (hs.below hb) (he.below hb) h)
  clear hs he h
  go_enter Tryz.func41, Tryz.ntmps41
  go_wp2_with fail
  generalize hW : World.alloc _ _ = w5 at *
  have hb5 : Below w.heap.size w w5 := by rw [← hW]; (repeat' (first | (with_reducible exact Below.refl _ _) | (with_reducible assumption) | (with_reducible refine Below.drewN ?_ _) | (with_reducible refine Below.alloc ?_ ?_ _) | (with_reducible refine Below.drew ?_) | (with_reducible refine Below.setCell ?_ ?_ _) | (with_reducible refine Below.step (by assumption) ?_ ?_) | (with_reducible exact And.left (by assumption)) | go_size))
  clear hW
  have hb5s := hb5.size
  refine (HD.out _ hb5).mono ?_
  rintro e6 w6 ⟨a', c', rfl, hb6, ys, h1, h2⟩
  have HP := Lib.hid (And.intro h1 h2)
  have HB := Lib.hid (hb5.trans (hb6.mono hb5.size))
  clear h1 h2 hb5 hb6
  go_wp2
  go_ret
  exact ⟨a', c', rfl, HB.out, ys, HP.out.1.mono hb5s, HP.out.2⟩
theorem fracsOr_no (a' : Option Addr) (n' c' : Nat) (w : World) : Calls Tryz.prog 14 #[.slice none 0 0, .int .i64 8, .slice a' n' c', .bool false] w fun e' w' => e' = .returned (.bool true) ∧ Below w.heap.size w w' := by
  go_enter Tryz.func14, Tryz.ntmps14
  go_wp2
  go_ret
  exact ⟨rfl, by (repeat' (first | (with_reducible exact Below.refl _ _) | (with_reducible assumption) | (with_reducible refine Below.drewN ?_ _) | (with_reducible refine Below.alloc ?_ ?_ _) | (with_reducible refine Below.drew ?_) | (with_reducible refine Below.setCell ?_ ?_ _) | (with_reducible refine Below.step (by assumption) ?_ ?_) | (with_reducible exact And.left (by assumption)) | go_size))⟩
theorem fracsOr_yes (l : List (Int × Int)) (a a' : Option Addr) (n c n' c' : Nat) (w : World) (h : PairsR w a n l) (h' : PairsR w a' n' l) : Calls Tryz.prog 14 #[.slice a n c, .int .i64 0, .slice a' n' c', .bool true] w fun e' w' => e' = .returned (.bool true) ∧ Below w.heap.size w w' := by
  have HF := Lib.hid (fun (w' : World) (hb : Below w.heap.size w w') => fracs_any l l a a' n c n' c' w' (h.below hb) (h'.below hb))
  rw [show decide (l = l) = true by simp] at HF
  clear h h'
  go_enter Tryz.func14, Tryz.ntmps14
  go_wp2_with fail
  refine (HF.out _ (by (repeat' (first | (with_reducible exact Below.refl _ _) | (with_reducible assumption) | (with_reducible refine Below.drewN ?_ _) | (with_reducible refine Below.alloc ?_ ?_ _) | (with_reducible refine Below.drew ?_) | (with_reducible refine Below.setCell ?_ ?_ _) | (with_reducible refine Below.step (by assumption) ?_ ?_) | (with_reducible exact And.left (by assumption)) | go_size)))).mono ?_
  rintro e6 w6 ⟨rfl, m, rfl⟩
  go_wp2
  go_ret
  exact ⟨rfl, by (repeat' (first | (with_reducible exact Below.refl _ _) | (with_reducible assumption) | (with_reducible refine Below.drewN ?_ _) | (with_reducible refine Below.alloc ?_ ?_ _) | (with_reducible refine Below.drew ?_) | (with_reducible refine Below.setCell ?_ ?_ _) | (with_reducible refine Below.step (by assumption) ?_ ?_) | (with_reducible exact And.left (by assumption)) | go_size))⟩
end Go.Proofs.YtbjgklifmillgaaGreat
