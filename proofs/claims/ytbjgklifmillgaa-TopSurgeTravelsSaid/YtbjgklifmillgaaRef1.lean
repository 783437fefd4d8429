import Derived.Test.YtbjgklifmillgaaQTail
import Derived.Test.YtbjgklifmillgaaSmall
/- Small functions of the references and the laws. -/
namespace Go.Proofs.Ytbjgklifmillgaa
open Go.RowKit
set_option linter.unusedVariables false

set_option maxRecDepth 100000 in
theorem copyInts_any (l : List Int) (a : Option Addr) (n c : Nat) (w : World) (h : IntsR w a n l) (hn : n ≤ 100000) :
    Calls Try.prog 30 #[.slice a n c] w fun e' w' => ∃ a' c', e' = .returned (.slice a' n c') ∧ Below w.heap.size w w' ∧ w'.ownsRow w.heap.size 3 1 (.slice a' n c') n (icells l) := by
  have H := Lib.hid h
  clear h
  go_enter Try.func30, Try.ntmps30
  go_wp2_with (at_builtin; refine wpList_append_sl _ rfl _ _ 31 rfl w.heap.size 3 _ 1 8 Try.underlying31 infoInt rfl (by omega) _ _ _ rfl (World.ownsRow_made w #[] 0 (by omega) (by simp [maxLen]) rfl) a n c (icells l) rfl (H.out.below (by (repeat' (first | (with_reducible exact Below.refl _ _) | (with_reducible assumption) | (with_reducible refine Below.drewN ?_ _) | (with_reducible refine Below.alloc ?_ ?_ _) | (with_reducible refine Below.drew ?_) | (with_reducible refine Below.setCell ?_ ?_ _) | (with_reducible refine Below.step (by assumption) ?_ ?_) | (with_reducible exact And.left (by assumption)) | go_size)))) (icells_one _) (by omega) (by omega) (by simp) ?_)
  intro v2 w2 hown2 _ hb2
  try simp only [Nat.zero_add, List.nil_append] at hown2
  obtain ⟨a', c', rfl, _, _⟩ := owns_slice hown2
  have HO := Lib.hid hown2
  have HB := Lib.hid hb2
  clear hown2 hb2
  go_wp2
  go_ret
  exact ⟨a', c', rfl, Below.trans (by (repeat' (first | (with_reducible exact Below.refl _ _) | (with_reducible assumption) | (with_reducible refine Below.drewN ?_ _) | (with_reducible refine Below.alloc ?_ ?_ _) | (with_reducible refine Below.drew ?_) | (with_reducible refine Below.setCell ?_ ?_ _) | (with_reducible refine Below.step (by assumption) ?_ ?_) | (with_reducible exact And.left (by assumption)) | go_size))) HB.out, HO.out⟩

theorem drop_any {p : Int → Bool} (l : List Int) (k : Nat) (h : k < l.length) : (l.drop k).any p = (p (l.getD k 0) || (l.drop (k + 1)).any p) := by
  rw [drop_at l k 0 h]; rfl

theorem floor_pos (x y : Int) (w : World) (hx0 : -9000000000000000000 ≤ x) (hx1 : x ≤ 9000000000000000000) (hy : 0 < y) (hy1 : y ≤ 9000000000000000000) :
    Calls Try.prog 24 #[.int .i64 x, .int .i64 y] w fun e' w' => e' = .returned (.int .i64 (x / y)) ∧ w = w' := by
  have hyn : (y == 0) = false := by simp; omega
  have hq := tdiv_bd x y 9000000000000000000 (by omega) (by omega)
  by_cases h0 : 0 ≤ x
  · have e1 : 0 ≤ x / y := Int.ediv_nonneg h0 (by omega)
    have e2 : x.tdiv y = x / y := Int.tdiv_eq_ediv_of_nonneg h0
    rw [e2] at hq
    have e3 : 0 ≤ x % y := Int.emod_nonneg _ (by omega)
    clear e2
    go_enter Try.func24, Try.ntmps24
    go_wp2
    go_ret
    exact ⟨rfl, rfl⟩
  · have h0' : x < 0 := by omega
    have hE := Lib.hid (Int.tdiv_eq_ediv (a := x) (b := y))
    have hM := Lib.hid (Int.tmod_eq_emod (a := x) (b := y))
    by_cases hd : x % y = 0
    · have ht : x.tmod y = 0 := by rw [hM.out]; simp [Int.dvd_of_emod_eq_zero hd]; exact hd
      have ht' : decide (x.tmod y < 0) = false := by simp [ht]
      have HT := Lib.hid ht
      clear ht
      go_enter Try.func24, Try.ntmps24
      go_wp2
      go_ret
      exact ⟨ret_int (by rw [hE.out]; simp [Int.dvd_of_emod_eq_zero hd]), rfl⟩
    · have hnd : ¬ (0 ≤ x ∨ y ∣ x) := by
        rintro (h | h)
        · omega
        · exact hd (Int.emod_eq_zero_of_dvd h)
      have ht : x.tmod y < 0 := by
        rw [hM.out, if_neg hnd]
        have := Int.emod_lt_of_pos x hy
        omega
      have he : x.tdiv y - 1 = x / y := by
        rw [hE.out, if_neg hnd]
        have : y.sign = 1 := Int.sign_eq_one_of_pos hy
        omega
      have HE := Lib.hid he
      clear he
      go_enter Try.func24, Try.ntmps24
      go_wp2
      go_ret
      exact ⟨ret_int HE.out, rfl⟩

end Go.Proofs.Ytbjgklifmillgaa
