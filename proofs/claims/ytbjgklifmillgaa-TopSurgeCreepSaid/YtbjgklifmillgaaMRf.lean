import Derived.Test.YtbjgklifmillgaaMLin
import Derived.Test.YtbjgklifmillgaaQTail
import Derived.Test.YtbjgklifmillgaaSmall
/- Small functions of the references and the laws. -/
namespace Go.Proofs.Ytbjgklifmillgaa
open Go.RowKit
set_option linter.unusedVariables false

set_option maxRecDepth 100000 in
theorem copyInts_any (l : List Int) (a : Option Addr) (n c : Nat) (w : World) (h : IntsR w a n l) (hn : n ≤ 100000) :
    Calls Try.prog 30 #[.slice a n c] w fun e' w' => ∃ a' c', e' = .returned (.slice a' n c') ∧ Below w.heap.size w w' ∧ w'.ownsRow w.heap.size 3 1 (.slice a' n c') n (icells l) := by
  have H := Lib.hid h
  clear h
  go_enter Try.func30, Try.ntmps30
  go_wp2_with (at_builtin; refine wpList_append_sl _ rfl _ _ 31 rfl w.heap.size 3 _ 1 8 Try.underlying31 infoInt rfl (by omega) _ _ _ rfl (World.ownsRow_made w #[] 0 (by omega) (by simp [maxLen]) rfl) a n c (icells l) rfl (H.out.below (by (repeat' (first | (with_reducible exact Below.refl _ _) | (with_reducible assumption) | (with_reducible refine Below.drewN ?_ _) | (with_reducible refine Below.alloc ?_ ?_ _) | (with_reducible refine Below.drew ?_) | (with_reducible refine Below.setCell ?_ ?_ _) | (with_reducible refine Below.step (by assumption) ?_ ?_) | (with_reducible exact And.left (by assumption)) | go_size)))) (icells_one _) (by omega) (by omega) (by simp) ?_)
  intro v2 w2 hown2 _ hb2
  try simp only [Nat.zero_add, List.nil_append] at hown2
  obtain ⟨a', c', rfl, _, _⟩ := owns_slice hown2
  have HO := Lib.hid hown2
  have HB := Lib.hid hb2
  clear hown2 hb2
  go_wp2
  go_ret
  exact ⟨a', c', rfl, Below.trans (by (repeat' (first | (with_reducible exact Below.refl _ _) | (with_reducible assumption) | (with_reducible refine Below.drewN ?_ _) | (with_reducible refine Below.alloc ?_ ?_ _) | (with_reducible refine Below.drew ?_) | (with_reducible refine Below.setCell ?_ ?_ _) | (with_reducible refine Below.step (by assumption) ?_ ?_) | (with_reducible exact And.left (by assumption)) | go_size))) HB.out, HO.out⟩

theorem drop_any {p : Int → Bool} (l : List Int) (k : Nat) (h : k < l.length) : (l.drop k).any p = (p (l.getD k 0) || (l.drop (k + 1)).any p) := by
  rw [drop_at l k 0 h]; rfl

theorem floor_pos (x y : Int) (w : World) (hx0 : -9000000000000000000 ≤ x) (hx1 : x ≤ 9000000000000000000) (hy : 0 < y) (hy1 : y ≤ 9000000000000000000) :
    Calls Try.prog 24 #[.int .i64 x, .int .i64 y] w fun e' w' => e' = .returned (.int .i64 (x / y)) ∧ w = w' := by
  have hyn : (y == 0) = false := by simp; omega
  have hq := tdiv_bd x y 9000000000000000000 (by omega) (by omega)
  by_cases h0 : 0 ≤ x
  · have e1 : 0 ≤ x / y := Int.ediv_nonneg h0 (by omega)
    have e2 : x.tdiv y = x / y := Int.tdiv_eq_ediv_of_nonneg h0
    rw [e2] at hq
    have e3 : 0 ≤ x % y := Int.emod_nonneg _ (by omega)
    clear e2
    go_enter Try.func24, Try.ntmps24
    go_wp2
    go_ret
    exact ⟨rfl, rfl⟩
  · have h0' : x < 0 := by omega
    have hE := Lib.hid (Int.tdiv_eq_ediv (a := x) (b := y))
    have hM := Lib.hid (Int.tmod_eq_emod (a := x) (b := y))
    by_cases hd : x % y = 0
    · have ht : x.tmod y = 0 := by rw [hM.out]; simp [Int.dvd_of_emod_eq_zero hd]; exact hd
      have ht' : decide (x.tmod y < 0) = false := by simp [ht]
      have HT := Lib.hid ht
      clear ht
      go_enter Try.func24, Try.ntmps24
      go_wp2
      go_ret
      exact ⟨ret_int (by rw [hE.out]; simp [Int.dvd_of_emod_eq_zero hd]), rfl⟩
    · have hnd : ¬ (0 ≤ x ∨ y ∣ x) := by
        rintro (h | h)
        · omega
        · exact hd (Int.emod_eq_zero_of_dvd h)
      have ht : x.tmod y < 0 := by
        rw [hM.out, if_neg hnd]
        have := Int.emod_lt_of_pos x hy
        omega
      have he : x.tdiv y - 1 = x / y := by
        rw [hE.out, if_neg hnd]
        have : y.sign = 1 := Int.sign_eq_one_of_pos hy
        omega
      have HE := Lib.hid he
      clear he
      go_enter Try.func24, Try.ntmps24
      go_wp2
      go_ret
      exact ⟨ret_int HE.out, rfl⟩

end Go.Proofs.Ytbjgklifmillgaa

/- Copies of lines and states, states without waves, equality of states. -/
namespace Go.Proofs.Ytbjgklifmillgaa
open Go.RowKit
set_option linter.unusedVariables false

theorem makeInts (P : Program) (w : World) (t e : TypeId) (ht : P.underlying t = some (.slice e)) (hi : (P.info? e).map (fun i => (i.zero, i.size, i.bytes)) = some (some (.int .i64 0), 1, 8)) (n : Nat) (hn : n ≤ 100000) :
    (Instr.makeSlice t (.int .i64 n) (.int .i64 n)).run P w = .ok (.slice (some ⟨w.heap.size, 0, none⟩) n n) (w.alloc (.cells (madeCells #[.int .i64 0] n) e)) := by
  obtain ⟨i, hi1, hi2, hi3, hi4⟩ := info_parts hi
  have hr := run_make (P := P) w t e i _ ht hi1 hi2 .i64 .i64 n n (by omega) (Int.le_refl _) (by rw [hi4]; omega) (by omega)
  simp only [Int.toNat_natCast, hi3, Nat.mul_one] at hr
  exact hr

set_option maxRecDepth 100000 in
theorem begin_any (a : Option Addr) (n c : Nat) (e : Bool) (w : World) (hn : n ≤ 1000) :
    Calls Try.prog 73 #[.agg #[.slice a n c, .bool e]] w fun e' w' => ∃ g1 g2, e' = .returned (.agg #[.slice (some ⟨g1, 0, none⟩) n n, .slice (some ⟨g2, 0, none⟩) n n]) ∧ Below w.heap.size w w' ∧ g1 ≠ g2 ∧ w'.ownsRow w.heap.size 3 1 (.slice (some ⟨g1, 0, none⟩) n n) n (icells (List.replicate n 0)) ∧ w'.ownsRow w.heap.size 3 1 (.slice (some ⟨g2, 0, none⟩) n n) n (icells (List.replicate n 0)) := by
  have hmk := fun w' => makeInts Try.prog w' 31 3 Try.underlying31 infoInt n (by omega)
  generalize hcs : madeCells #[Value.int .i64 0] n = cs at hmk
  have HCS := Lib.hid hcs
  clear hcs
  have hL : icells (List.replicate n 0) = cs.toList := by rw [← HCS.out, toList_madeCells_one]; simp [icells]
  have hsz : cs.size = n * 1 := by rw [← HCS.out]; simp [size_madeCells]
  rw [hL]
  have HSZ := Lib.hid hsz
  clear hsz hL
  go_enter Try.func73, Try.ntmps73
  go_wp2
  go_region
  · go_wp2
    refine bodyPost_ret (v := .agg #[.slice (some ⟨w.heap.size + 1 + 1, 0, none⟩) n n, .slice (some ⟨w.heap.size + 1 + 1 + 1, 0, none⟩) n n]) (by simp [results, Try.results73, go_sem]) rfl ⟨_, _, rfl, ?_, by omega, ?_, ?_⟩
    · (repeat' (first | (with_reducible exact Below.refl _ _) | (with_reducible assumption) | (with_reducible refine Below.drewN ?_ _) | (with_reducible refine Below.alloc ?_ ?_ _) | (with_reducible refine Below.drew ?_) | (with_reducible refine Below.setCell ?_ ?_ _) | (with_reducible refine Below.step (by assumption) ?_ ?_) | (with_reducible exact And.left (by assumption)) | go_size))
    · have hsz := HSZ.out
      refine owns_mono (base := w.heap.size + 1 + 1) ?_ (by omega)
      (repeat' (first | (with_reducible assumption) | ((with_reducible refine owns_lit ?_ ?_ ?_ ?_) <;> first | (simp; done) | (simp; omega) | omega) | (with_reducible refine World.ownsRow.alloc ?_ _) | (with_reducible refine World.ownsRow.drew ?_) | (with_reducible refine owns_drewN ?_ _) | (with_reducible refine ownsRow_setCell_below ?_ ?_ _) | (simp; done) | (simp; omega) | omega))
    · have hsz := HSZ.out
      refine owns_mono (base := w.heap.size + 1 + 1) ?_ (by omega)
      (repeat' (first | (with_reducible assumption) | ((with_reducible refine owns_lit ?_ ?_ ?_ ?_) <;> first | (simp; done) | (simp; omega) | omega) | (with_reducible refine World.ownsRow.alloc ?_ _) | (with_reducible refine World.ownsRow.drew ?_) | (with_reducible refine owns_drewN ?_ _) | (with_reducible refine ownsRow_setCell_below ?_ ?_ _) | (simp; done) | (simp; omega) | omega))
  · go_wp2
    refine bodyPost_ret (v := .agg #[.slice (some ⟨w.heap.size + 1 + 1 + 1, 0, none⟩) n n, .slice (some ⟨w.heap.size + 1 + 1, 0, none⟩) n n]) (by simp [results, Try.results73, go_sem]) rfl ⟨_, _, rfl, ?_, by omega, ?_, ?_⟩
    · (repeat' (first | (with_reducible exact Below.refl _ _) | (with_reducible assumption) | (with_reducible refine Below.drewN ?_ _) | (with_reducible refine Below.alloc ?_ ?_ _) | (with_reducible refine Below.drew ?_) | (with_reducible refine Below.setCell ?_ ?_ _) | (with_reducible refine Below.step (by assumption) ?_ ?_) | (with_reducible exact And.left (by assumption)) | go_size))
    · have hsz := HSZ.out
      refine owns_mono (base := w.heap.size + 1 + 1) ?_ (by omega)
      (repeat' (first | (with_reducible assumption) | ((with_reducible refine owns_lit ?_ ?_ ?_ ?_) <;> first | (simp; done) | (simp; omega) | omega) | (with_reducible refine World.ownsRow.alloc ?_ _) | (with_reducible refine World.ownsRow.drew ?_) | (with_reducible refine owns_drewN ?_ _) | (with_reducible refine ownsRow_setCell_below ?_ ?_ _) | (simp; done) | (simp; omega) | omega))
    · have hsz := HSZ.out
      refine owns_mono (base := w.heap.size + 1 + 1) ?_ (by omega)
      (repeat' (first | (with_reducible assumption) | ((with_reducible refine owns_lit ?_ ?_ ?_ ?_) <;> first | (simp; done) | (simp; omega) | omega) | (with_reducible refine World.ownsRow.alloc ?_ _) | (with_reducible refine World.ownsRow.drew ?_) | (with_reducible refine owns_drewN ?_ _) | (with_reducible refine ownsRow_setCell_below ?_ ?_ _) | (simp; done) | (simp; omega) | omega))
set_option maxRecDepth 100000 in
theorem copyLine_any (l : List Int) (a : Option Addr) (n c : Nat) (e : Bool) (w : World) (h : IntsR w a n l) (hn : n ≤ 100000) :
    Calls Try.prog 26 #[.agg #[.slice a n c, .bool e]] w fun e' w' => ∃ a' c', e' = .returned (.agg #[.slice a' n c', .bool e]) ∧ Below w.heap.size w w' ∧ IntsR w' a' n l := by
  have H := Lib.hid (fun (w' : World) (hb' : Below w.heap.size w w') => copyInts_any l a n c w' (h.below hb') hn)
  clear h
  go_enter Try.func26, Try.ntmps26
  go_wp2_with fail
  go_region_held3 (fun w' => Below w.heap.size w w' ∧ w'.cell? ⟨w.heap.size, 0, none⟩ = some (.slice a n c) ∧ w'.cell? ⟨w.heap.size, 1, none⟩ = some (.bool e))
      ((refine ⟨?_, ?_, ?_⟩ <;> first | (go_keep; done) | (go_simp; done) | (repeat' (first | (with_reducible exact Below.refl _ _) | (with_reducible assumption) | (with_reducible refine Below.drewN ?_ _) | (with_reducible refine Below.alloc ?_ ?_ _) | (with_reducible refine Below.drew ?_) | (with_reducible refine Below.setCell ?_ ?_ _) | (with_reducible refine Below.step (by assumption) ?_ ?_) | (with_reducible exact And.left (by assumption)) | go_size))))
      (first
        | (go_at_call 30; refine (H.out _ (And.left (by assumption))).mono ?_; rintro e5 w5 ⟨a5, c5, rfl, hb5, ho5⟩; have hz5 := hb5.size; simp only [World.size_alloc, World.size_drew] at hz5; have q0 : w5.cell? ⟨w.heap.size, 0, none⟩ = some (.slice a n c) := by { rw [cellB hb5 _ _ (by first | (simp; done) | (simp; omega) | omega)]; all_goals (first | assumption | go_simp) }; have q1 : w5.cell? ⟨w.heap.size, 1, none⟩ = some (.bool e) := by { rw [cellB hb5 _ _ (by first | (simp; done) | (simp; omega) | omega)]; all_goals (first | assumption | go_simp) }; have p0 : w5.cell? ⟨w.heap.size + 1, 0, none⟩ = some (.slice none 0 0) := by { rw [cellB hb5 _ _ (by first | (simp; done) | (simp; omega) | omega)]; all_goals (first | assumption | go_simp) }; have p1 : w5.cell? ⟨w.heap.size + 1, 1, none⟩ = some (.bool false) := by { rw [cellB hb5 _ _ (by first | (simp; done) | (simp; omega) | omega)]; all_goals (first | assumption | go_simp) }; have f0 : w5.frozen? ⟨w.heap.size + 1, 0, none⟩ = false := by { rw [frozenB hb5 _ _ (by first | (simp; done) | (simp; omega) | omega)]; all_goals (first | assumption | go_simp) }; have f1 : w5.frozen? ⟨w.heap.size + 1, 1, none⟩ = false := by { rw [frozenB hb5 _ _ (by first | (simp; done) | (simp; omega) | omega)]; all_goals (first | assumption | go_simp) }))
  go_wp2
  refine bodyPost_ret (v := .agg #[.slice a5 n c5, .bool e]) (by simp [results, Try.results26, go_sem, p0, p1]) rfl ⟨a5, c5, rfl, by (repeat' (first | (with_reducible exact Below.refl _ _) | (with_reducible assumption) | (with_reducible refine Below.drewN ?_ _) | (with_reducible refine Below.alloc ?_ ?_ _) | (with_reducible refine Below.drew ?_) | (with_reducible refine Below.setCell ?_ ?_ _) | (with_reducible refine Below.step (by assumption) ?_ ?_) | (with_reducible exact And.left (by assumption)) | go_size)), SlR.of_owns (base := w.heap.size + 1 + 1) (e := 3) (c := c5) ?_⟩
  simp only [World.size_alloc, World.size_drew] at ho5
  (repeat' (first | (with_reducible assumption) | ((with_reducible refine owns_lit ?_ ?_ ?_ ?_) <;> first | (simp; done) | (simp; omega) | omega) | (with_reducible refine World.ownsRow.alloc ?_ _) | (with_reducible refine World.ownsRow.drew ?_) | (with_reducible refine owns_drewN ?_ _) | (with_reducible refine ownsRow_setCell_below ?_ ?_ _) | (simp; done) | (simp; omega) | omega))

set_option maxRecDepth 100000 in
theorem copyState_any (l1 l2 : List Int) (a1 a2 : Option Addr) (n1 c1 n2 c2 : Nat) (w : World) (h1 : IntsR w a1 n1 l1) (h2 : IntsR w a2 n2 l2) (hn1 : n1 ≤ 100000) (hn2 : n2 ≤ 100000) :
    Calls Try.prog 28 #[.agg #[.slice a1 n1 c1, .slice a2 n2 c2]] w fun e' w' => ∃ a3 c3 a4 c4, e' = .returned (.agg #[.slice a3 n1 c3, .slice a4 n2 c4]) ∧ Below w.heap.size w w' ∧ IntsR w' a3 n1 l1 ∧ IntsR w' a4 n2 l2 := by
  have H1 := Lib.hid (fun (w' : World) (hb' : Below w.heap.size w w') => copyInts_any l1 a1 n1 c1 w' (h1.below hb') hn1)
  have H2 := Lib.hid (fun (w' : World) (hb' : Below w.heap.size w w') => copyInts_any l2 a2 n2 c2 w' (h2.below hb') hn2)
  clear h1 h2
  go_enter Try.func28, Try.ntmps28
  go_wp2_with fail
  go_region_held3 (fun w' => Below w.heap.size w w' ∧ w'.cell? ⟨w.heap.size, 0, none⟩ = some (.slice a1 n1 c1) ∧ w'.cell? ⟨w.heap.size, 1, none⟩ = some (.slice a2 n2 c2))
      ((refine ⟨?_, ?_, ?_⟩ <;> first | (go_keep; done) | (go_simp; done) | (repeat' (first | (with_reducible exact Below.refl _ _) | (with_reducible assumption) | (with_reducible refine Below.drewN ?_ _) | (with_reducible refine Below.alloc ?_ ?_ _) | (with_reducible refine Below.drew ?_) | (with_reducible refine Below.setCell ?_ ?_ _) | (with_reducible refine Below.step (by assumption) ?_ ?_) | (with_reducible exact And.left (by assumption)) | go_size))))
      (first
        | (go_at_call_of 30 c1; refine (H1.out _ (And.left (by assumption))).mono ?_; rintro e5 w5 ⟨a5, c5, rfl, hb5, ho5⟩; have hz5 := hb5.size; simp only [World.size_alloc, World.size_drew] at hz5; have q0 : w5.cell? ⟨w.heap.size, 0, none⟩ = some (.slice a1 n1 c1) := by { rw [cellB hb5 _ _ (by first | (simp; done) | (simp; omega) | omega)]; all_goals (first | assumption | go_simp) }; have q1 : w5.cell? ⟨w.heap.size, 1, none⟩ = some (.slice a2 n2 c2) := by { rw [cellB hb5 _ _ (by first | (simp; done) | (simp; omega) | omega)]; all_goals (first | assumption | go_simp) }; have p0 : w5.cell? ⟨w.heap.size + 1, 0, none⟩ = some (.slice none 0 0) := by { rw [cellB hb5 _ _ (by first | (simp; done) | (simp; omega) | omega)]; all_goals (first | assumption | go_simp) }; have p1 : w5.cell? ⟨w.heap.size + 1, 1, none⟩ = some (.slice none 0 0) := by { rw [cellB hb5 _ _ (by first | (simp; done) | (simp; omega) | omega)]; all_goals (first | assumption | go_simp) }; have f0 : w5.frozen? ⟨w.heap.size + 1, 0, none⟩ = false := by { rw [frozenB hb5 _ _ (by first | (simp; done) | (simp; omega) | omega)]; all_goals (first | assumption | go_simp) }; have f1 : w5.frozen? ⟨w.heap.size + 1, 1, none⟩ = false := by { rw [frozenB hb5 _ _ (by first | (simp; done) | (simp; omega) | omega)]; all_goals (first | assumption | go_simp) })
        | (go_at_call_of 30 c2; refine (H2.out _ (And.left (by assumption))).mono ?_; rintro e6 w6 ⟨a6, c6, rfl, hb6, ho6⟩; have hz6 := hb6.size; have q0' : w6.cell? ⟨w.heap.size, 0, none⟩ = some (.slice a1 n1 c1) := by { rw [cellB hb6 _ _ (by first | (simp; done) | (simp; omega) | omega)]; all_goals (first | assumption | go_simp) }; have q1' : w6.cell? ⟨w.heap.size, 1, none⟩ = some (.slice a2 n2 c2) := by { rw [cellB hb6 _ _ (by first | (simp; done) | (simp; omega) | omega)]; all_goals (first | assumption | go_simp) }; have p0' : w6.cell? ⟨w.heap.size + 1, 0, none⟩ = some (.slice none 0 0) := by { rw [cellB hb6 _ _ (by first | (simp; done) | (simp; omega) | omega)]; all_goals (first | assumption | go_simp) }; have p1' : w6.cell? ⟨w.heap.size + 1, 1, none⟩ = some (.slice none 0 0) := by { rw [cellB hb6 _ _ (by first | (simp; done) | (simp; omega) | omega)]; all_goals (first | assumption | go_simp) }; have f0' : w6.frozen? ⟨w.heap.size + 1, 0, none⟩ = false := by { rw [frozenB hb6 _ _ (by first | (simp; done) | (simp; omega) | omega)]; all_goals (first | assumption | go_simp) }; have f1' : w6.frozen? ⟨w.heap.size + 1, 1, none⟩ = false := by { rw [frozenB hb6 _ _ (by first | (simp; done) | (simp; omega) | omega)]; all_goals (first | assumption | go_simp) }))
  go_wp2
  refine bodyPost_ret (v := .agg #[.slice a5 n1 c5, .slice a6 n2 c6]) (by simp [results, Try.results28, go_sem, p0', p1']) rfl ⟨a5, c5, a6, c6, rfl, by (repeat' (first | (with_reducible exact Below.refl _ _) | (with_reducible assumption) | (with_reducible refine Below.drewN ?_ _) | (with_reducible refine Below.alloc ?_ ?_ _) | (with_reducible refine Below.drew ?_) | (with_reducible refine Below.setCell ?_ ?_ _) | (with_reducible refine Below.step (by assumption) ?_ ?_) | (with_reducible exact And.left (by assumption)) | go_size)), SlR.of_owns (base := w.heap.size + 1 + 1) (e := 3) (c := c5) ?_, SlR.of_owns (base := w.heap.size + 1 + 1) (e := 3) (c := c6) ?_⟩
  · have ho5' := owns_below ho5 hb6 (fun k hk => (ho5.lt k hk).2)
    simp only [World.size_alloc, World.size_drew] at ho5'
    clear ho5 ho6
    (repeat' (first | (with_reducible assumption) | ((with_reducible refine owns_lit ?_ ?_ ?_ ?_) <;> first | (simp; done) | (simp; omega) | omega) | (with_reducible refine World.ownsRow.alloc ?_ _) | (with_reducible refine World.ownsRow.drew ?_) | (with_reducible refine owns_drewN ?_ _) | (with_reducible refine ownsRow_setCell_below ?_ ?_ _) | (simp; done) | (simp; omega) | omega))
  · have ho6' := owns_mono ho6 hz5
    clear ho5 ho6
    (repeat' (first | (with_reducible assumption) | ((with_reducible refine owns_lit ?_ ?_ ?_ ?_) <;> first | (simp; done) | (simp; omega) | omega) | (with_reducible refine World.ownsRow.alloc ?_ _) | (with_reducible refine World.ownsRow.drew ?_) | (with_reducible refine owns_drewN ?_ _) | (with_reducible refine ownsRow_setCell_below ?_ ?_ _) | (simp; done) | (simp; omega) | omega))

set_option maxRecDepth 100000 in
theorem sbegin_ok (l : List Int) (a : Option Addr) (n c : Nat) (e : Bool) (w : World) (h : IntsR w a n l) (h0 : lineErr l = 0) :
    Calls Try.prog 25 #[.agg #[.slice a n c, .bool e]] w fun e' w' => ∃ g1 g2, e' = .returned (.tuple #[.agg #[.slice (some ⟨g1, 0, none⟩) n n, .slice (some ⟨g2, 0, none⟩) n n], .int .i64 0]) ∧ Below w.heap.size w w' ∧ SlR w' (some ⟨g1, 0, none⟩) n 1 (icells (List.replicate n 0)) ∧ SlR w' (some ⟨g2, 0, none⟩) n 1 (icells (List.replicate n 0)) := by
  have HC := Lib.hid (fun (w' : World) (hb' : Below w.heap.size w w') => checkLine_any l a n c e w' (h.below hb'))
  have hn : n ≤ 10 := by have := (lineErr_zero h0).2.1; rw [h.len] at this; exact this
  rw [h0] at HC
  have HBG := Lib.hid (fun w' => begin_any a n c e w' (by omega))
  clear h h0
  generalize icells (List.replicate n 0) = z at HBG
  go_enter Try.func25, Try.ntmps25
  go_wp2_with fail
  refine (HC.out _ (by (repeat' (first | (with_reducible exact Below.refl _ _) | (with_reducible assumption) | (with_reducible refine Below.drewN ?_ _) | (with_reducible refine Below.alloc ?_ ?_ _) | (with_reducible refine Below.drew ?_) | (with_reducible refine Below.setCell ?_ ?_ _) | (with_reducible refine Below.step (by assumption) ?_ ?_) | (with_reducible exact And.left (by assumption)) | go_size)))).mono ?_
  rintro e5 w5 ⟨rfl, hb5⟩
  have hz5 := hb5.size
  simp only [World.size_alloc] at hz5
  have q0 : w5.cell? ⟨w.heap.size, 0, none⟩ = some (.slice a n c) := by { rw [cellB hb5 _ _ (by first | (simp; done) | (simp; omega) | omega)]; all_goals (first | assumption | go_simp) }; have q1 : w5.cell? ⟨w.heap.size, 1, none⟩ = some (.bool e) := by { rw [cellB hb5 _ _ (by first | (simp; done) | (simp; omega) | omega)]; all_goals (first | assumption | go_simp) }; have p0 : w5.cell? ⟨w.heap.size + 1, 0, none⟩ = some (.slice none 0 0) := by { rw [cellB hb5 _ _ (by first | (simp; done) | (simp; omega) | omega)]; all_goals (first | assumption | go_simp) }; have p1 : w5.cell? ⟨w.heap.size + 1, 1, none⟩ = some (.slice none 0 0) := by { rw [cellB hb5 _ _ (by first | (simp; done) | (simp; omega) | omega)]; all_goals (first | assumption | go_simp) }; have f0 : w5.frozen? ⟨w.heap.size + 1, 0, none⟩ = false := by { rw [frozenB hb5 _ _ (by first | (simp; done) | (simp; omega) | omega)]; all_goals (first | assumption | go_simp) }; have f1 : w5.frozen? ⟨w.heap.size + 1, 1, none⟩ = false := by { rw [frozenB hb5 _ _ (by first | (simp; done) | (simp; omega) | omega)]; all_goals (first | assumption | go_simp) }
  go_wp2_with fail
  refine (HBG.out _).mono ?_
  rintro e6 w6 ⟨g1, g2, rfl, hb6, hg12, ho1, ho2⟩
  have hz6 := hb6.size
  have p0' : w6.cell? ⟨w.heap.size + 1, 0, none⟩ = some (.slice none 0 0) := by { rw [cellB hb6 _ _ (by first | (simp; done) | (simp; omega) | omega)]; all_goals (first | assumption | go_simp) }; have p1' : w6.cell? ⟨w.heap.size + 1, 1, none⟩ = some (.slice none 0 0) := by { rw [cellB hb6 _ _ (by first | (simp; done) | (simp; omega) | omega)]; all_goals (first | assumption | go_simp) }; have f0' : w6.frozen? ⟨w.heap.size + 1, 0, none⟩ = false := by { rw [frozenB hb6 _ _ (by first | (simp; done) | (simp; omega) | omega)]; all_goals (first | assumption | go_simp) }; have f1' : w6.frozen? ⟨w.heap.size + 1, 1, none⟩ = false := by { rw [frozenB hb6 _ _ (by first | (simp; done) | (simp; omega) | omega)]; all_goals (first | assumption | go_simp) }
  have HO1 := Lib.hid (owns_mono ho1 hz5)
  have HO2 := Lib.hid (owns_mono ho2 hz5)
  clear ho1 ho2 hg12
  go_wp2
  refine bodyPost_ret (v := .tuple #[.agg #[.slice (some ⟨g1, 0, none⟩) n n, .slice (some ⟨g2, 0, none⟩) n n], .int .i64 0]) (by simp [results, Try.results25, go_sem, p0', p1']) rfl ⟨_, _, rfl, by (repeat' (first | (with_reducible exact Below.refl _ _) | (with_reducible assumption) | (with_reducible refine Below.drewN ?_ _) | (with_reducible refine Below.alloc ?_ ?_ _) | (with_reducible refine Below.drew ?_) | (with_reducible refine Below.setCell ?_ ?_ _) | (with_reducible refine Below.step (by assumption) ?_ ?_) | (with_reducible exact And.left (by assumption)) | go_size)), ?_, ?_⟩
  · have ho := HO1.out
    exact SlR.of_owns (base := w.heap.size + 1 + 1) (e := 3) (c := n) (by (repeat' (first | (with_reducible assumption) | ((with_reducible refine owns_lit ?_ ?_ ?_ ?_) <;> first | (simp; done) | (simp; omega) | omega) | (with_reducible refine World.ownsRow.alloc ?_ _) | (with_reducible refine World.ownsRow.drew ?_) | (with_reducible refine owns_drewN ?_ _) | (with_reducible refine ownsRow_setCell_below ?_ ?_ _) | (simp; done) | (simp; omega) | omega)))
  · have ho := HO2.out
    exact SlR.of_owns (base := w.heap.size + 1 + 1) (e := 3) (c := n) (by (repeat' (first | (with_reducible assumption) | ((with_reducible refine owns_lit ?_ ?_ ?_ ?_) <;> first | (simp; done) | (simp; omega) | omega) | (with_reducible refine World.ownsRow.alloc ?_ _) | (with_reducible refine World.ownsRow.drew ?_) | (with_reducible refine owns_drewN ?_ _) | (with_reducible refine ownsRow_setCell_below ?_ ?_ _) | (simp; done) | (simp; omega) | omega)))
set_option maxRecDepth 100000 in
theorem sbegin_bad (l : List Int) (a : Option Addr) (n c : Nat) (e : Bool) (w : World) (h : IntsR w a n l) (h0 : lineErr l ≠ 0) :
    Calls Try.prog 25 #[.agg #[.slice a n c, .bool e]] w fun e' w' => e' = .returned (.tuple #[.agg #[.slice none 0 0, .slice none 0 0], .int .i64 (lineErr l)]) ∧ Below w.heap.size w w' := by
  have HC := Lib.hid (fun (w' : World) (hb' : Below w.heap.size w w') => checkLine_any l a n c e w' (h.below hb'))
  clear h
  generalize lineErr l = el at HC h0
  have h1' : (el != 0) = true := by simpa using h0
  clear h0
  go_enter Try.func25, Try.ntmps25
  go_wp2_with fail
  refine (HC.out _ (by (repeat' (first | (with_reducible exact Below.refl _ _) | (with_reducible assumption) | (with_reducible refine Below.drewN ?_ _) | (with_reducible refine Below.alloc ?_ ?_ _) | (with_reducible refine Below.drew ?_) | (with_reducible refine Below.setCell ?_ ?_ _) | (with_reducible refine Below.step (by assumption) ?_ ?_) | (with_reducible exact And.left (by assumption)) | go_size)))).mono ?_
  rintro e5 w5 ⟨rfl, hb5⟩
  have hz5 := hb5.size
  simp only [World.size_alloc] at hz5
  have p0 : w5.cell? ⟨w.heap.size + 1, 0, none⟩ = some (.slice none 0 0) := by { rw [cellB hb5 _ _ (by first | (simp; done) | (simp; omega) | omega)]; all_goals (first | assumption | go_simp) }; have p1 : w5.cell? ⟨w.heap.size + 1, 1, none⟩ = some (.slice none 0 0) := by { rw [cellB hb5 _ _ (by first | (simp; done) | (simp; omega) | omega)]; all_goals (first | assumption | go_simp) }; have f0 : w5.frozen? ⟨w.heap.size + 1, 0, none⟩ = false := by { rw [frozenB hb5 _ _ (by first | (simp; done) | (simp; omega) | omega)]; all_goals (first | assumption | go_simp) }; have f1 : w5.frozen? ⟨w.heap.size + 1, 1, none⟩ = false := by { rw [frozenB hb5 _ _ (by first | (simp; done) | (simp; omega) | omega)]; all_goals (first | assumption | go_simp) }
  go_wp2
  refine bodyPost_ret (v := .tuple #[.agg #[.slice none 0 0, .slice none 0 0], .int .i64 el]) (by simp [results, Try.results25, go_sem, p0, p1]) rfl ⟨rfl, by (repeat' (first | (with_reducible exact Below.refl _ _) | (with_reducible assumption) | (with_reducible refine Below.drewN ?_ _) | (with_reducible refine Below.alloc ?_ ?_ _) | (with_reducible refine Below.drew ?_) | (with_reducible refine Below.setCell ?_ ?_ _) | (with_reducible refine Below.step (by assumption) ?_ ?_) | (with_reducible exact And.left (by assumption)) | go_size))⟩
end Go.Proofs.Ytbjgklifmillgaa
