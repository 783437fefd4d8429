import Derived.Deep.Heap
import Derived.Test.YtidboecjllaofaaGreatMWide1
/- Wide numbers: WideOf. -/
namespace Go.Proofs.YtidboecjllaofaaGreat
open Go.RowKit
set_option linter.unusedVariables false
theorem pw3 {k : Nat} (h : pw k ≤ 9223372036854775807) : k ≤ 2 := by
 by_cases hk : k ≤ 2
 ·exact hk
 ·have := pw_mono (m := 3) (n := k) (by omega)
  simp only [pw] at this; omega
theorem wof_step (o : List Int) (k : Nat) (m S : Int) (hl : o.length = k) (h : dval o + pw k * m = S) : dval (o ++ [m % 1000000000]) + pw (k + 1) * (m / 1000000000) = S := by
 rw [dval_app, dval_one, hl]
 have h3 := Int.emod_add_mul_ediv m 1000000000
 generalize m % 1000000000 = r at *
 generalize m / 1000000000 = q at *
 simp only [pw]
 grind
set_option maxRecDepth 100000 in
theorem wideOfInt_any (z : Int) (w : World) (hz0 : -9223372036854775807 ≤ z) (hz1 : z ≤ 9223372036854775807) :
    Calls Tryz.prog 102 #[.int .i64 z] w fun e' w' => ∃ v, e' = .returned v ∧ Below w.heap.size w w' ∧ WideR (fun b => w.heap.size ≤ b) w' v z := by
 by_cases hz : z < 0
 ·obtain ⟨u, hu⟩ : ∃ u : Nat, (u : Int) = -z := ⟨z.natAbs, by omega⟩
  have HZ := Lib.hid (show z.natAbs = u by omega)
  have hu1 : u ≤ 9223372036854775807 := by omega
  go_enter Tryz.func102, Tryz.ntmps102
  go_wp2
  go_loopw [0, 4] (fun x v wr => ∃ k m : Nat, x = .int .i64 m ∧ (∃ av cv o, v = .slice av k cv ∧ Hid (wr.ownsRow (w.heap.size + 1) 3 1 (.slice av k cv) k (icells o)) ∧ Hid (o.length = k ∧ DOk o ∧ dval o + pw k * m = (z.natAbs : Int))) ∧ k ≤ 3 ∧ m ≤ 9223372036854775807 ∧ Hid (Below w.heap.size w wr) ∧ w.heap.size < wr.heap.size ∧ wr.cell? ⟨w.heap.size, 0, none⟩ = some (.int .i64 0) ∧ wr.cell? ⟨w.heap.size, 1, none⟩ = some (.slice none 0 0) ∧ wr.frozen? ⟨w.heap.size, 0, none⟩ = false ∧ wr.frozen? ⟨w.heap.size, 1, none⟩ = false) (fun x _ _ => (intOf x).toNat)
  case atStart => exact ⟨0, u, by first | rfl | (rw [show (u : Int) = _ from hu]), ⟨none, 0, [], rfl, Lib.hid (World.ownsRow_nil _ _ _ _), Lib.hid ⟨rfl, DOk.nil, by rw [HZ.out]; simp [dval, pw]⟩⟩, by omega, hu1, Lib.hid (by (repeat' first | (with_reducible first | exact bw1 | assumption | refine bw2 ?_ _ | refine bw3 ?_ ?_ _ | refine bw4 ?_ | refine bw5 ?_ ?_ _ | refine bw6 (by assumption) ?_ ?_ | exact And.left (by assumption)) | go_size)), by simp, by go_simp, by go_simp, by go_simp, by go_simp⟩
  case round =>
   obtain ⟨k, m, rfl, ⟨av, cv, o, rfl, hO, hF⟩, hk, hm, hB, hsz, d0, d1, e0, e1⟩ := hrel
   have hp0 := pw_pos k
   rcases m with _ | m
   ·have HV := Lib.hid (show dval o = (z.natAbs : Int) by simpa using hF.out.2.2)
    have hcv : k ≤ cv := by
     obtain ⟨_, _, h1, h2, _⟩ := owns_slice hO.out
     simp only [Value.slice.injEq] at h1
     omega
    have HW := Lib.hid (wideOf_any (fun b => w.heap.size + 1 ≤ b) o av k cv (-1) z wr (SlR.of_owns hO.out) hF.out.2.1 hcv HV.out (fun _ => (Int.sign_eq_neg_one_of_neg hz).symm) (fun b o' h0 ha => owns_ge hO.out h0 ha))
    clear hp0
    go_wp2_with fail
    refine HW.out.mono ?_
    rintro e6 w6 ⟨v6, rfl, hb6, hW6⟩
    obtain ⟨a6, n6, c6, l6, rfl, hR⟩ := hW6
    have HR := Lib.hid hR
    have HB6 := Lib.hid (hB.out.trans (hb6.mono (by omega)))
    have hs1 := sign_bd z
    have HSS := Lib.hid (rfl : z.sign = z.sign)
    have d2 : w6.cell? ⟨w.heap.size, 0, none⟩ = some (.int .i64 0) := by { rw [cellB hb6 _ _ (by first | (simp; done) | (simp; omega) | omega)]; all_goals (first | assumption | go_simp) }; have d3 : w6.cell? ⟨w.heap.size, 1, none⟩ = some (.slice none 0 0) := by { rw [cellB hb6 _ _ (by first | (simp; done) | (simp; omega) | omega)]; all_goals (first | assumption | go_simp) }; have e2 : w6.frozen? ⟨w.heap.size, 0, none⟩ = false := by { rw [frozenB hb6 _ _ (by first | (simp; done) | (simp; omega) | omega)]; all_goals (first | assumption | go_simp) }; have e3 : w6.frozen? ⟨w.heap.size, 1, none⟩ = false := by { rw [frozenB hb6 _ _ (by first | (simp; done) | (simp; omega) | omega)]; all_goals (first | assumption | go_simp) }
    have hz6 := hb6.size
    clear hR hb6 HW
    obtain ⟨sg, hsg⟩ : ∃ sg, sg = z.sign := ⟨_, rfl⟩
    have HSG := Lib.hid hsg
    rw [← hsg]
    clear hsg
    go_wp2
    refine bodyPost_ret (v := .agg #[.int .i64 sg, .slice a6 n6 c6]) (by simp [results, Tryz.results102, go_sem, *]) rfl ⟨_, rfl, ((HB6.out.setCell (Nat.le_refl _) _).setCell (Nat.le_refl _) _), ?_⟩
    exact WideR.mono (p := fun b => w.heap.size + 1 ≤ b) (WideR.kept (w := w6) ⟨a6, n6, c6, l6, by rw [HSG.out], HR.out⟩ (by simp) (fun b hb => by rw [Go.Deep.blk_setCell_other _ _ _ _ (by simp; omega), Go.Deep.blk_setCell_other _ _ _ _ (by simp; omega)])) (fun b hb => by omega)
   ·have HV := Lib.hid (wof_step o k _ _ hF.out.1 hF.out.2.2)
    have hk2 : k ≤ 2 := pw3 (by
     have h1 := hF.out.2.2
     have h2 := (dval_bd hF.out.2.1).1
     have h3 : pw k * 1 ≤ pw k * ((m + 1 : Nat) : Int) := Int.mul_le_mul_of_nonneg_left (by omega) (by omega)
     omega)
    have HLO := Lib.hid (And.intro hF.out.1 hF.out.2.1)
    have HO := Lib.hid hO.out
    have HB := Lib.hid hB.out
    obtain ⟨q, hq⟩ : ∃ q : Nat, (q : Int) = ((m + 1 : Nat) : Int) / 1000000000 := ⟨(m + 1) / 1000000000, by omega⟩
    have HQ := Lib.hid hq
    have hqm : q < m + 1 := by omega
    clear hO hB hF hp0 hq
    go_wp2_with (at_builtin; refine append_one _ rfl _ _ rfl (w.heap.size + 1) k wr.heap.size (.slice av k cv) _ (.int .i64 (((m + 1 : Nat) : Int) % 1000000000)) rfl (HO.out.alloc _) rfl (by go_simp) rfl (by omega) (by simp; omega) ?_)
    intro v8 w8 hown8 _ _ hb8
    obtain ⟨av2, cv2, rfl, _, _⟩ := owns_slice hown8
    have hb9 : Below (w.heap.size + 1) wr w8 := Below.trans (Below.alloc (Below.refl _ _) (by omega) _) hb8
    have HO8 := Lib.hid (show w8.ownsRow (w.heap.size + 1) 3 1 (.slice av2 (k + 1) cv2) (k + 1) (icells (o ++ [((m + 1 : Nat) : Int) % 1000000000])) by rw [icells_append]; exact hown8)
    have HB8 := Lib.hid (HB.out.trans (hb9.mono (by omega)))
    have hz8 := hb9.size
    have d2 : w8.cell? ⟨w.heap.size, 0, none⟩ = some (.int .i64 0) := by { rw [cellB hb9 _ _ (by first | (simp; done) | (simp; omega) | omega)]; all_goals (first | assumption | go_simp) }; have d3 : w8.cell? ⟨w.heap.size, 1, none⟩ = some (.slice none 0 0) := by { rw [cellB hb9 _ _ (by first | (simp; done) | (simp; omega) | omega)]; all_goals (first | assumption | go_simp) }; have e2 : w8.frozen? ⟨w.heap.size, 0, none⟩ = false := by { rw [frozenB hb9 _ _ (by first | (simp; done) | (simp; omega) | omega)]; all_goals (first | assumption | go_simp) }; have e3 : w8.frozen? ⟨w.heap.size, 1, none⟩ = false := by { rw [frozenB hb9 _ _ (by first | (simp; done) | (simp; omega) | omega)]; all_goals (first | assumption | go_simp) }
    clear hown8 hb8 hb9
    go_wp2
    go_roundw
    case rel => exact ⟨k + 1, q, by rw [HQ.out]; rfl, ⟨av2, cv2, _, rfl, HO8, Lib.hid ⟨by simp [HLO.out.1], HLO.out.2.app (DOk.one (by omega) (by omega)), by rw [HQ.out]; exact HV.out⟩⟩, by omega, by omega, HB8, by omega, d2, d3, e2, e3⟩
    case measure => simp [intOf]; omega
 ·obtain ⟨u, hu⟩ : ∃ u : Nat, (u : Int) = z := ⟨z.natAbs, by omega⟩
  have HZ := Lib.hid (show z.natAbs = u by omega)
  have hu1 : u ≤ 9223372036854775807 := by omega
  go_enter Tryz.func102, Tryz.ntmps102
  go_wp2
  go_loopw [0, 4] (fun x v wr => ∃ k m : Nat, x = .int .i64 m ∧ (∃ av cv o, v = .slice av k cv ∧ Hid (wr.ownsRow (w.heap.size + 1) 3 1 (.slice av k cv) k (icells o)) ∧ Hid (o.length = k ∧ DOk o ∧ dval o + pw k * m = (z.natAbs : Int))) ∧ k ≤ 3 ∧ m ≤ 9223372036854775807 ∧ Hid (Below w.heap.size w wr) ∧ w.heap.size < wr.heap.size ∧ wr.cell? ⟨w.heap.size, 0, none⟩ = some (.int .i64 0) ∧ wr.cell? ⟨w.heap.size, 1, none⟩ = some (.slice none 0 0) ∧ wr.frozen? ⟨w.heap.size, 0, none⟩ = false ∧ wr.frozen? ⟨w.heap.size, 1, none⟩ = false) (fun x _ _ => (intOf x).toNat)
  case atStart => exact ⟨0, u, by first | rfl | (rw [show (u : Int) = _ from hu]), ⟨none, 0, [], rfl, Lib.hid (World.ownsRow_nil _ _ _ _), Lib.hid ⟨rfl, DOk.nil, by rw [HZ.out]; simp [dval, pw]⟩⟩, by omega, hu1, Lib.hid (by (repeat' first | (with_reducible first | exact bw1 | assumption | refine bw2 ?_ _ | refine bw3 ?_ ?_ _ | refine bw4 ?_ | refine bw5 ?_ ?_ _ | refine bw6 (by assumption) ?_ ?_ | exact And.left (by assumption)) | go_size)), by simp, by go_simp, by go_simp, by go_simp, by go_simp⟩
  case round =>
   obtain ⟨k, m, rfl, ⟨av, cv, o, rfl, hO, hF⟩, hk, hm, hB, hsz, d0, d1, e0, e1⟩ := hrel
   have hp0 := pw_pos k
   rcases m with _ | m
   ·have HV := Lib.hid (show dval o = (z.natAbs : Int) by simpa using hF.out.2.2)
    have hcv : k ≤ cv := by
     obtain ⟨_, _, h1, h2, _⟩ := owns_slice hO.out
     simp only [Value.slice.injEq] at h1
     omega
    have HW := Lib.hid (wideOf_any (fun b => w.heap.size + 1 ≤ b) o av k cv (1) z wr (SlR.of_owns hO.out) hF.out.2.1 hcv HV.out (fun h0 => (Int.sign_eq_one_of_pos (by omega)).symm) (fun b o' h0 ha => owns_ge hO.out h0 ha))
    clear hp0
    go_wp2_with fail
    refine HW.out.mono ?_
    rintro e6 w6 ⟨v6, rfl, hb6, hW6⟩
    obtain ⟨a6, n6, c6, l6, rfl, hR⟩ := hW6
    have HR := Lib.hid hR
    have HB6 := Lib.hid (hB.out.trans (hb6.mono (by omega)))
    have hs1 := sign_bd z
    have HSS := Lib.hid (rfl : z.sign = z.sign)
    have d2 : w6.cell? ⟨w.heap.size, 0, none⟩ = some (.int .i64 0) := by { rw [cellB hb6 _ _ (by first | (simp; done) | (simp; omega) | omega)]; all_goals (first | assumption | go_simp) }; have d3 : w6.cell? ⟨w.heap.size, 1, none⟩ = some (.slice none 0 0) := by { rw [cellB hb6 _ _ (by first | (simp; done) | (simp; omega) | omega)]; all_goals (first | assumption | go_simp) }; have e2 : w6.frozen? ⟨w.heap.size, 0, none⟩ = false := by { rw [frozenB hb6 _ _ (by first | (simp; done) | (simp; omega) | omega)]; all_goals (first | assumption | go_simp) }; have e3 : w6.frozen? ⟨w.heap.size, 1, none⟩ = false := by { rw [frozenB hb6 _ _ (by first | (simp; done) | (simp; omega) | omega)]; all_goals (first | assumption | go_simp) }
    have hz6 := hb6.size
    clear hR hb6 HW
    obtain ⟨sg, hsg⟩ : ∃ sg, sg = z.sign := ⟨_, rfl⟩
    have HSG := Lib.hid hsg
    rw [← hsg]
    clear hsg
    go_wp2
    refine bodyPost_ret (v := .agg #[.int .i64 sg, .slice a6 n6 c6]) (by simp [results, Tryz.results102, go_sem, *]) rfl ⟨_, rfl, ((HB6.out.setCell (Nat.le_refl _) _).setCell (Nat.le_refl _) _), ?_⟩
    exact WideR.mono (p := fun b => w.heap.size + 1 ≤ b) (WideR.kept (w := w6) ⟨a6, n6, c6, l6, by rw [HSG.out], HR.out⟩ (by simp) (fun b hb => by rw [Go.Deep.blk_setCell_other _ _ _ _ (by simp; omega), Go.Deep.blk_setCell_other _ _ _ _ (by simp; omega)])) (fun b hb => by omega)
   ·have HV := Lib.hid (wof_step o k _ _ hF.out.1 hF.out.2.2)
    have hk2 : k ≤ 2 := pw3 (by
     have h1 := hF.out.2.2
     have h2 := (dval_bd hF.out.2.1).1
     have h3 : pw k * 1 ≤ pw k * ((m + 1 : Nat) : Int) := Int.mul_le_mul_of_nonneg_left (by omega) (by omega)
     omega)
    have HLO := Lib.hid (And.intro hF.out.1 hF.out.2.1)
    have HO := Lib.hid hO.out
    have HB := Lib.hid hB.out
    obtain ⟨q, hq⟩ : ∃ q : Nat, (q : Int) = ((m + 1 : Nat) : Int) / 1000000000 := ⟨(m + 1) / 1000000000, by omega⟩
    have HQ := Lib.hid hq
    have hqm : q < m + 1 := by omega
    clear hO hB hF hp0 hq
    go_wp2_with (at_builtin; refine append_one _ rfl _ _ rfl (w.heap.size + 1) k wr.heap.size (.slice av k cv) _ (.int .i64 (((m + 1 : Nat) : Int) % 1000000000)) rfl (HO.out.alloc _) rfl (by go_simp) rfl (by omega) (by simp; omega) ?_)
    intro v8 w8 hown8 _ _ hb8
    obtain ⟨av2, cv2, rfl, _, _⟩ := owns_slice hown8
    have hb9 : Below (w.heap.size + 1) wr w8 := Below.trans (Below.alloc (Below.refl _ _) (by omega) _) hb8
    have HO8 := Lib.hid (show w8.ownsRow (w.heap.size + 1) 3 1 (.slice av2 (k + 1) cv2) (k + 1) (icells (o ++ [((m + 1 : Nat) : Int) % 1000000000])) by rw [icells_append]; exact hown8)
    have HB8 := Lib.hid (HB.out.trans (hb9.mono (by omega)))
    have hz8 := hb9.size
    have d2 : w8.cell? ⟨w.heap.size, 0, none⟩ = some (.int .i64 0) := by { rw [cellB hb9 _ _ (by first | (simp; done) | (simp; omega) | omega)]; all_goals (first | assumption | go_simp) }; have d3 : w8.cell? ⟨w.heap.size, 1, none⟩ = some (.slice none 0 0) := by { rw [cellB hb9 _ _ (by first | (simp; done) | (simp; omega) | omega)]; all_goals (first | assumption | go_simp) }; have e2 : w8.frozen? ⟨w.heap.size, 0, none⟩ = false := by { rw [frozenB hb9 _ _ (by first | (simp; done) | (simp; omega) | omega)]; all_goals (first | assumption | go_simp) }; have e3 : w8.frozen? ⟨w.heap.size, 1, none⟩ = false := by { rw [frozenB hb9 _ _ (by first | (simp; done) | (simp; omega) | omega)]; all_goals (first | assumption | go_simp) }
    clear hown8 hb8 hb9
    go_wp2
    go_roundw
    case rel => exact ⟨k + 1, q, by rw [HQ.out]; rfl, ⟨av2, cv2, _, rfl, HO8, Lib.hid ⟨by simp [HLO.out.1], HLO.out.2.app (DOk.one (by omega) (by omega)), by rw [HQ.out]; exact HV.out⟩⟩, by omega, by omega, HB8, by omega, d2, d3, e2, e3⟩
    case measure => simp [intOf]; omega
end Go.Proofs.YtidboecjllaofaaGreat

/- Wide numbers: wideSize. -/
namespace Go.Proofs.YtidboecjllaofaaGreat
open Go.RowKit
set_option linter.unusedVariables false
set_option maxRecDepth 100000 in
theorem wideSize_any (p : Nat → Prop) (v : Value) (z : Int) (w : World) (h : WideR p w v z) (hp : ∀ b, p b → b < w.heap.size) :
    Calls Tryz.prog 192 #[v] w fun e' w' => ∃ v', e' = .returned v' ∧ Below w.heap.size w w' ∧ WideR p w' v' (z.natAbs : Int) := by
 have HN := Lib.hid (fun w' (hb : Below w.heap.size w w') => wideNeg_any p v z w' (h.below hb))
 have HP := Lib.hid hp
 clear hp
 obtain ⟨a, n, c, l, rfl, h2, h3, h4, h5, h6, h7⟩ := h
 have hs := sign_bd z
 by_cases hz : z < 0
 ·have hs1 := Int.sign_eq_neg_one_of_neg hz
  have HZ := Lib.hid (show (-z) = (z.natAbs : Int) by omega)
  clear h2 h3 h4 h5 h6 h7 hz
  generalize z.sign = s at *
  subst hs1
  go_enter Tryz.func192, Tryz.ntmps192
  go_wp2_with fail
  refine (HN.out _ (by (repeat' first | (with_reducible first | exact bw1 | assumption | refine bw2 ?_ _ | refine bw3 ?_ ?_ _ | refine bw4 ?_ | refine bw5 ?_ ?_ _ | refine bw6 (by assumption) ?_ ?_ | exact And.left (by assumption)) | go_size))).mono ?_
  rintro e6 w6 ⟨v6, rfl, hb6, hW6⟩
  rw [HZ.out] at hW6
  obtain ⟨a6, n6, c6, l6, rfl, hR⟩ := hW6
  have HR := Lib.hid hR
  have HB6 := Lib.hid (Below.trans (show Below w.heap.size w _ by (repeat' first | (with_reducible first | exact bw1 | assumption | refine bw2 ?_ _ | refine bw3 ?_ ?_ _ | refine bw4 ?_ | refine bw5 ?_ ?_ _ | refine bw6 (by assumption) ?_ ?_ | exact And.left (by assumption)) | go_size)) (hb6.mono (by simp; omega)))
  have hz6 := hb6.size
  have d2 : w6.cell? ⟨w.heap.size + 1, 0, none⟩ = some (.int .i64 0) := by { rw [cellB hb6 _ _ (by first | (simp; done) | (simp; omega) | omega)]; all_goals (first | assumption | go_simp) }; have d3 : w6.cell? ⟨w.heap.size + 1, 1, none⟩ = some (.slice none 0 0) := by { rw [cellB hb6 _ _ (by first | (simp; done) | (simp; omega) | omega)]; all_goals (first | assumption | go_simp) }; have e2 : w6.frozen? ⟨w.heap.size + 1, 0, none⟩ = false := by { rw [frozenB hb6 _ _ (by first | (simp; done) | (simp; omega) | omega)]; all_goals (first | assumption | go_simp) }; have e3 : w6.frozen? ⟨w.heap.size + 1, 1, none⟩ = false := by { rw [frozenB hb6 _ _ (by first | (simp; done) | (simp; omega) | omega)]; all_goals (first | assumption | go_simp) }
  clear hR hb6 HN
  obtain ⟨sg, hsg⟩ : ∃ sg, sg = ((z.natAbs : Int)).sign := ⟨_, rfl⟩
  have HSG := Lib.hid hsg
  rw [← hsg]
  clear hsg
  go_wp2
  refine bodyPost_ret (v := .agg #[.int .i64 sg, .slice a6 n6 c6]) (by simp [results, Tryz.results192, go_sem, *]) rfl ⟨_, rfl, ((HB6.out.setCell (by simp) _).setCell (by simp) _), ?_⟩
  exact WideR.kept (w := w6) ⟨a6, n6, c6, l6, by rw [HSG.out], HR.out⟩ (by simp) (fun b hb => by have := HP.out b hb; rw [Go.Deep.blk_setCell_other _ _ _ _ (by simp; omega), Go.Deep.blk_setCell_other _ _ _ _ (by simp; omega)])
 ·have HW := Lib.hid (fun w' (hb : Below w.heap.size w w') => (⟨a, n, c, l, by rw [show (z.natAbs : Int) = z by omega], h2.below hb, h3, h4, by rw [h5]; omega, h6, h7⟩ : WideR p w' (.agg #[.int .i64 z.sign, .slice a n c]) (z.natAbs : Int)))
  have hs2 : 0 ≤ z.sign := by
   by_cases h0 : z = 0
   ·subst h0; simp
   ·rw [Int.sign_eq_one_of_pos (by omega)]; omega
  clear h2 h3 h4 h5 h6 h7 hz HN
  generalize z.sign = s at *
  go_enter Tryz.func192, Tryz.ntmps192
  go_wp2
  refine bodyPost_ret (v := .agg #[.int .i64 s, .slice a n c]) (by simp [results, Tryz.results192, go_sem]) rfl ⟨_, rfl, by (repeat' first | (with_reducible first | exact bw1 | assumption | refine bw2 ?_ _ | refine bw3 ?_ ?_ _ | refine bw4 ?_ | refine bw5 ?_ ?_ _ | refine bw6 (by assumption) ?_ ?_ | exact And.left (by assumption)) | go_size), HW.out _ (by (repeat' first | (with_reducible first | exact bw1 | assumption | refine bw2 ?_ _ | refine bw3 ?_ ?_ _ | refine bw4 ?_ | refine bw5 ?_ ?_ _ | refine bw6 (by assumption) ?_ ?_ | exact And.left (by assumption)) | go_size))⟩
end Go.Proofs.YtidboecjllaofaaGreat
