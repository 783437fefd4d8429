import Derived.Test.YtdklmcicogmeaaaGreatDAt
import Derived.Test.YtdklmcicogmeaaaGreatDChg
import Derived.Test.YtdklmcicogmeaaaGreatDRng
import Derived.Test.YtdklmcicogmeaaaGreatDXpl
import Derived.Test.YtdklmcicogmeaaaGreatMDLit
/- The chapter's examples hold. -/
namespace Go.Proofs.YtdklmcicogmeaaaGreat
open Go.RowKit
set_option linter.unusedVariables false

def exSer : Ser := ⟨⟨#[104, 102, 99, 116]⟩, 120, 2, 1, 2, 2, 3, [⟨5, -20, 3⟩, ⟨65, 25, 12⟩, ⟨125, -30, 4⟩]⟩
def exGri : Gri := ⟨⟨0, 0, 0⟩, 10, ⟨3, 1, 1⟩⟩
def exArr : Arr := ⟨1, 1, [⟨-100, 5, 5, 100, 100⟩, ⟨130, 5, 5, 130, 130⟩]⟩
theorem ex_ser : SerW exSer := by unfold SerW exSer maxLen; refine ⟨?_, ?_, ?_, ?_, ?_⟩ <;> decide
theorem ex_lvl : lvlOf [20, 25, 30] 2 = 25 := by
  refine (lvl_unique (by omega) (by decide) (by decide) (fun r hr => ?_)).symm
  have h1 : ¬ r ≤ 20 := by omega
  have h2 : ¬ r ≤ 25 := by omega
  by_cases h3 : r ≤ 30 <;> simp [cge, h1, h2, h3]
theorem ex_lev : levE exSer = (25, 0) := by
  have h : lvErr exSer = 0 := by decide +kernel
  unfold levE
  rw [if_neg (by rw [h]; decide)]
  exact congrArg (fun x => (x, (0 : Int))) ex_lvl
theorem ex_chg : chgE exSer = ((12, 17), 0) := by
  unfold chgE
  rw [ex_lev]
  decide +kernel
theorem ex_ansE : ansE exGri exArr ⟨0, 0, 0⟩ = 0 := by decide +kernel
theorem ex_ans : ans exGri exArr ⟨0, 0, 0⟩ = 1 := by decide +kernel
theorem ex_drE : drE exGri ⟨1, 0, 0⟩ ⟨0, 0, 0⟩ = 0 := by decide +kernel
theorem ex_dr : dist exGri ⟨1, 0, 0⟩ ⟨0, 0, 0⟩ = (10, 25) := by decide +kernel
theorem ex_xpl : xplE [⟨1, 0, 1⟩] [⟨0, 2, 1⟩, ⟨0, 0, 1⟩] [2] [(1, 4)] = ([[0], [1]], 0) := by decide +kernel
set_option maxHeartbeats 2000000 in
set_option maxRecDepth 100000 in
theorem awake9_any (w : World) : Calls Tryz.prog 7 #[] w fun e' w' => e' = .returned (.bool true) ∧ Below w.heap.size w w' := by
  go_enter Tryz.func7, Tryz.ntmps7
  go_wp2_with fail
  refine (series9_any _).mono ?_
  rintro e5 w5 ⟨g, rfl, hb5, ht5⟩
  go_wp2_with fail
  refine (show Calls _ _ _ _ _ from chargeOf_any exSer (some ⟨g, 0, none⟩) 3 3 w5 ex_ser ht5).mono ?_
  rintro e6 w6 ⟨rfl, hb6⟩
  rw [ex_chg]
  have HB6 := Lib.hid (hb5.trans (hb6.mono hb5.size))
  clear hb5 hb6 ht5
  go_wp2_with fail
  refine (grid9_any _).mono ?_
  rintro e7 w7 ⟨rfl, hb7⟩
  go_wp2_with fail
  refine (arrivals9_any _).mono ?_
  rintro e8 w8 ⟨g8, rfl, hb8, ht8⟩
  go_wp2_with fail
  refine (show Calls _ _ _ _ _ from answerAt_any exGri exArr ⟨0, 0, 0⟩ (some ⟨g8, 0, none⟩) 2 2 w8 ht8).mono ?_
  rintro e9 w9 ⟨rfl, hb9⟩
  rw [if_pos ex_ansE, ex_ans, ex_ansE]
  have hz7 := hb7.size
  have hz8 := hb8.size
  have hz9 := hb9.size
  simp only [World.size_alloc] at hz7
  have k1 : w9.heap[w6.heap.size]? = some (.cells #[.int .i64 12, .int .i64 17] 35) := by rw [hb9.block _ (by omega), hb8.block _ (by omega), hb7.block _ (by simp)]; exact heap_alloc_new _ _
  have HB9 := Lib.hid (show Below w.heap.size w w9 from (HB6.out.alloc HB6.out.size _).trans ((hb7.trans ((hb8.mono hb7.size).trans (hb9.mono (Nat.le_trans hb7.size hb8.size)))).mono (by simp; have := HB6.out.size; omega)))
  obtain ⟨X1, hX1⟩ : ∃ X, X = w6.heap.size := ⟨_, rfl⟩
  rw [← hX1] at k1 ⊢
  have x1 : X1 < w9.heap.size := by omega
  clear hb7 hb8 hb9 ht8 hz7 hz8 hz9 hX1 HB6
  go_wp2_with fail
  refine (grid9_any _).mono ?_
  rintro e10 wa ⟨rfl, hba⟩
  go_wp2_with fail
  refine (show Calls _ _ _ _ _ from distanceRange_any exGri ⟨1, 0, 0⟩ ⟨0, 0, 0⟩ wa).mono ?_
  rintro e11 wb ⟨rfl, hbb⟩
  rw [if_pos ex_drE, if_pos ex_drE, ex_drE, ex_dr]
  have k1 := (hbb.block _ (by have := hba.size; omega)).trans ((hba.block _ x1).trans k1)
  have HBb := Lib.hid (HB9.out.trans ((hba.trans (hbb.mono hba.size)).mono HB9.out.size))
  have x1 : X1 < wb.heap.size := by have := hba.size; have := hbb.size; omega
  clear hba hbb HB9
  go_wp2_with fail
  obtain ⟨X5, hX5⟩ : ∃ X, X = wb.heap.size := ⟨_, rfl⟩
  generalize hW : wb.alloc (Obj.cells #[.int .i64 10, .int .i64 25] 35) = wc
  have hbc : Below wb.heap.size wb wc := by rw [← hW]; (repeat' (first | (with_reducible exact Below.refl _ _) | (with_reducible assumption) | (with_reducible refine Below.drewN ?_ _) | (with_reducible refine Below.alloc ?_ ?_ _) | (with_reducible refine Below.drew ?_) | (with_reducible refine Below.setCell ?_ ?_ _) | (with_reducible refine Below.step (by assumption) ?_ ?_) | (with_reducible exact And.left (by assumption)) | go_size))
  have k5 : wc.heap[X5]? = some (.cells #[.int .i64 10, .int .i64 25] 35) := by rw [← hW, hX5]; exact heap_alloc_new _ _
  rw [← hX5]
  have k1 := (hbc.block _ x1).trans k1
  have x15 : X1 < X5 := by omega
  have HBc := Lib.hid (HBb.out.trans (hbc.mono HBb.out.size))
  have x5 : X5 < wc.heap.size := (Array.getElem?_eq_some_iff.1 k5).1
  clear hW hbc hX5 HBb x1
  refine (network9_any _).mono ?_
  rintro e12 wd ⟨gd, rfl, hbd, htd⟩
  have hbd' := hbd.size
  go_wp2_with fail
  refine (changes9_any _).mono ?_
  rintro e13 we ⟨ge, rfl, hbe, hte⟩
  have hbe' := hbe.size
  have HD := Lib.hid (T3R.below htd hbe)
  have HE := Lib.hid hte
  have k1 := (hbe.block _ (by omega)).trans ((hbd.block _ (by omega)).trans k1)
  have k5 := (hbe.block _ (by omega)).trans ((hbd.block _ (by omega)).trans k5)
  have HBe := Lib.hid (HBc.out.trans ((hbd.trans (hbe.mono hbd.size)).mono HBc.out.size))
  have x5 : X5 < we.heap.size := by omega
  clear hbd hbe htd hte hbd' hbe' HBc
  go_wp2_with fail
  generalize hW : (we.alloc (Obj.cells #[.int .i64 2] 3)).alloc (Obj.cells #[.int .i64 1, .int .i64 4] 107) = wf
  have hbf : Below we.heap.size we wf := by rw [← hW]; (repeat' (first | (with_reducible exact Below.refl _ _) | (with_reducible assumption) | (with_reducible refine Below.drewN ?_ _) | (with_reducible refine Below.alloc ?_ ?_ _) | (with_reducible refine Below.drew ?_) | (with_reducible refine Below.setCell ?_ ?_ _) | (with_reducible refine Below.step (by assumption) ?_ ?_) | (with_reducible exact And.left (by assumption)) | go_size))
  have hi : IntsR wf (some ⟨we.heap.size, 0, none⟩) 1 [2] := by rw [← hW]; exact sl_made (w0 := we) (t := 3) (cs := [.int .i64 2]) rfl (by (repeat' (first | (with_reducible exact Below.refl _ _) | (with_reducible assumption) | (with_reducible refine Below.drewN ?_ _) | (with_reducible refine Below.alloc ?_ ?_ _) | (with_reducible refine Below.drew ?_) | (with_reducible refine Below.setCell ?_ ?_ _) | (with_reducible refine Below.step (by assumption) ?_ ?_) | (with_reducible exact And.left (by assumption)) | go_size))) rfl (by omega)
  have hp : PairsR wf (some ⟨we.heap.size + 1, 0, none⟩) 1 [(1, 4)] := by rw [← hW]; exact sl_made (w0 := we.alloc _) (t := 107) (cs := [.int .i64 1, .int .i64 4]) (by simp) (by (repeat' (first | (with_reducible exact Below.refl _ _) | (with_reducible assumption) | (with_reducible refine Below.drewN ?_ _) | (with_reducible refine Below.alloc ?_ ?_ _) | (with_reducible refine Below.drew ?_) | (with_reducible refine Below.setCell ?_ ?_ _) | (with_reducible refine Below.step (by assumption) ?_ ?_) | (with_reducible exact And.left (by assumption)) | go_size))) rfl (by omega)
  have k1 := (hbf.block _ (by omega)).trans k1
  have k5 := (hbf.block _ (by omega)).trans k5
  have HBf := Lib.hid (HBe.out.trans (hbf.mono HBe.out.size))
  have x5 : X5 < wf.heap.size := by have := hbf.size; omega
  refine (explanationsOf_any 1 1 2 2 1 1 1 1 (some ⟨gd, 0, none⟩) (some ⟨ge, 0, none⟩) (some ⟨we.heap.size, 0, none⟩) (some ⟨we.heap.size + 1, 0, none⟩) [⟨1, 0, 1⟩] [⟨0, 2, 1⟩, ⟨0, 0, 1⟩] [2] [(1, 4)] wf (HD.out.below hbf) (HE.out.below hbf) hi hp).mono ?_
  clear hW hbf hi hp HD HE HBe
  rw [ex_xpl]
  rintro e14 wg ⟨ag, kg, cg, rfl, hbg, hrg⟩
  have hbg' := hbg.size
  have k1 := (hbg.block _ (by omega)).trans k1
  have k5 := (hbg.block _ (by omega)).trans k5
  have HBg := Lib.hid (HBf.out.trans (hbg.mono HBf.out.size))
  have x5 : X5 < wg.heap.size := by omega
  have HR := Lib.hid hrg
  have a1 := cell_of_row _ _ 0 _ _ _ k1
  have a2 := cell_of_row _ _ 1 _ _ _ k1
  have b1 := cell_of_row _ _ 0 _ _ _ k5
  have b2 := cell_of_row _ _ 1 _ _ _ k5
  simp only [List.getElem?_toArray, List.getElem?_cons_zero, List.getElem?_cons_succ] at a1 a2 b1 b2
  clear hbg hrg hbg' HBf k1 k5
  go_wp2_with fail
  generalize hW : ((wg.alloc (Obj.cells #[.int .i64 0] 3)).alloc (Obj.cells #[.int .i64 1] 3)).alloc (Obj.cells #[.slice (some ⟨wg.heap.size, 0, none⟩) 1 1, .slice (some ⟨wg.heap.size + 1, 0, none⟩) 1 1] 27) = wh
  have hbh : Below wg.heap.size wg wh := by rw [← hW]; (repeat' (first | (with_reducible exact Below.refl _ _) | (with_reducible assumption) | (with_reducible refine Below.drewN ?_ _) | (with_reducible refine Below.alloc ?_ ?_ _) | (with_reducible refine Below.drew ?_) | (with_reducible refine Below.setCell ?_ ?_ _) | (with_reducible refine Below.step (by assumption) ?_ ?_) | (with_reducible exact And.left (by assumption)) | go_size))
  have hR : RowsI wh (some ⟨wg.heap.size + 1 + 1, 0, none⟩) 2 [[0], [1]] := by
    refine ⟨[.slice (some ⟨wg.heap.size, 0, none⟩) 1 1, .slice (some ⟨wg.heap.size + 1, 0, none⟩) 1 1], ?_, rfl, fun i S hS => ?_⟩
    · rw [← hW]
      exact sl_made (w0 := (wg.alloc _).alloc _) (t := 27) (cs := [.slice (some ⟨wg.heap.size, 0, none⟩) 1 1, .slice (some ⟨wg.heap.size + 1, 0, none⟩) 1 1]) (by simp) (by (repeat' (first | (with_reducible exact Below.refl _ _) | (with_reducible assumption) | (with_reducible refine Below.drewN ?_ _) | (with_reducible refine Below.alloc ?_ ?_ _) | (with_reducible refine Below.drew ?_) | (with_reducible refine Below.setCell ?_ ?_ _) | (with_reducible refine Below.step (by assumption) ?_ ?_) | (with_reducible exact And.left (by assumption)) | go_size))) rfl (by omega)
    · match i, hS with
      | 0, hS =>
        simp only [List.getElem?_cons_zero, Option.some.injEq] at hS
        subst hS
        refine ⟨_, 1, 1, rfl, ?_⟩
        rw [← hW]
        exact sl_made (w0 := wg) (t := 3) (cs := [.int .i64 0]) rfl (by (repeat' (first | (with_reducible exact Below.refl _ _) | (with_reducible assumption) | (with_reducible refine Below.drewN ?_ _) | (with_reducible refine Below.alloc ?_ ?_ _) | (with_reducible refine Below.drew ?_) | (with_reducible refine Below.setCell ?_ ?_ _) | (with_reducible refine Below.step (by assumption) ?_ ?_) | (with_reducible exact And.left (by assumption)) | go_size))) rfl (by omega)
      | 1, hS =>
        simp only [List.getElem?_cons_succ, List.getElem?_cons_zero, Option.some.injEq] at hS
        subst hS
        refine ⟨_, 1, 1, rfl, ?_⟩
        rw [← hW]
        exact sl_made (w0 := wg.alloc _) (t := 3) (cs := [.int .i64 1]) (by simp) (by (repeat' (first | (with_reducible exact Below.refl _ _) | (with_reducible assumption) | (with_reducible refine Below.drewN ?_ _) | (with_reducible refine Below.alloc ?_ ?_ _) | (with_reducible refine Below.drew ?_) | (with_reducible refine Below.setCell ?_ ?_ _) | (with_reducible refine Below.step (by assumption) ?_ ?_) | (with_reducible exact And.left (by assumption)) | go_size))) rfl (by omega)
  refine (lists_any _ _ _ _ kg cg 2 2 wh (HR.out.below hbh) hR).mono ?_
  rintro e15 wi ⟨rfl, m15, rfl⟩
  have HBh := Lib.hid (HBg.out.trans (hbh.mono HBg.out.size))
  clear hW hR hbh
  go_wp2
  go_ret
  exact ⟨ret_bool (by decide), by have := HBh.out; (repeat' (first | (with_reducible exact Below.refl _ _) | (with_reducible assumption) | (with_reducible refine Below.drewN ?_ _) | (with_reducible refine Below.alloc ?_ ?_ _) | (with_reducible refine Below.drew ?_) | (with_reducible refine Below.setCell ?_ ?_ _) | (with_reducible refine Below.step (by assumption) ?_ ?_) | (with_reducible exact And.left (by assumption)) | go_size))⟩
end Go.Proofs.YtdklmcicogmeaaaGreat
