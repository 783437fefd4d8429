import Derived.Test.YtdklmcicogmeaaaGreatBlk
import Derived.Test.YtdklmcicogmeaaaGreatDDef2
import Derived.Test.YtdklmcicogmeaaaGreatDTop
import Derived.Test.YtdklmcicogmeaaaGreatDXpe
import Derived.Test.YtdklmcicogmeaaaGreatDXpl
import Derived.Test.YtdklmcicogmeaaaGreatMDLevO
import Derived.Test.YtdklmcicogmeaaaGreatMRGcd
import Derived.Test.YtdklmcicogmeaaaGreatMovP
import Derived.Test.YtdklmcicogmeaaaGreatRMeas
import Derived.Test.YtdklmcicogmeaaaGreatRNet2
import Derived.Test.YtdklmcicogmeaaaGreatRResp3
/- What the transport changed is among the explanations: the statement's function (under way). -/
namespace Go.Proofs.YtdklmcicogmeaaaGreat
open Go.RowKit
set_option linter.unusedVariables false
set_option linter.unusedSimpArgs false

theorem whole9_any (x : Int) (w : World) : Calls Tryz.prog 43 #[.int .i64 x] w fun e' w' => e' = .returned (.agg #[.int .i64 x, .int .i64 1]) ∧ Below w.heap.size w w' := by
  go_enter Tryz.func43, Tryz.ntmps43
  go_wp2
  refine bodyPost_ret (v := .agg #[.int .i64 x, .int .i64 1]) (by simp [results, Tryz.results43, go_sem]) rfl ⟨rfl, ?_⟩
  (repeat' (first | (with_reducible exact Below.refl _ _) | (with_reducible assumption) | (with_reducible refine Below.drewN ?_ _) | (with_reducible refine Below.alloc ?_ ?_ _) | (with_reducible refine Below.drew ?_) | (with_reducible refine Below.setCell ?_ ?_ _) | (with_reducible refine Below.step (by assumption) ?_ ?_) | (with_reducible exact And.left (by assumption)) | go_size))
theorem t3_lit {W : World} {X : Nat} {p : T3} {t : TypeId} (h : W.heap[X]? = some (.cells #[.int .i64 p.x, .int .i64 p.y, .int .i64 p.z] t)) : T3R W (some ⟨X, 0, none⟩) 1 [p] := by
  refine ⟨rfl, rfl, by unfold maxLen; omega, fun _ => ⟨X, 0, rfl, blk_lt h, fun i u hu => ?_⟩⟩
  rw [ecells_one] at hu
  match i with
  | 0 => exact blk_cell h hu
  | 1 => exact blk_cell h hu
  | 2 => exact blk_cell h hu
  | i + 3 => simp [e3] at hu
theorem ints_lit {W : World} {X : Nat} {x : Int} {t : TypeId} (h : W.heap[X]? = some (.cells #[.int .i64 x] t)) : IntsR W (some ⟨X, 0, none⟩) 1 [x] := by
  refine ⟨rfl, by unfold maxLen; omega, fun _ => ⟨X, 0, rfl, blk_lt h, fun i u hu => ?_⟩⟩
  match i with
  | 0 => exact blk_cell h hu
  | i + 1 => simp [icells] at hu
theorem set_one {m k : Nat} (hk : k < m) : setE m (nats [k]) = 0 := by
  unfold setE
  rw [firstAt_all]
  intro j _ hj
  obtain rfl : j = 0 := by have : (nats [k]).length = 1 := rfl; omega
  have e : wi (k : Int) 0 ((m : Int) - 1) = true := wi_iff.2 (by omega)
  simp [clE, nats, firstErr, unl, e]
theorem mov_one {s l : List T3} {fs : List Int} {m n : Nat} (h1 : (netE s).2 = 0) (hn : s.length = n) (h2 : defsE n l = 0) (hl : l.length = m) (h3 : freE fs = 0) (k : Nat) (hk : k < m) :
    defoE s [pAt l k] = 22 ∨ (defoE s [pAt l k] = 0 ∧ (netE (dfm s [pAt l k])).2 = 0 ∧ (dfm s [pAt l k]).length = n ∧ rsoE (dfm s [pAt l k]) fs = 0 ∧ respsE (fs.map (gPr (dfm s [pAt l k]))) = 0 ∧ expE s l fs (fs.map (gPr (dfm s [pAt l k]))) (nats [k]) = (true, 0) ∧
      ∃ LL, xplE s l fs (fs.map (gPr (dfm s [pAt l k]))) = (LL, 0) ∧ 1 ≤ LL.length ∧ LL.length ≤ 6 ∧ (∀ S ∈ LL, S.length ≤ 1) ∧ ([] ∈ LL ∨ [k] ∈ LL)) := by
  have hp : pick l (nats [k]) = [pAt l k] := by simp [pick, nats]
  have hd : defsE n [pAt l k] = 0 := by rw [← hp]; exact defsE_pick h2 hl (set_one hk)
  have hdo : defoE s [pAt l k] = if (netE (dfm s [pAt l k])).2 ≠ 0 then 22 else 0 := by
    unfold defoE
    rw [h1, hn, hd]; simp [firstErr]
  by_cases h4 : (netE (dfm s [pAt l k])).2 = 0
  · right
    rw [hdo, if_neg (by rw [h4]; decide)]
    refine ⟨rfl, h4, by rw [dfm_len]; exact hn, by unfold rsoE; rw [h4, h3]; rfl, respsE_gPr h4 h3, ?_, xpl_one h1 (by rw [hn]; exact h2) h3 (by omega) h4⟩
    unfold expE
    rw [if_neg (by rw [ask_own h1 (by rw [hn]; exact h2) h3 h4]; decide), if_neg (by rw [set_one (by omega)]; decide), exp_one h4]
  · left
    rw [hdo, if_pos h4]
def wnt (A B : List (Int × Int)) (t : Nat) : List Nat := (List.range t).filter (fun i => decide (nrm (A.getD i (0, 0)) ≠ nrm (B.getD i (0, 0))))
theorem wnt_yes {A B : List (Int × Int)} {t : Nat} (h : nrm (A.getD t (0, 0)) ≠ nrm (B.getD t (0, 0))) : icells (nats (wnt A B (t + 1))) = icells (nats (wnt A B t)) ++ [.int .i64 (t : Int)] := by
  unfold wnt; rw [List.range_succ, List.filter_append]; simp only [List.filter_cons, List.filter_nil, decide_eq_true h, if_true]; simp [nats, icells]
theorem wnt_no {A B : List (Int × Int)} {t : Nat} (h : nrm (A.getD t (0, 0)) = nrm (B.getD t (0, 0))) : wnt A B (t + 1) = wnt A B t := by
  unfold wnt; rw [List.range_succ, List.filter_append]; simp only [List.filter_cons, List.filter_nil, decide_eq_false (fun c : nrm (A.getD t (0, 0)) ≠ nrm (B.getD t (0, 0)) => c h), Bool.false_eq_true, if_false, List.append_nil]
def ownS (k : Nat) (S : List Nat) : Bool := decide (S = []) || decide (S = [k])
theorem ownS_any {k : Nat} {LL : List (List Nat)} (h : [] ∈ LL ∨ [k] ∈ LL) : LL.any (ownS k) = true := by
  rw [List.any_eq_true]
  rcases h with h | h
  · exact ⟨_, h, by simp [ownS]⟩
  · exact ⟨_, h, by simp [ownS]⟩
theorem own_take {k t : Nat} {LL : List (List Nat)} {S : List Nat} (h : LL[t]? = some S) : (LL.take (t + 1)).any (ownS k) = ((LL.take t).any (ownS k) || ownS k S) := by
  rw [take_last h, List.any_append]; simp
set_option maxHeartbeats 8000000 in
set_option maxRecDepth 100000 in
theorem mov_any (n c m cm nf cf : Nat) (a ap af : Option Addr) (s l : List T3) (fs : List Int) (w : World) (hs : T3R w a n s) (hl : T3R w ap m l) (hf : IntsR w af nf fs) :
    Calls Tryz.prog 6 #[.agg #[.slice a n c], .slice ap m cm, .slice af nf cf] w fun e' w' => e' = .returned (.bool true) ∧ Below w.heap.size w w' := by
  have hn := hs.small
  have hm := hl.small
  have hnf := hf.small
  have HNE := Lib.hid (fun (W : World) (hb : Below w.heap.size w W) => rNetworkErr_any s a n c W (hs.below hb))
  have HDE := Lib.hid (fun (W : World) (hb : Below w.heap.size w W) => rDeformationsErr_any n c m cm a ap l W hn (hl.below hb))
  have HFE := Lib.hid (fun (W : World) (hb : Below w.heap.size w W) => rFrequenciesErr_any fs af nf cf W (hf.below hb))
  obtain ⟨e1, he1⟩ : ∃ e, e = (netE s).2 := ⟨_, rfl⟩
  obtain ⟨e2, he2⟩ : ∃ e, e = defsE n l := ⟨_, rfl⟩
  obtain ⟨e3, he3⟩ : ∃ e, e = freE fs := ⟨_, rfl⟩
  rw [← he1] at HNE
  rw [← he2] at HDE
  rw [← he3] at HFE
  have HE := Lib.hid (And.intro he1 (And.intro he2 he3))
  have HSL := Lib.hid hs
  have HLL := Lib.hid hl
  have HFL := Lib.hid hf
  clear hs hl hf he1 he2 he3
  go_enter Tryz.func6, Tryz.ntmps6
  go_wp2_with fail
  obtain ⟨w4, hW⟩ : ∃ w4, w4 = w.alloc (Obj.cells #[.slice a n c] 81) := ⟨_, rfl⟩
  rw [← hW]
  have hb4 : Below w.heap.size w w4 := by rw [hW]; (repeat' (first | (with_reducible exact Below.refl _ _) | (with_reducible assumption) | (with_reducible refine Below.drewN ?_ _) | (with_reducible refine Below.alloc ?_ ?_ _) | (with_reducible refine Below.drew ?_) | (with_reducible refine Below.setCell ?_ ?_ _) | (with_reducible refine Below.step (by assumption) ?_ ?_) | (with_reducible exact And.left (by assumption)) | go_size))
  have kN : w4.heap[w.heap.size]? = some (.cells #[.slice a n c] 81) := by rw [hW]; exact heap_alloc_new _ _
  have HB4 := Lib.hid hb4
  have HB := Lib.hid (Below.refl w4.heap.size w4)
  clear hW hb4
  have q0 : w4.cell? ⟨w.heap.size, 0, none⟩ = some (.slice a n c) := blk_cell (blk_below kN HB.out) (i := 0) rfl
  have lr0 := blk_lt (blk_below kN HB.out)
  refine (topAwake9_any _).mono ?_
  rintro e5 w5 ⟨rfl, hb5⟩
  replace HB := Lib.hid (HB.out.trans (hb5.mono HB.out.size))
  clear hb5 q0 lr0
  have q0 : w5.cell? ⟨w.heap.size, 0, none⟩ = some (.slice a n c) := blk_cell (blk_below kN HB.out) (i := 0) rfl
  have lr0 := blk_lt (blk_below kN HB.out)
  go_wp2_with fail
  refine (HNE.out _ (HB4.out.trans (HB.out.mono HB4.out.size))).mono ?_
  rintro e6 w6 ⟨rfl, hb6⟩
  replace HB := Lib.hid (HB.out.trans (hb6.mono HB.out.size))
  clear hb6 q0 lr0
  have q0 : w6.cell? ⟨w.heap.size, 0, none⟩ = some (.slice a n c) := blk_cell (blk_below kN HB.out) (i := 0) rfl
  have lr0 := blk_lt (blk_below kN HB.out)
  by_cases h1 : e1 = 0
  · subst h1
    go_wp2_with fail
    refine (HDE.out _ (HB4.out.trans (HB.out.mono HB4.out.size))).mono ?_
    rintro e7 w7 ⟨rfl, hb7⟩
    replace HB := Lib.hid (HB.out.trans (hb7.mono HB.out.size))
    clear hb7 q0 lr0
    have q0 : w7.cell? ⟨w.heap.size, 0, none⟩ = some (.slice a n c) := blk_cell (blk_below kN HB.out) (i := 0) rfl
    have lr0 := blk_lt (blk_below kN HB.out)
    by_cases h2 : e2 = 0
    · subst h2
      go_wp2_with fail
      refine (HFE.out _ (HB4.out.trans (HB.out.mono HB4.out.size))).mono ?_
      rintro e8 w8 ⟨rfl, hb8⟩
      replace HB := Lib.hid (HB.out.trans (hb8.mono HB.out.size))
      clear hb8 q0 lr0
      have q0 : w8.cell? ⟨w.heap.size, 0, none⟩ = some (.slice a n c) := blk_cell (blk_below kN HB.out) (i := 0) rfl
      have lr0 := blk_lt (blk_below kN HB.out)
      by_cases h3 : e3 = 0
      · subst h3
        by_cases h4 : m = 0
        · have b1 : ((m : Int) == 0) = true := by simp; omega
          clear h4
          go_wp2_with fail
          all_goals go_ret
          all_goals exact ⟨by first | rfl | exact ret_bool (by simp), HB4.out.trans (HB.out.mono HB4.out.size)⟩
        · have b1 : ((m : Int) == 0) = false := by simp; omega
          go_wp2_with fail
          obtain ⟨g1, g2, g3⟩ := HE.out
          have hns := HSL.out.len
          rw [← hns] at g2
          have hm6 : m ≤ 6 := by have := (defsE_zero g2.symm).1; rw [HLL.out.len] at this; exact this
          have hn3 : n ≤ 3 := by have := (netE_pos g1.symm).2.1; omega
          have hf8 : nf ≤ 8 := by have := (freE_zero g3.symm).1; rw [HFL.out.len] at this; exact this
          obtain ⟨R, hR⟩ : ∃ R, R = fs.map (gPr s) := ⟨_, rfl⟩
          have HCN := Lib.hid (fun (W : World) (hb : Below w.heap.size w W) => (copyNetwork_any s a n c W (HSL.out.below hb) (by omega)).mono (fun e' w' ⟨a', c', he, hb', ho⟩ => show ∃ a' c', e' = Ending.returned (.agg #[.slice a' n c']) ∧ Below W.heap.size W w' ∧ T3R w' a' n s from ⟨a', c', he, hb', ER.of_owns HSL.out.len ho⟩))
          have HCD := Lib.hid (fun (W : World) (hb : Below w.heap.size w W) => copyDeformations_any l ap m cm W (HLL.out.below hb) (by omega))
          have HCI := Lib.hid (fun (W : World) (hb : Below w.heap.size w W) => (copyInts_any fs af nf cf W (HFL.out.below hb) (by omega)).mono (fun e' w' ⟨a', c', he, hb', ho⟩ => show ∃ a' c', e' = Ending.returned (.slice a' nf c') ∧ Below W.heap.size W w' ∧ IntsR w' a' nf fs from ⟨a', c', he, hb', SlR.of_owns ho⟩))
          have hro : rsoE s fs = 0 := by unfold rsoE; rw [← g1, ← g3]; rfl
          have HRO := Lib.hid (fun (a' af' : Option Addr) (c' cf' : Nat) (W : World) (h1 : T3R W a' n s) (h2 : IntsR W af' nf fs) => responsesOf_any s fs a' af' n c' nf cf' W h1 h2)
          rw [hro, if_pos rfl, ← hR] at HRO
          have hrl : R.length = nf := by rw [hR, List.length_map]; exact HFL.out.len
          have hre : respsE R = 0 := by rw [hR]; exact respsE_gPr g1.symm g3.symm
          have HDF := Lib.hid (fun (a1 a2 : Option Addr) (c1 c2 : Nat) (W : World) (h1 : PairsR W a1 nf R) (h2 : PairsR W a2 nf R) => differencesOf_any 1 1 R R a1 a2 nf c1 nf c2 W h1 h2 (by omega) (by omega))
          rw [difE_one hre hre rfl, if_pos rfl, difL_self] at HDF
          have HXO := Lib.hid (fun (a1 a2 a3 a4 : Option Addr) (c1 c2 c3 c4 : Nat) (W : World) (h1 : T3R W a1 n s) (h2 : T3R W a2 m l) (h3 : IntsR W a3 nf fs) (h4 : PairsR W a4 nf R) => explanationsOf_any n c1 m c2 nf c3 nf c4 a1 a2 a3 a4 s l fs R W h1 h2 h3 h4)
          rw [show xplE s l fs R = ([[]], 0) by rw [hR]; exact xpl_none g1.symm g2.symm g3.symm] at HXO
          have HRE := Lib.hid (fun (a1 : Option Addr) (c1 : Nat) (W : World) (h1 : PairsR W a1 nf R) => rResponsesErr_any R a1 nf c1 W h1)
          rw [hre] at HRE
          have HCG := Lib.hid (fun (a1 : Option Addr) (c1 : Nat) (W : World) (h1 : PairsR W a1 nf R) => copyGausses_any R a1 nf c1 W h1 (by omega))
          have HRL := Lib.hid hrl
          have HRR := Lib.hid hR
          have HM1 := Lib.hid (fun (k : Nat) (hk : k < m) => mov_one g1.symm hns (by rw [← hns]; exact g2.symm) HLL.out.len g3.symm k hk)
          have HRZ := Lib.hid (show respsE R = 0 from hre)
          have HCM := Lib.hid (fun (rs : List (Int × Int)) (a1 a2 : Option Addr) (c1 c2 : Nat) (W : World) (h1 : IntsR W a1 nf fs) (h2 : PairsR W a2 nf rs) => copyMeasured_any fs rs a1 a2 nf c1 nf c2 W h1 h2 (by omega) (by omega))
          clear hns g1 g2 g3 hro hrl hre hR HE
          refine (HCN.out _ (HB4.out.trans (HB.out.mono HB4.out.size))).mono ?_
          rintro e9 w9 ⟨a9, c9, rfl, hb9, hs9⟩
          replace HB := Lib.hid (HB.out.trans (hb9.mono HB.out.size))
          clear hb9 q0 lr0
          have q0 : w9.cell? ⟨w.heap.size, 0, none⟩ = some (.slice a n c) := blk_cell (blk_below kN HB.out) (i := 0) rfl
          have lr0 := blk_lt (blk_below kN HB.out)
          go_wp2_with fail
          refine (HCI.out _ (HB4.out.trans (HB.out.mono HB4.out.size))).mono ?_
          rintro e10 w10 ⟨a10, c10, rfl, hb10, ho10⟩
          have HS9 := Lib.hid (hs9.below hb10)
          have HI10 := Lib.hid ho10
          clear hs9 ho10
          replace HB := Lib.hid (HB.out.trans (hb10.mono HB.out.size))
          clear hb10 q0 lr0
          have q0 : w10.cell? ⟨w.heap.size, 0, none⟩ = some (.slice a n c) := blk_cell (blk_below kN HB.out) (i := 0) rfl
          have lr0 := blk_lt (blk_below kN HB.out)
          go_wp2_with fail
          refine (HRO.out a9 a10 c9 c10 _ HS9.out HI10.out).mono ?_
          rintro e11 w11 ⟨aB, kB, cB, rfl, hb11, hr11⟩
          have hkB : nf = kB := by rw [← hr11.len, HRL.out]
          subst hkB
          have HBF := Lib.hid (fun (W : World) (hb : Below w11.heap.size w11 W) => hr11.below hb)
          have HRE1 := Lib.hid (HRE.out aB cB w11 hr11)
          clear hr11 HS9 HI10
          replace HB := Lib.hid (HB.out.trans (hb11.mono HB.out.size))
          clear hb11 q0 lr0
          have q0 : w11.cell? ⟨w.heap.size, 0, none⟩ = some (.slice a n c) := blk_cell (blk_below kN HB.out) (i := 0) rfl
          have lr0 := blk_lt (blk_below kN HB.out)
          go_wp2_with fail
          refine (HRE1.out).mono ?_
          rintro e12 w12 ⟨rfl, hb12⟩
          have HP := Lib.hid (show Below w11.heap.size w11 w12 from hb12)
          clear HRE1
          replace HB := Lib.hid (HB.out.trans (hb12.mono HB.out.size))
          clear hb12 q0 lr0
          have q0 : w12.cell? ⟨w.heap.size, 0, none⟩ = some (.slice a n c) := blk_cell (blk_below kN HB.out) (i := 0) rfl
          have lr0 := blk_lt (blk_below kN HB.out)
          go_wp2_with fail
          have HB11 := Lib.hid (HP.out)
          refine (HCG.out aB cB _ (HBF.out _ HB11.out)).mono ?_
          rintro e13 w13 ⟨a13, c13, rfl, hb13, hr13⟩
          have HP13 := Lib.hid (HB11.out.trans (hb13.mono HB11.out.size))
          replace HB := Lib.hid (HB.out.trans (hb13.mono HB.out.size))
          clear hb13 q0 lr0
          have q0 : w13.cell? ⟨w.heap.size, 0, none⟩ = some (.slice a n c) := blk_cell (blk_below kN HB.out) (i := 0) rfl
          have lr0 := blk_lt (blk_below kN HB.out)
          go_wp2_with fail
          refine (HCG.out aB cB _ (HBF.out _ HP13.out)).mono ?_
          rintro e14 w14 ⟨a14, c14, rfl, hb14, hr14⟩
          have HR13 := Lib.hid (hr13.below hb14)
          have HP14 := Lib.hid (HP13.out.trans (hb14.mono HP13.out.size))
          have HR14 := Lib.hid hr14
          clear hr13 hr14 HP13
          replace HB := Lib.hid (HB.out.trans (hb14.mono HB.out.size))
          clear hb14 q0 lr0
          have q0 : w14.cell? ⟨w.heap.size, 0, none⟩ = some (.slice a n c) := blk_cell (blk_below kN HB.out) (i := 0) rfl
          have lr0 := blk_lt (blk_below kN HB.out)
          go_wp2_with fail
          refine (whole9_any 1 _).mono ?_
          rintro e15 w15 ⟨rfl, hb15⟩
          have HD15 := Lib.hid (HDF.out a13 a14 c13 c14 w15 (HR13.out.below hb15) (HR14.out.below hb15))
          have HP15 := Lib.hid (HP14.out.trans (hb15.mono HP14.out.size))
          clear HR13 HR14 HP14
          replace HB := Lib.hid (HB.out.trans (hb15.mono HB.out.size))
          clear hb15 q0 lr0
          have q0 : w15.cell? ⟨w.heap.size, 0, none⟩ = some (.slice a n c) := blk_cell (blk_below kN HB.out) (i := 0) rfl
          have lr0 := blk_lt (blk_below kN HB.out)
          go_wp2_with fail
          refine (HD15.out).mono ?_
          rintro e16 w16 ⟨ad, kd, cd, rfl, hb16, hd16⟩
          have hkd : kd = 0 := by have := hd16.len; simpa [nats] using this.symm
          have HP16 := Lib.hid (HP15.out.trans (hb16.mono HP15.out.size))
          clear hd16 HP15 HD15
          replace HB := Lib.hid (HB.out.trans (hb16.mono HB.out.size))
          clear hb16 q0 lr0
          have q0 : w16.cell? ⟨w.heap.size, 0, none⟩ = some (.slice a n c) := blk_cell (blk_below kN HB.out) (i := 0) rfl
          have lr0 := blk_lt (blk_below kN HB.out)
          go_wp2_with fail
          refine (HCN.out _ (HB4.out.trans (HB.out.mono HB4.out.size))).mono ?_
          rintro e17 w17 ⟨a17, c17, rfl, hb17, ht17⟩
          have HT17 := Lib.hid ht17
          have HP17 := Lib.hid (HP16.out.trans (hb17.mono HP16.out.size))
          clear ht17 HP16
          replace HB := Lib.hid (HB.out.trans (hb17.mono HB.out.size))
          clear hb17 q0 lr0
          have q0 : w17.cell? ⟨w.heap.size, 0, none⟩ = some (.slice a n c) := blk_cell (blk_below kN HB.out) (i := 0) rfl
          have lr0 := blk_lt (blk_below kN HB.out)
          go_wp2_with fail
          refine (HCD.out _ (HB4.out.trans (HB.out.mono HB4.out.size))).mono ?_
          rintro e18 w18 ⟨a18, c18, rfl, hb18, ht18⟩
          have HT17 := Lib.hid (HT17.out.below hb18)
          have HT18 := Lib.hid ht18
          have HP18 := Lib.hid (HP17.out.trans (hb18.mono HP17.out.size))
          clear ht18 HP17
          replace HB := Lib.hid (HB.out.trans (hb18.mono HB.out.size))
          clear hb18 q0 lr0
          have q0 : w18.cell? ⟨w.heap.size, 0, none⟩ = some (.slice a n c) := blk_cell (blk_below kN HB.out) (i := 0) rfl
          have lr0 := blk_lt (blk_below kN HB.out)
          go_wp2_with fail
          refine (HCI.out _ (HB4.out.trans (HB.out.mono HB4.out.size))).mono ?_
          rintro e19 w19 ⟨a19, c19, rfl, hb19, ht19⟩
          have HT17 := Lib.hid (HT17.out.below hb19)
          have HT18 := Lib.hid (HT18.out.below hb19)
          have HT19 := Lib.hid ht19
          have HP19 := Lib.hid (HP18.out.trans (hb19.mono HP18.out.size))
          clear ht19 HP18
          replace HB := Lib.hid (HB.out.trans (hb19.mono HB.out.size))
          clear hb19 q0 lr0
          have q0 : w19.cell? ⟨w.heap.size, 0, none⟩ = some (.slice a n c) := blk_cell (blk_below kN HB.out) (i := 0) rfl
          have lr0 := blk_lt (blk_below kN HB.out)
          go_wp2_with fail
          refine (HCG.out aB cB _ (HBF.out _ HP19.out)).mono ?_
          rintro e20 w20 ⟨a20, c20, rfl, hb20, ht20⟩
          have HX20 := Lib.hid (HXO.out a17 a18 a19 a20 c17 c18 c19 c20 w20 (HT17.out.below hb20) (HT18.out.below hb20) (HT19.out.below hb20) ht20)
          have HP20 := Lib.hid (HP19.out.trans (hb20.mono HP19.out.size))
          clear ht20 HP19 HT17 HT18 HT19
          replace HB := Lib.hid (HB.out.trans (hb20.mono HB.out.size))
          clear hb20 q0 lr0
          have q0 : w20.cell? ⟨w.heap.size, 0, none⟩ = some (.slice a n c) := blk_cell (blk_below kN HB.out) (i := 0) rfl
          have lr0 := blk_lt (blk_below kN HB.out)
          go_wp2_with fail
          refine (HX20.out).mono ?_
          rintro e21 w21 ⟨ax, kx, cx, rfl, hb21, hx21⟩
          have HP21 := Lib.hid (HP20.out.trans (hb21.mono HP20.out.size))
          clear HX20 HP20
          replace HB := Lib.hid (HB.out.trans (hb21.mono HB.out.size))
          clear hb21 q0 lr0
          have q0 : w21.cell? ⟨w.heap.size, 0, none⟩ = some (.slice a n c) := blk_cell (blk_below kN HB.out) (i := 0) rfl
          have lr0 := blk_lt (blk_below kN HB.out)
          have hkx : kx = 1 := by obtain ⟨_, _, h, _⟩ := hx21; exact h.symm
          obtain ⟨bx, ox, Sx, pz, mz, cz, rfl, hSx, hz, hz2⟩ := hx21.at (i := 0) (by omega)
          have hmz : mz = 0 := by
            have e : Sx = [] := by simpa using hSx.symm
            rw [e] at hz2
            have := hz2.len
            simpa [nats] using this.symm
          have hbx : bx < w21.heap.size := by
            obtain ⟨_, _, _, hb⟩ := blk_of_cell hz
            exact (Array.getElem?_eq_some_iff.1 hb).1
          subst hmz
          subst hkd
          subst hkx
          have hz0 : w21.cell? ⟨bx, ox, none⟩ = some (.slice pz 0 cz) := by simpa using hz
          clear hSx hz2 hx21 hz
          go_wp2_with fail
          have HB21 := Lib.hid HB.out
          clear hz0 hbx HRO HDF HXO HRE
          go_loopw [13] (fun i wr => ∃ k : Nat, i = .int .i64 (k : Int) ∧ k ≤ m ∧ Hid (Below w21.heap.size w21 wr)) (fun i _ => m - (intOf i).toNat)
          case atStart => exact ⟨0, rfl, Nat.zero_le _, Lib.hid (Below.refl _ _)⟩
          case round =>
            clear HB q0 lr0
            obtain ⟨k, rfl, hk, hBr⟩ := hrel
            have k0 : (0 : Int) ≤ (k : Int) := by omega
            have HB := Lib.hid (HB21.out.trans (hBr.out.mono HB21.out.size))
            have HPr := Lib.hid (HP21.out.trans (hBr.out.mono HP21.out.size))
            have q0 : wr.cell? ⟨w.heap.size, 0, none⟩ = some (.slice a n c) := blk_cell (blk_below kN HB.out) (i := 0) rfl
            have lr0 := blk_lt (blk_below kN HB.out)
            by_cases hlt : k < m
            · have k1 : (k : Int) < (m : Int) := by omega
              obtain ⟨b1, o1, rfl, hb1, hc1⟩ := (HLL.out.below (HB4.out.trans (HB.out.mono HB4.out.size))).addr (by omega)
              obtain ⟨⟨x0, x1, x2⟩, hx⟩ := ER.get HLL.out hlt
              obtain ⟨d0, d1, d2⟩ := hc1 k _ hx
              have hpk : pAt l k = ⟨x0, x1, x2⟩ := pAt_get hx
              have HDE1 := Lib.hid (fun (a1 a2 : Option Addr) (c1 c2 : Nat) (W : World) (h1 : T3R W a1 n s) (h2 : T3R W a2 1 [⟨x0, x1, x2⟩]) => deformedO_any n c1 1 c2 a1 a2 s [⟨x0, x1, x2⟩] W h1 (by omega) h2)
              obtain ⟨EO, hEO⟩ : ∃ E, E = defoE s [⟨x0, x1, x2⟩] := ⟨_, rfl⟩
              rw [← hEO] at HDE1
              have HEO := Lib.hid hEO
              have HPK := Lib.hid hpk
              have HBW := Lib.hid (HB4.out.trans (HB.out.mono HB4.out.size))
              simp only at d0 d1 d2
              clear hc1 hx hpk hEO
              go_wp2_with fail
              go_cut [14, 15] from 123 to 133 (fun v14 v15 wx => ∃ (X : Nat) (a7 : Option Addr) (k7 c7 : Nat), v14 = .pointer (some ⟨X, 0, none⟩) ∧ v15 = .int .i64 EO ∧ wx.cell? ⟨X, 0, none⟩ = some (.slice a7 k7 c7) ∧ X < wx.heap.size ∧ Hid (T3R wx a7 k7 (if EO = 0 then dfm s [⟨x0, x1, x2⟩] else [])) ∧ Hid (Below wr.heap.size wr wx))
              case first =>
                have HN := Lib.hid (Below.refl wr.heap.size wr).drew
                refine wp_region_laterT (B := wr.heap.size) (.head 0 (.head 2 (.head 3 (.head 4 (.head 5 (.three 1 (.two 6 (.two 7 (.head 8 (.head 9 (.head 10 (.one 11 (.one 12 (.head 13 .done)))))) 11 (.one 7 (.head 8 (.head 9 (.head 10 (.one 12 (.head 13 .done))))))) 11 (.one 6 (.one 7 (.head 8 (.head 9 (.head 10 (.one 12 (.head 13 .done)))))))) 6 (.two 1 (.two 7 (.head 8 (.head 9 (.head 10 (.one 11 (.one 12 (.head 13 .done)))))) 11 (.one 7 (.head 8 (.head 9 (.head 10 (.one 12 (.head 13 .done))))))) 11 (.one 1 (.one 7 (.head 8 (.head 9 (.head 10 (.one 12 (.head 13 .done)))))))) 11 (.two 1 (.one 6 (.one 7 (.head 8 (.head 9 (.head 10 (.one 12 (.head 13 .done))))))) 6 (.one 1 (.one 7 (.head 8 (.head 9 (.head 10 (.one 12 (.head 13 .done)))))))))))))) (by kernel_rfl) (by kernel_rfl) ?_
                repeat (refine tree_head rfl ?_; (show wpQuiet _ _ _ _ (_ :: _) _; go_big_quiet_step (fail)); refine wpQuiet_nil ?_)
                refine tree_three rfl rfl rfl ?_ ?_ ?_
                · go_wp2_with fail
                  refine (HCN.out _ (HBW.out.trans (HN.out.mono HBW.out.size))).mono ?_
                  rintro e11 wx1 ⟨aC, cC, rfl, hbx, hsC⟩
                  have HT1 := Lib.hid hsC
                  clear hsC
                  have hzx := hbx.size
                  have HN := Lib.hid (HN.out.trans (hbx.mono HN.out.size))
                  clear hbx
                  go_wp2_with fail
                  refine tailL_mk HN.out ?_
                  repeat (refine tree_head rfl ?_; (show wpQuiet _ _ _ _ (_ :: _) _; go_big_quiet_step (fail)); refine wpQuiet_nil ?_)
                  refine tree_two rfl rfl ?_ ?_
                  · go_wp2_with fail
                    obtain ⟨XL, hXL⟩ : ∃ X, X = wx1.heap.size := ⟨_, rfl⟩
                    have hxl : (wx1.alloc (Obj.cells #[.int .i64 x0, .int .i64 x1, .int .i64 x2] 104)).heap[XL]? = some (.cells #[.int .i64 x0, .int .i64 x1, .int .i64 x2] 104) := by rw [hXL]; exact heap_alloc_new _ _
                    have hbx : Below wx1.heap.size wx1 (wx1.alloc (Obj.cells #[.int .i64 x0, .int .i64 x1, .int .i64 x2] 104)) := by (repeat' (first | (with_reducible exact Below.refl _ _) | (with_reducible assumption) | (with_reducible refine Below.drewN ?_ _) | (with_reducible refine Below.alloc ?_ ?_ _) | (with_reducible refine Below.drew ?_) | (with_reducible refine Below.setCell ?_ ?_ _) | (with_reducible refine Below.step (by assumption) ?_ ?_) | (with_reducible exact And.left (by assumption)) | go_size))
                    try simp only [← hXL]
                    generalize (wx1.alloc (Obj.cells #[.int .i64 x0, .int .i64 x1, .int .i64 x2] 104)) = wx2 at *
                    have HN := Lib.hid (HN.out.trans (hbx.mono HN.out.size))
                    have HT1 := Lib.hid (HT1.out.below hbx)
                    have HT6 := Lib.hid (show T3R wx2 (some ⟨XL, 0, none⟩) 1 [⟨x0, x1, x2⟩] from t3_lit hxl)
                    clear hbx hXL hxl
                    refine tailL_mk HN.out ?_
                    repeat (refine tree_head rfl ?_; (show wpQuiet _ _ _ _ (_ :: _) _; go_big_quiet_step (fail)); refine wpQuiet_nil ?_)
                    refine tree_two rfl rfl ?_ ?_
                    · go_wp2_with fail
                      refine (HDE1.out _ _ _ _ _ HT1.out HT6.out).mono ?_
                      rintro e11 wx3 ⟨aM, nM, cM, rfl, hbx, hsM⟩
                      have HT7 := Lib.hid hsM
                      clear hsM
                      have hzx := hbx.size
                      have HN := Lib.hid (HN.out.trans (hbx.mono HN.out.size))
                      have HT1 := Lib.hid (HT1.out.below hbx)
                      have HT6 := Lib.hid (HT6.out.below hbx)
                      clear hbx
                      go_wp2_with fail
                      refine tailL_mk HN.out ?_
                      repeat (refine tree_head rfl ?_; (show wpQuiet _ _ _ _ (_ :: _) _; go_big_quiet_step (fail)); refine wpQuiet_nil ?_)
                      refine tree_one rfl ?_
                      go_wp2_with fail
                      obtain ⟨X9, hX9⟩ : ∃ X, X = wx3.heap.size := ⟨_, rfl⟩
                      have hNX : wr.heap.size ≤ X9 := by rw [hX9]; exact HN.out.size
                      have hx9 : (wx3.alloc (Obj.cells #[.slice none 0 0] 81)).heap[X9]? = some (.cells #[.slice none 0 0] 81) := by rw [hX9]; exact heap_alloc_new _ _
                      have l9 : X9 < (wx3.alloc (Obj.cells #[.slice none 0 0] 81)).heap.size := by rw [hX9]; simp
                      have hs9 : (wx3.alloc (Obj.cells #[.slice none 0 0] 81)).heap.size = wx3.heap.size + 1 := by simp
                      have hbx : Below wx3.heap.size wx3 (wx3.alloc (Obj.cells #[.slice none 0 0] 81)) := by (repeat' (first | (with_reducible exact Below.refl _ _) | (with_reducible assumption) | (with_reducible refine Below.drewN ?_ _) | (with_reducible refine Below.alloc ?_ ?_ _) | (with_reducible refine Below.drew ?_) | (with_reducible refine Below.setCell ?_ ?_ _) | (with_reducible refine Below.step (by assumption) ?_ ?_) | (with_reducible exact And.left (by assumption)) | go_size))
                      try simp only [← hX9]
                      generalize (wx3.alloc (Obj.cells #[.slice none 0 0] 81)) = wx4 at *
                      have HX9 := Lib.hid (And.intro hX9 hs9)
                      have HN := Lib.hid (HN.out.trans (hbx.mono HN.out.size))
                      have HT1 := Lib.hid (HT1.out.below hbx)
                      have HT6 := Lib.hid (HT6.out.below hbx)
                      have HT7 := Lib.hid (HT7.out.below hbx)
                      clear hbx hX9 hs9
                      refine tailL_mk HN.out ?_
                      repeat (refine tree_head rfl ?_; (show wpQuiet _ _ _ _ (_ :: _) _; go_big_quiet_step (fail)); refine wpQuiet_nil ?_)
                      refine tree_one rfl ?_
                      have c90 := cell_of_row _ _ 0 _ _ _ hx9
                      have f90 := frozen_of_row _ _ 0 _ _ hx9
                      simp only [List.getElem?_toArray, List.getElem?_cons_zero, List.getElem?_cons_succ] at c90
                      go_wp2_with fail
                      have HN := Lib.hid (show Below wr.heap.size wr (wx4.setCell ⟨X9, 0, none⟩ (.slice aM nM cM)) from Below.setCell (HN.out) hNX _)
                      have hxo := hx9
                      have hx9 : (wx4.setCell ⟨X9, 0, none⟩ (.slice aM nM cM)).heap[X9]? = some (.cells #[.slice aM nM cM] 81) := blk_set (hx9) 0 (.slice aM nM cM)
                      refine tailL_mk HN.out ?_
                      repeat (refine tree_head rfl ?_; (show wpQuiet _ _ _ _ (_ :: _) _; go_big_quiet_step (fail)); refine wpQuiet_nil ?_)
                      refine tree_done ?_
                      go_wp2_with fail
                      go_meet
                      case rel => exact ⟨X9, aM, nM, cM, rfl, rfl, blk_cell hx9 (i := 0) rfl, by simpa using l9, Lib.hid ((HT7.out.set hxo 0 _).t3), HN⟩
                    · go_wp2_with fail
                      obtain ⟨X9, hX9⟩ : ∃ X, X = wx2.heap.size := ⟨_, rfl⟩
                      have hNX : wr.heap.size ≤ X9 := by rw [hX9]; exact HN.out.size
                      have hx9 : (wx2.alloc (Obj.cells #[.slice none 0 0] 81)).heap[X9]? = some (.cells #[.slice none 0 0] 81) := by rw [hX9]; exact heap_alloc_new _ _
                      have l9 : X9 < (wx2.alloc (Obj.cells #[.slice none 0 0] 81)).heap.size := by rw [hX9]; simp
                      have hs9 : (wx2.alloc (Obj.cells #[.slice none 0 0] 81)).heap.size = wx2.heap.size + 1 := by simp
                      have hbx : Below wx2.heap.size wx2 (wx2.alloc (Obj.cells #[.slice none 0 0] 81)) := by (repeat' (first | (with_reducible exact Below.refl _ _) | (with_reducible assumption) | (with_reducible refine Below.drewN ?_ _) | (with_reducible refine Below.alloc ?_ ?_ _) | (with_reducible refine Below.drew ?_) | (with_reducible refine Below.setCell ?_ ?_ _) | (with_reducible refine Below.step (by assumption) ?_ ?_) | (with_reducible exact And.left (by assumption)) | go_size))
                      try simp only [← hX9]
                      generalize (wx2.alloc (Obj.cells #[.slice none 0 0] 81)) = wx6 at *
                      have HX9 := Lib.hid (And.intro hX9 hs9)
                      have HN := Lib.hid (HN.out.trans (hbx.mono HN.out.size))
                      have HT1 := Lib.hid (HT1.out.below hbx)
                      have HT6 := Lib.hid (HT6.out.below hbx)
                      clear hbx hX9 hs9
                      refine tailL_mk HN.out ?_
                      repeat (refine tree_head rfl ?_; (show wpQuiet _ _ _ _ (_ :: _) _; go_big_quiet_step (fail)); refine wpQuiet_nil ?_)
                      refine tree_one rfl ?_
                      go_wp2_with fail
                      refine (HDE1.out _ _ _ _ _ HT1.out HT6.out).mono ?_
                      rintro e11 wx7 ⟨aM, nM, cM, rfl, hbx, hsM⟩
                      have HT7 := Lib.hid hsM
                      clear hsM
                      have hzx := hbx.size
                      have HN := Lib.hid (HN.out.trans (hbx.mono HN.out.size))
                      have HT1 := Lib.hid (HT1.out.below hbx)
                      have HT6 := Lib.hid (HT6.out.below hbx)
                      have hx9 := (hbx.block X9 l9).trans hx9
                      have l9 := Nat.lt_of_lt_of_le l9 hbx.size
                      clear hbx
                      go_wp2_with fail
                      refine tailL_mk HN.out ?_
                      repeat (refine tree_head rfl ?_; (show wpQuiet _ _ _ _ (_ :: _) _; go_big_quiet_step (fail)); refine wpQuiet_nil ?_)
                      refine tree_one rfl ?_
                      have c90 := cell_of_row _ _ 0 _ _ _ hx9
                      have f90 := frozen_of_row _ _ 0 _ _ hx9
                      simp only [List.getElem?_toArray, List.getElem?_cons_zero, List.getElem?_cons_succ] at c90
                      go_wp2_with fail
                      have HN := Lib.hid (show Below wr.heap.size wr (wx7.setCell ⟨X9, 0, none⟩ (.slice aM nM cM)) from Below.setCell (HN.out) hNX _)
                      have hxo := hx9
                      have hx9 : (wx7.setCell ⟨X9, 0, none⟩ (.slice aM nM cM)).heap[X9]? = some (.cells #[.slice aM nM cM] 81) := blk_set (hx9) 0 (.slice aM nM cM)
                      refine tailL_mk HN.out ?_
                      repeat (refine tree_head rfl ?_; (show wpQuiet _ _ _ _ (_ :: _) _; go_big_quiet_step (fail)); refine wpQuiet_nil ?_)
                      refine tree_done ?_
                      go_wp2_with fail
                      go_meet
                      case rel => exact ⟨X9, aM, nM, cM, rfl, rfl, blk_cell hx9 (i := 0) rfl, by simpa using l9, Lib.hid ((HT7.out.set hxo 0 _).t3), HN⟩
                  · go_wp2_with fail
                    obtain ⟨X9, hX9⟩ : ∃ X, X = wx1.heap.size := ⟨_, rfl⟩
                    have hNX : wr.heap.size ≤ X9 := by rw [hX9]; exact HN.out.size
                    have hx9 : (wx1.alloc (Obj.cells #[.slice none 0 0] 81)).heap[X9]? = some (.cells #[.slice none 0 0] 81) := by rw [hX9]; exact heap_alloc_new _ _
                    have l9 : X9 < (wx1.alloc (Obj.cells #[.slice none 0 0] 81)).heap.size := by rw [hX9]; simp
                    have hs9 : (wx1.alloc (Obj.cells #[.slice none 0 0] 81)).heap.size = wx1.heap.size + 1 := by simp
                    have hbx : Below wx1.heap.size wx1 (wx1.alloc (Obj.cells #[.slice none 0 0] 81)) := by (repeat' (first | (with_reducible exact Below.refl _ _) | (with_reducible assumption) | (with_reducible refine Below.drewN ?_ _) | (with_reducible refine Below.alloc ?_ ?_ _) | (with_reducible refine Below.drew ?_) | (with_reducible refine Below.setCell ?_ ?_ _) | (with_reducible refine Below.step (by assumption) ?_ ?_) | (with_reducible exact And.left (by assumption)) | go_size))
                    try simp only [← hX9]
                    generalize (wx1.alloc (Obj.cells #[.slice none 0 0] 81)) = wx9 at *
                    have HX9 := Lib.hid (And.intro hX9 hs9)
                    have HN := Lib.hid (HN.out.trans (hbx.mono HN.out.size))
                    have HT1 := Lib.hid (HT1.out.below hbx)
                    clear hbx hX9 hs9
                    refine tailL_mk HN.out ?_
                    repeat (refine tree_head rfl ?_; (show wpQuiet _ _ _ _ (_ :: _) _; go_big_quiet_step (fail)); refine wpQuiet_nil ?_)
                    refine tree_one rfl ?_
                    go_wp2_with fail
                    obtain ⟨XL, hXL⟩ : ∃ X, X = wx9.heap.size := ⟨_, rfl⟩
                    have hxl : (wx9.alloc (Obj.cells #[.int .i64 x0, .int .i64 x1, .int .i64 x2] 104)).heap[XL]? = some (.cells #[.int .i64 x0, .int .i64 x1, .int .i64 x2] 104) := by rw [hXL]; exact heap_alloc_new _ _
                    have hbx : Below wx9.heap.size wx9 (wx9.alloc (Obj.cells #[.int .i64 x0, .int .i64 x1, .int .i64 x2] 104)) := by (repeat' (first | (with_reducible exact Below.refl _ _) | (with_reducible assumption) | (with_reducible refine Below.drewN ?_ _) | (with_reducible refine Below.alloc ?_ ?_ _) | (with_reducible refine Below.drew ?_) | (with_reducible refine Below.setCell ?_ ?_ _) | (with_reducible refine Below.step (by assumption) ?_ ?_) | (with_reducible exact And.left (by assumption)) | go_size))
                    try simp only [← hXL]
                    generalize (wx9.alloc (Obj.cells #[.int .i64 x0, .int .i64 x1, .int .i64 x2] 104)) = wx10 at *
                    have HN := Lib.hid (HN.out.trans (hbx.mono HN.out.size))
                    have HT1 := Lib.hid (HT1.out.below hbx)
                    have hx9 := (hbx.block X9 l9).trans hx9
                    have l9 := Nat.lt_of_lt_of_le l9 hbx.size
                    have HT6 := Lib.hid (show T3R wx10 (some ⟨XL, 0, none⟩) 1 [⟨x0, x1, x2⟩] from t3_lit hxl)
                    clear hbx hXL hxl
                    refine tailL_mk HN.out ?_
                    repeat (refine tree_head rfl ?_; (show wpQuiet _ _ _ _ (_ :: _) _; go_big_quiet_step (fail)); refine wpQuiet_nil ?_)
                    refine tree_one rfl ?_
                    go_wp2_with fail
                    refine (HDE1.out _ _ _ _ _ HT1.out HT6.out).mono ?_
                    rintro e11 wx11 ⟨aM, nM, cM, rfl, hbx, hsM⟩
                    have HT7 := Lib.hid hsM
                    clear hsM
                    have hzx := hbx.size
                    have HN := Lib.hid (HN.out.trans (hbx.mono HN.out.size))
                    have HT1 := Lib.hid (HT1.out.below hbx)
                    have HT6 := Lib.hid (HT6.out.below hbx)
                    have hx9 := (hbx.block X9 l9).trans hx9
                    have l9 := Nat.lt_of_lt_of_le l9 hbx.size
                    clear hbx
                    go_wp2_with fail
                    refine tailL_mk HN.out ?_
                    repeat (refine tree_head rfl ?_; (show wpQuiet _ _ _ _ (_ :: _) _; go_big_quiet_step (fail)); refine wpQuiet_nil ?_)
                    refine tree_one rfl ?_
                    have c90 := cell_of_row _ _ 0 _ _ _ hx9
                    have f90 := frozen_of_row _ _ 0 _ _ hx9
                    simp only [List.getElem?_toArray, List.getElem?_cons_zero, List.getElem?_cons_succ] at c90
                    go_wp2_with fail
                    have HN := Lib.hid (show Below wr.heap.size wr (wx11.setCell ⟨X9, 0, none⟩ (.slice aM nM cM)) from Below.setCell (HN.out) hNX _)
                    have hxo := hx9
                    have hx9 : (wx11.setCell ⟨X9, 0, none⟩ (.slice aM nM cM)).heap[X9]? = some (.cells #[.slice aM nM cM] 81) := blk_set (hx9) 0 (.slice aM nM cM)
                    refine tailL_mk HN.out ?_
                    repeat (refine tree_head rfl ?_; (show wpQuiet _ _ _ _ (_ :: _) _; go_big_quiet_step (fail)); refine wpQuiet_nil ?_)
                    refine tree_done ?_
                    go_wp2_with fail
                    go_meet
                    case rel => exact ⟨X9, aM, nM, cM, rfl, rfl, blk_cell hx9 (i := 0) rfl, by simpa using l9, Lib.hid ((HT7.out.set hxo 0 _).t3), HN⟩
                · go_wp2_with fail
                  obtain ⟨XL, hXL⟩ : ∃ X, X = wr.heap.size := ⟨_, rfl⟩
                  have hxl : (wr.alloc (Obj.cells #[.int .i64 x0, .int .i64 x1, .int .i64 x2] 104)).drew.heap[XL]? = some (.cells #[.int .i64 x0, .int .i64 x1, .int .i64 x2] 104) := by rw [hXL]; exact heap_alloc_new _ _
                  have hbx : Below wr.heap.size wr (wr.alloc (Obj.cells #[.int .i64 x0, .int .i64 x1, .int .i64 x2] 104)).drew := by (repeat' (first | (with_reducible exact Below.refl _ _) | (with_reducible assumption) | (with_reducible refine Below.drewN ?_ _) | (with_reducible refine Below.alloc ?_ ?_ _) | (with_reducible refine Below.drew ?_) | (with_reducible refine Below.setCell ?_ ?_ _) | (with_reducible refine Below.step (by assumption) ?_ ?_) | (with_reducible exact And.left (by assumption)) | go_size))
                  have hbd : Below wr.drew.heap.size wr.drew (wr.alloc (Obj.cells #[.int .i64 x0, .int .i64 x1, .int .i64 x2] 104)).drew := ⟨hbx.os, hbx.tape, hbx.output, hbx.size, hbx.block⟩
                  try simp only [← hXL]
                  generalize (wr.alloc (Obj.cells #[.int .i64 x0, .int .i64 x1, .int .i64 x2] 104)).drew = wx13 at *
                  have HN := Lib.hid hbx
                  have HT6 := Lib.hid (show T3R wx13 (some ⟨XL, 0, none⟩) 1 [⟨x0, x1, x2⟩] from t3_lit hxl)
                  clear hbx hXL hxl hbd
                  refine tailL_mk HN.out ?_
                  repeat (refine tree_head rfl ?_; (show wpQuiet _ _ _ _ (_ :: _) _; go_big_quiet_step (fail)); refine wpQuiet_nil ?_)
                  refine tree_two rfl rfl ?_ ?_
                  · go_wp2_with fail
                    refine (HCN.out _ (HBW.out.trans (HN.out.mono HBW.out.size))).mono ?_
                    rintro e11 wx14 ⟨aC, cC, rfl, hbx, hsC⟩
                    have HT1 := Lib.hid hsC
                    clear hsC
                    have hzx := hbx.size
                    have HN := Lib.hid (HN.out.trans (hbx.mono HN.out.size))
                    have HT6 := Lib.hid (HT6.out.below hbx)
                    clear hbx
                    go_wp2_with fail
                    refine tailL_mk HN.out ?_
                    repeat (refine tree_head rfl ?_; (show wpQuiet _ _ _ _ (_ :: _) _; go_big_quiet_step (fail)); refine wpQuiet_nil ?_)
                    refine tree_two rfl rfl ?_ ?_
                    · go_wp2_with fail
                      refine (HDE1.out _ _ _ _ _ HT1.out HT6.out).mono ?_
                      rintro e11 wx15 ⟨aM, nM, cM, rfl, hbx, hsM⟩
                      have HT7 := Lib.hid hsM
                      clear hsM
                      have hzx := hbx.size
                      have HN := Lib.hid (HN.out.trans (hbx.mono HN.out.size))
                      have HT6 := Lib.hid (HT6.out.below hbx)
                      have HT1 := Lib.hid (HT1.out.below hbx)
                      clear hbx
                      go_wp2_with fail
                      refine tailL_mk HN.out ?_
                      repeat (refine tree_head rfl ?_; (show wpQuiet _ _ _ _ (_ :: _) _; go_big_quiet_step (fail)); refine wpQuiet_nil ?_)
                      refine tree_one rfl ?_
                      go_wp2_with fail
                      obtain ⟨X9, hX9⟩ : ∃ X, X = wx15.heap.size := ⟨_, rfl⟩
                      have hNX : wr.heap.size ≤ X9 := by rw [hX9]; exact HN.out.size
                      have hx9 : (wx15.alloc (Obj.cells #[.slice none 0 0] 81)).heap[X9]? = some (.cells #[.slice none 0 0] 81) := by rw [hX9]; exact heap_alloc_new _ _
                      have l9 : X9 < (wx15.alloc (Obj.cells #[.slice none 0 0] 81)).heap.size := by rw [hX9]; simp
                      have hs9 : (wx15.alloc (Obj.cells #[.slice none 0 0] 81)).heap.size = wx15.heap.size + 1 := by simp
                      have hbx : Below wx15.heap.size wx15 (wx15.alloc (Obj.cells #[.slice none 0 0] 81)) := by (repeat' (first | (with_reducible exact Below.refl _ _) | (with_reducible assumption) | (with_reducible refine Below.drewN ?_ _) | (with_reducible refine Below.alloc ?_ ?_ _) | (with_reducible refine Below.drew ?_) | (with_reducible refine Below.setCell ?_ ?_ _) | (with_reducible refine Below.step (by assumption) ?_ ?_) | (with_reducible exact And.left (by assumption)) | go_size))
                      try simp only [← hX9]
                      generalize (wx15.alloc (Obj.cells #[.slice none 0 0] 81)) = wx16 at *
                      have HX9 := Lib.hid (And.intro hX9 hs9)
                      have HN := Lib.hid (HN.out.trans (hbx.mono HN.out.size))
                      have HT6 := Lib.hid (HT6.out.below hbx)
                      have HT1 := Lib.hid (HT1.out.below hbx)
                      have HT7 := Lib.hid (HT7.out.below hbx)
                      clear hbx hX9 hs9
                      refine tailL_mk HN.out ?_
                      repeat (refine tree_head rfl ?_; (show wpQuiet _ _ _ _ (_ :: _) _; go_big_quiet_step (fail)); refine wpQuiet_nil ?_)
                      refine tree_one rfl ?_
                      have c90 := cell_of_row _ _ 0 _ _ _ hx9
                      have f90 := frozen_of_row _ _ 0 _ _ hx9
                      simp only [List.getElem?_toArray, List.getElem?_cons_zero, List.getElem?_cons_succ] at c90
                      go_wp2_with fail
                      have HN := Lib.hid (show Below wr.heap.size wr (wx16.setCell ⟨X9, 0, none⟩ (.slice aM nM cM)) from Below.setCell (HN.out) hNX _)
                      have hxo := hx9
                      have hx9 : (wx16.setCell ⟨X9, 0, none⟩ (.slice aM nM cM)).heap[X9]? = some (.cells #[.slice aM nM cM] 81) := blk_set (hx9) 0 (.slice aM nM cM)
                      refine tailL_mk HN.out ?_
                      repeat (refine tree_head rfl ?_; (show wpQuiet _ _ _ _ (_ :: _) _; go_big_quiet_step (fail)); refine wpQuiet_nil ?_)
                      refine tree_done ?_
                      go_wp2_with fail
                      go_meet
                      case rel => exact ⟨X9, aM, nM, cM, rfl, rfl, blk_cell hx9 (i := 0) rfl, by simpa using l9, Lib.hid ((HT7.out.set hxo 0 _).t3), HN⟩
                    · go_wp2_with fail
                      obtain ⟨X9, hX9⟩ : ∃ X, X = wx14.heap.size := ⟨_, rfl⟩
                      have hNX : wr.heap.size ≤ X9 := by rw [hX9]; exact HN.out.size
                      have hx9 : (wx14.alloc (Obj.cells #[.slice none 0 0] 81)).heap[X9]? = some (.cells #[.slice none 0 0] 81) := by rw [hX9]; exact heap_alloc_new _ _
                      have l9 : X9 < (wx14.alloc (Obj.cells #[.slice none 0 0] 81)).heap.size := by rw [hX9]; simp
                      have hs9 : (wx14.alloc (Obj.cells #[.slice none 0 0] 81)).heap.size = wx14.heap.size + 1 := by simp
                      have hbx : Below wx14.heap.size wx14 (wx14.alloc (Obj.cells #[.slice none 0 0] 81)) := by (repeat' (first | (with_reducible exact Below.refl _ _) | (with_reducible assumption) | (with_reducible refine Below.drewN ?_ _) | (with_reducible refine Below.alloc ?_ ?_ _) | (with_reducible refine Below.drew ?_) | (with_reducible refine Below.setCell ?_ ?_ _) | (with_reducible refine Below.step (by assumption) ?_ ?_) | (with_reducible exact And.left (by assumption)) | go_size))
                      try simp only [← hX9]
                      generalize (wx14.alloc (Obj.cells #[.slice none 0 0] 81)) = wx18 at *
                      have HX9 := Lib.hid (And.intro hX9 hs9)
                      have HN := Lib.hid (HN.out.trans (hbx.mono HN.out.size))
                      have HT6 := Lib.hid (HT6.out.below hbx)
                      have HT1 := Lib.hid (HT1.out.below hbx)
                      clear hbx hX9 hs9
                      refine tailL_mk HN.out ?_
                      repeat (refine tree_head rfl ?_; (show wpQuiet _ _ _ _ (_ :: _) _; go_big_quiet_step (fail)); refine wpQuiet_nil ?_)
                      refine tree_one rfl ?_
                      go_wp2_with fail
                      refine (HDE1.out _ _ _ _ _ HT1.out HT6.out).mono ?_
                      rintro e11 wx19 ⟨aM, nM, cM, rfl, hbx, hsM⟩
                      have HT7 := Lib.hid hsM
                      clear hsM
                      have hzx := hbx.size
                      have HN := Lib.hid (HN.out.trans (hbx.mono HN.out.size))
                      have HT6 := Lib.hid (HT6.out.below hbx)
                      have HT1 := Lib.hid (HT1.out.below hbx)
                      have hx9 := (hbx.block X9 l9).trans hx9
                      have l9 := Nat.lt_of_lt_of_le l9 hbx.size
                      clear hbx
                      go_wp2_with fail
                      refine tailL_mk HN.out ?_
                      repeat (refine tree_head rfl ?_; (show wpQuiet _ _ _ _ (_ :: _) _; go_big_quiet_step (fail)); refine wpQuiet_nil ?_)
                      refine tree_one rfl ?_
                      have c90 := cell_of_row _ _ 0 _ _ _ hx9
                      have f90 := frozen_of_row _ _ 0 _ _ hx9
                      simp only [List.getElem?_toArray, List.getElem?_cons_zero, List.getElem?_cons_succ] at c90
                      go_wp2_with fail
                      have HN := Lib.hid (show Below wr.heap.size wr (wx19.setCell ⟨X9, 0, none⟩ (.slice aM nM cM)) from Below.setCell (HN.out) hNX _)
                      have hxo := hx9
                      have hx9 : (wx19.setCell ⟨X9, 0, none⟩ (.slice aM nM cM)).heap[X9]? = some (.cells #[.slice aM nM cM] 81) := blk_set (hx9) 0 (.slice aM nM cM)
                      refine tailL_mk HN.out ?_
                      repeat (refine tree_head rfl ?_; (show wpQuiet _ _ _ _ (_ :: _) _; go_big_quiet_step (fail)); refine wpQuiet_nil ?_)
                      refine tree_done ?_
                      go_wp2_with fail
                      go_meet
                      case rel => exact ⟨X9, aM, nM, cM, rfl, rfl, blk_cell hx9 (i := 0) rfl, by simpa using l9, Lib.hid ((HT7.out.set hxo 0 _).t3), HN⟩
                  · go_wp2_with fail
                    obtain ⟨X9, hX9⟩ : ∃ X, X = wx13.heap.size := ⟨_, rfl⟩
                    have hNX : wr.heap.size ≤ X9 := by rw [hX9]; exact HN.out.size
                    have hx9 : (wx13.alloc (Obj.cells #[.slice none 0 0] 81)).heap[X9]? = some (.cells #[.slice none 0 0] 81) := by rw [hX9]; exact heap_alloc_new _ _
                    have l9 : X9 < (wx13.alloc (Obj.cells #[.slice none 0 0] 81)).heap.size := by rw [hX9]; simp
                    have hs9 : (wx13.alloc (Obj.cells #[.slice none 0 0] 81)).heap.size = wx13.heap.size + 1 := by simp
                    have hbx : Below wx13.heap.size wx13 (wx13.alloc (Obj.cells #[.slice none 0 0] 81)) := by (repeat' (first | (with_reducible exact Below.refl _ _) | (with_reducible assumption) | (with_reducible refine Below.drewN ?_ _) | (with_reducible refine Below.alloc ?_ ?_ _) | (with_reducible refine Below.drew ?_) | (with_reducible refine Below.setCell ?_ ?_ _) | (with_reducible refine Below.step (by assumption) ?_ ?_) | (with_reducible exact And.left (by assumption)) | go_size))
                    try simp only [← hX9]
                    generalize (wx13.alloc (Obj.cells #[.slice none 0 0] 81)) = wx21 at *
                    have HX9 := Lib.hid (And.intro hX9 hs9)
                    have HN := Lib.hid (HN.out.trans (hbx.mono HN.out.size))
                    have HT6 := Lib.hid (HT6.out.below hbx)
                    clear hbx hX9 hs9
                    refine tailL_mk HN.out ?_
                    repeat (refine tree_head rfl ?_; (show wpQuiet _ _ _ _ (_ :: _) _; go_big_quiet_step (fail)); refine wpQuiet_nil ?_)
                    refine tree_one rfl ?_
                    go_wp2_with fail
                    refine (HCN.out _ (HBW.out.trans (HN.out.mono HBW.out.size))).mono ?_
                    rintro e11 wx22 ⟨aC, cC, rfl, hbx, hsC⟩
                    have HT1 := Lib.hid hsC
                    clear hsC
                    have hzx := hbx.size
                    have HN := Lib.hid (HN.out.trans (hbx.mono HN.out.size))
                    have HT6 := Lib.hid (HT6.out.below hbx)
                    have hx9 := (hbx.block X9 l9).trans hx9
                    have l9 := Nat.lt_of_lt_of_le l9 hbx.size
                    clear hbx
                    go_wp2_with fail
                    refine tailL_mk HN.out ?_
                    repeat (refine tree_head rfl ?_; (show wpQuiet _ _ _ _ (_ :: _) _; go_big_quiet_step (fail)); refine wpQuiet_nil ?_)
                    refine tree_one rfl ?_
                    go_wp2_with fail
                    refine (HDE1.out _ _ _ _ _ HT1.out HT6.out).mono ?_
                    rintro e11 wx23 ⟨aM, nM, cM, rfl, hbx, hsM⟩
                    have HT7 := Lib.hid hsM
                    clear hsM
                    have hzx := hbx.size
                    have HN := Lib.hid (HN.out.trans (hbx.mono HN.out.size))
                    have HT6 := Lib.hid (HT6.out.below hbx)
                    have HT1 := Lib.hid (HT1.out.below hbx)
                    have hx9 := (hbx.block X9 l9).trans hx9
                    have l9 := Nat.lt_of_lt_of_le l9 hbx.size
                    clear hbx
                    go_wp2_with fail
                    refine tailL_mk HN.out ?_
                    repeat (refine tree_head rfl ?_; (show wpQuiet _ _ _ _ (_ :: _) _; go_big_quiet_step (fail)); refine wpQuiet_nil ?_)
                    refine tree_one rfl ?_
                    have c90 := cell_of_row _ _ 0 _ _ _ hx9
                    have f90 := frozen_of_row _ _ 0 _ _ hx9
                    simp only [List.getElem?_toArray, List.getElem?_cons_zero, List.getElem?_cons_succ] at c90
                    go_wp2_with fail
                    have HN := Lib.hid (show Below wr.heap.size wr (wx23.setCell ⟨X9, 0, none⟩ (.slice aM nM cM)) from Below.setCell (HN.out) hNX _)
                    have hxo := hx9
                    have hx9 : (wx23.setCell ⟨X9, 0, none⟩ (.slice aM nM cM)).heap[X9]? = some (.cells #[.slice aM nM cM] 81) := blk_set (hx9) 0 (.slice aM nM cM)
                    refine tailL_mk HN.out ?_
                    repeat (refine tree_head rfl ?_; (show wpQuiet _ _ _ _ (_ :: _) _; go_big_quiet_step (fail)); refine wpQuiet_nil ?_)
                    refine tree_done ?_
                    go_wp2_with fail
                    go_meet
                    case rel => exact ⟨X9, aM, nM, cM, rfl, rfl, blk_cell hx9 (i := 0) rfl, by simpa using l9, Lib.hid ((HT7.out.set hxo 0 _).t3), HN⟩
                · go_wp2_with fail
                  obtain ⟨X9, hX9⟩ : ∃ X, X = wr.heap.size := ⟨_, rfl⟩
                  have hNX : wr.heap.size ≤ X9 := by rw [hX9]; exact HN.out.size
                  have hx9 : (wr.alloc (Obj.cells #[.slice none 0 0] 81)).drew.heap[X9]? = some (.cells #[.slice none 0 0] 81) := by rw [hX9]; exact heap_alloc_new _ _
                  have l9 : X9 < (wr.alloc (Obj.cells #[.slice none 0 0] 81)).drew.heap.size := by rw [hX9]; simp
                  have hs9 : (wr.alloc (Obj.cells #[.slice none 0 0] 81)).drew.heap.size = wr.heap.size + 1 := by simp
                  have hbx : Below wr.heap.size wr (wr.alloc (Obj.cells #[.slice none 0 0] 81)).drew := by (repeat' (first | (with_reducible exact Below.refl _ _) | (with_reducible assumption) | (with_reducible refine Below.drewN ?_ _) | (with_reducible refine Below.alloc ?_ ?_ _) | (with_reducible refine Below.drew ?_) | (with_reducible refine Below.setCell ?_ ?_ _) | (with_reducible refine Below.step (by assumption) ?_ ?_) | (with_reducible exact And.left (by assumption)) | go_size))
                  try simp only [← hX9]
                  generalize (wr.alloc (Obj.cells #[.slice none 0 0] 81)).drew = wx25 at *
                  have HX9 := Lib.hid (And.intro hX9 hs9)
                  have HN := Lib.hid hbx
                  clear hbx hX9 hs9
                  refine tailL_mk HN.out ?_
                  repeat (refine tree_head rfl ?_; (show wpQuiet _ _ _ _ (_ :: _) _; go_big_quiet_step (fail)); refine wpQuiet_nil ?_)
                  refine tree_two rfl rfl ?_ ?_
                  · go_wp2_with fail
                    refine (HCN.out _ (HBW.out.trans (HN.out.mono HBW.out.size))).mono ?_
                    rintro e11 wx26 ⟨aC, cC, rfl, hbx, hsC⟩
                    have HT1 := Lib.hid hsC
                    clear hsC
                    have hzx := hbx.size
                    have HN := Lib.hid (HN.out.trans (hbx.mono HN.out.size))
                    have hx9 := (hbx.block X9 l9).trans hx9
                    have l9 := Nat.lt_of_lt_of_le l9 hbx.size
                    clear hbx
                    go_wp2_with fail
                    refine tailL_mk HN.out ?_
                    repeat (refine tree_head rfl ?_; (show wpQuiet _ _ _ _ (_ :: _) _; go_big_quiet_step (fail)); refine wpQuiet_nil ?_)
                    refine tree_one rfl ?_
                    go_wp2_with fail
                    obtain ⟨XL, hXL⟩ : ∃ X, X = wx26.heap.size := ⟨_, rfl⟩
                    have hxl : (wx26.alloc (Obj.cells #[.int .i64 x0, .int .i64 x1, .int .i64 x2] 104)).heap[XL]? = some (.cells #[.int .i64 x0, .int .i64 x1, .int .i64 x2] 104) := by rw [hXL]; exact heap_alloc_new _ _
                    have hbx : Below wx26.heap.size wx26 (wx26.alloc (Obj.cells #[.int .i64 x0, .int .i64 x1, .int .i64 x2] 104)) := by (repeat' (first | (with_reducible exact Below.refl _ _) | (with_reducible assumption) | (with_reducible refine Below.drewN ?_ _) | (with_reducible refine Below.alloc ?_ ?_ _) | (with_reducible refine Below.drew ?_) | (with_reducible refine Below.setCell ?_ ?_ _) | (with_reducible refine Below.step (by assumption) ?_ ?_) | (with_reducible exact And.left (by assumption)) | go_size))
                    try simp only [← hXL]
                    generalize (wx26.alloc (Obj.cells #[.int .i64 x0, .int .i64 x1, .int .i64 x2] 104)) = wx27 at *
                    have HN := Lib.hid (HN.out.trans (hbx.mono HN.out.size))
                    have HT1 := Lib.hid (HT1.out.below hbx)
                    have hx9 := (hbx.block X9 l9).trans hx9
                    have l9 := Nat.lt_of_lt_of_le l9 hbx.size
                    have HT6 := Lib.hid (show T3R wx27 (some ⟨XL, 0, none⟩) 1 [⟨x0, x1, x2⟩] from t3_lit hxl)
                    clear hbx hXL hxl
                    refine tailL_mk HN.out ?_
                    repeat (refine tree_head rfl ?_; (show wpQuiet _ _ _ _ (_ :: _) _; go_big_quiet_step (fail)); refine wpQuiet_nil ?_)
                    refine tree_one rfl ?_
                    go_wp2_with fail
                    refine (HDE1.out _ _ _ _ _ HT1.out HT6.out).mono ?_
                    rintro e11 wx28 ⟨aM, nM, cM, rfl, hbx, hsM⟩
                    have HT7 := Lib.hid hsM
                    clear hsM
                    have hzx := hbx.size
                    have HN := Lib.hid (HN.out.trans (hbx.mono HN.out.size))
                    have HT1 := Lib.hid (HT1.out.below hbx)
                    have HT6 := Lib.hid (HT6.out.below hbx)
                    have hx9 := (hbx.block X9 l9).trans hx9
                    have l9 := Nat.lt_of_lt_of_le l9 hbx.size
                    clear hbx
                    go_wp2_with fail
                    refine tailL_mk HN.out ?_
                    repeat (refine tree_head rfl ?_; (show wpQuiet _ _ _ _ (_ :: _) _; go_big_quiet_step (fail)); refine wpQuiet_nil ?_)
                    refine tree_one rfl ?_
                    have c90 := cell_of_row _ _ 0 _ _ _ hx9
                    have f90 := frozen_of_row _ _ 0 _ _ hx9
                    simp only [List.getElem?_toArray, List.getElem?_cons_zero, List.getElem?_cons_succ] at c90
                    go_wp2_with fail
                    have HN := Lib.hid (show Below wr.heap.size wr (wx28.setCell ⟨X9, 0, none⟩ (.slice aM nM cM)) from Below.setCell (HN.out) hNX _)
                    have hxo := hx9
                    have hx9 : (wx28.setCell ⟨X9, 0, none⟩ (.slice aM nM cM)).heap[X9]? = some (.cells #[.slice aM nM cM] 81) := blk_set (hx9) 0 (.slice aM nM cM)
                    refine tailL_mk HN.out ?_
                    repeat (refine tree_head rfl ?_; (show wpQuiet _ _ _ _ (_ :: _) _; go_big_quiet_step (fail)); refine wpQuiet_nil ?_)
                    refine tree_done ?_
                    go_wp2_with fail
                    go_meet
                    case rel => exact ⟨X9, aM, nM, cM, rfl, rfl, blk_cell hx9 (i := 0) rfl, by simpa using l9, Lib.hid ((HT7.out.set hxo 0 _).t3), HN⟩
                  · go_wp2_with fail
                    obtain ⟨XL, hXL⟩ : ∃ X, X = wx25.heap.size := ⟨_, rfl⟩
                    have hxl : (wx25.alloc (Obj.cells #[.int .i64 x0, .int .i64 x1, .int .i64 x2] 104)).heap[XL]? = some (.cells #[.int .i64 x0, .int .i64 x1, .int .i64 x2] 104) := by rw [hXL]; exact heap_alloc_new _ _
                    have hbx : Below wx25.heap.size wx25 (wx25.alloc (Obj.cells #[.int .i64 x0, .int .i64 x1, .int .i64 x2] 104)) := by (repeat' (first | (with_reducible exact Below.refl _ _) | (with_reducible assumption) | (with_reducible refine Below.drewN ?_ _) | (with_reducible refine Below.alloc ?_ ?_ _) | (with_reducible refine Below.drew ?_) | (with_reducible refine Below.setCell ?_ ?_ _) | (with_reducible refine Below.step (by assumption) ?_ ?_) | (with_reducible exact And.left (by assumption)) | go_size))
                    try simp only [← hXL]
                    generalize (wx25.alloc (Obj.cells #[.int .i64 x0, .int .i64 x1, .int .i64 x2] 104)) = wx30 at *
                    have HN := Lib.hid (HN.out.trans (hbx.mono HN.out.size))
                    have hx9 := (hbx.block X9 l9).trans hx9
                    have l9 := Nat.lt_of_lt_of_le l9 hbx.size
                    have HT6 := Lib.hid (show T3R wx30 (some ⟨XL, 0, none⟩) 1 [⟨x0, x1, x2⟩] from t3_lit hxl)
                    clear hbx hXL hxl
                    refine tailL_mk HN.out ?_
                    repeat (refine tree_head rfl ?_; (show wpQuiet _ _ _ _ (_ :: _) _; go_big_quiet_step (fail)); refine wpQuiet_nil ?_)
                    refine tree_one rfl ?_
                    go_wp2_with fail
                    refine (HCN.out _ (HBW.out.trans (HN.out.mono HBW.out.size))).mono ?_
                    rintro e11 wx31 ⟨aC, cC, rfl, hbx, hsC⟩
                    have HT1 := Lib.hid hsC
                    clear hsC
                    have hzx := hbx.size
                    have HN := Lib.hid (HN.out.trans (hbx.mono HN.out.size))
                    have HT6 := Lib.hid (HT6.out.below hbx)
                    have hx9 := (hbx.block X9 l9).trans hx9
                    have l9 := Nat.lt_of_lt_of_le l9 hbx.size
                    clear hbx
                    go_wp2_with fail
                    refine tailL_mk HN.out ?_
                    repeat (refine tree_head rfl ?_; (show wpQuiet _ _ _ _ (_ :: _) _; go_big_quiet_step (fail)); refine wpQuiet_nil ?_)
                    refine tree_one rfl ?_
                    go_wp2_with fail
                    refine (HDE1.out _ _ _ _ _ HT1.out HT6.out).mono ?_
                    rintro e11 wx32 ⟨aM, nM, cM, rfl, hbx, hsM⟩
                    have HT7 := Lib.hid hsM
                    clear hsM
                    have hzx := hbx.size
                    have HN := Lib.hid (HN.out.trans (hbx.mono HN.out.size))
                    have HT6 := Lib.hid (HT6.out.below hbx)
                    have HT1 := Lib.hid (HT1.out.below hbx)
                    have hx9 := (hbx.block X9 l9).trans hx9
                    have l9 := Nat.lt_of_lt_of_le l9 hbx.size
                    clear hbx
                    go_wp2_with fail
                    refine tailL_mk HN.out ?_
                    repeat (refine tree_head rfl ?_; (show wpQuiet _ _ _ _ (_ :: _) _; go_big_quiet_step (fail)); refine wpQuiet_nil ?_)
                    refine tree_one rfl ?_
                    have c90 := cell_of_row _ _ 0 _ _ _ hx9
                    have f90 := frozen_of_row _ _ 0 _ _ hx9
                    simp only [List.getElem?_toArray, List.getElem?_cons_zero, List.getElem?_cons_succ] at c90
                    go_wp2_with fail
                    have HN := Lib.hid (show Below wr.heap.size wr (wx32.setCell ⟨X9, 0, none⟩ (.slice aM nM cM)) from Below.setCell (HN.out) hNX _)
                    have hxo := hx9
                    have hx9 : (wx32.setCell ⟨X9, 0, none⟩ (.slice aM nM cM)).heap[X9]? = some (.cells #[.slice aM nM cM] 81) := blk_set (hx9) 0 (.slice aM nM cM)
                    refine tailL_mk HN.out ?_
                    repeat (refine tree_head rfl ?_; (show wpQuiet _ _ _ _ (_ :: _) _; go_big_quiet_step (fail)); refine wpQuiet_nil ?_)
                    refine tree_done ?_
                    go_wp2_with fail
                    go_meet
                    case rel => exact ⟨X9, aM, nM, cM, rfl, rfl, blk_cell hx9 (i := 0) rfl, by simpa using l9, Lib.hid ((HT7.out.set hxo 0 _).t3), HN⟩
              case rest =>
                obtain ⟨wd, rfl⟩ : ∃ w', w' = wc := ⟨wc, rfl⟩
                obtain ⟨X7, aM, kM, cM, rfl, rfl, hx7, lx7, hM, hN⟩ := hcut
                have HB := Lib.hid (HB.out.trans (hN.out.mono HB.out.size))
                have HPr := Lib.hid (HPr.out.trans (hN.out.mono HPr.out.size))
                have hBr := Lib.hid (hBr.out.trans (hN.out.mono hBr.out.size))
                have HMK := Lib.hid (HM1.out k hlt)
                rw [HPK.out] at HMK
                clear q0 lr0 hN d0 d1 d2 HBW hb1 HDE1 HPK
                have q0 : wd.cell? ⟨w.heap.size, 0, none⟩ = some (.slice a n c) := blk_cell (blk_below kN HB.out) (i := 0) rfl
                have lr0 := blk_lt (blk_below kN HB.out)
                by_cases hE : EO = 0
                · subst hE
                  rcases HMK.out with h22 | ⟨_, hD0, hDn, hro', hre', hexp, LL, hLL, L1, L2, L3, L4⟩
                  · exfalso; have := HEO.out; omega
                  · obtain ⟨D, hD⟩ : ∃ D, D = dfm s [⟨x0, x1, x2⟩] := ⟨_, rfl⟩
                    rw [← hD] at hD0 hDn hro' hre' hexp hLL hM
                    have hM' : T3R wd aM kM D := by have := hM.out; rwa [if_pos rfl] at this
                    obtain rfl : n = kM := by rw [← hM'.len]; exact hDn.symm
                    have HM7 := Lib.hid hM'
                    have HND := Lib.hid (fun (W : World) (h : T3R W aM n D) => rNetworkErr_any D aM n cM W h)
                    rw [hD0] at HND
                    obtain ⟨R2, hR2⟩ : ∃ R2, R2 = fs.map (gPr D) := ⟨_, rfl⟩
                    rw [← hR2] at hre' hexp hLL
                    have HRO2 := Lib.hid (fun (a' af' : Option Addr) (c' cf' : Nat) (W : World) (h1 : T3R W a' n D) (h2 : IntsR W af' nf fs) => responsesOf_any D fs a' af' n c' nf cf' W h1 h2)
                    rw [hro', if_pos rfl, ← hR2] at HRO2
                    have HRE2 := Lib.hid (fun (a1 : Option Addr) (c1 : Nat) (W : World) (h1 : PairsR W a1 nf R2) => rResponsesErr_any R2 a1 nf c1 W h1)
                    rw [hre'] at HRE2
                    have hl2 : R2.length = nf := by rw [hR2, List.length_map]; exact HFL.out.len
                    have HL2 := Lib.hid hl2
                    have HCG2 := Lib.hid (fun (a1 : Option Addr) (c1 : Nat) (W : World) (h1 : PairsR W a1 nf R2) => copyGausses_any R2 a1 nf c1 W h1 (by omega))
                    have HCN2 := Lib.hid (fun (W : World) (h : T3R W aM n D) => (copyNetwork_any D aM n cM W h (by omega)).mono (fun e' w' ⟨a', c', he, hb', ho⟩ => show ∃ a' c', e' = Ending.returned (.agg #[.slice a' n c']) ∧ Below W.heap.size W w' ∧ T3R w' a' n D from ⟨a', c', he, hb', ER.of_owns h.len ho⟩))
                    have HDF2 := Lib.hid (fun (a1 a2 : Option Addr) (c1 c2 : Nat) (W : World) (h1 : PairsR W a1 nf R) (h2 : PairsR W a2 nf R2) => differencesOf_any 1 1 R R2 a1 a2 nf c1 nf c2 W h1 h2 (by omega) (by omega))
                    rw [difE_one HRZ.out hre' (by rw [HRL.out, hl2]), if_pos rfl, difL_one, HRL.out] at HDF2
                    have HEX := Lib.hid (fun (a1 a2 a3 a4 a5 : Option Addr) (c1 c2 c3 c4 c5 : Nat) (W : World) (h1 : T3R W a1 n s) (h2 : T3R W a2 m l) (h3 : IntsR W a3 nf fs) (h4 : PairsR W a4 nf R2) (h5 : IntsR W a5 1 (nats [k])) => explainsX_any n c1 m c2 nf c3 nf c4 1 c5 a1 a2 a3 a4 a5 s l fs R2 (nats [k]) W h1 h2 h3 h4 h5)
                    rw [hexp] at HEX
                    have HXP := Lib.hid (fun (a1 a2 a3 a4 : Option Addr) (c1 c2 c3 c4 : Nat) (W : World) (h1 : T3R W a1 n s) (h2 : T3R W a2 m l) (h3 : IntsR W a3 nf fs) (h4 : PairsR W a4 nf R2) => explanationsOf_any n c1 m c2 nf c3 nf c4 a1 a2 a3 a4 s l fs R2 W h1 h2 h3 h4)
                    rw [hLL] at HXP
                    have HG1 := Lib.hid (fun (t : Nat) (ht : t < nf) (W : World) => gNorm_any (R.getD t (0, 0)).1 (R.getD t (0, 0)).2 W ((respsE_zero HRZ.out).2 _ (getD_pair (by rw [HRL.out]; exact ht))))
                    have HG2 := Lib.hid (fun (t : Nat) (ht : t < nf) (W : World) => gNorm_any (R2.getD t (0, 0)).1 (R2.getD t (0, 0)).2 W ((respsE_zero hre').2 _ (getD_pair (by rw [hl2]; exact ht))))
                    have HL3 := Lib.hid L3
                    have HL4 := Lib.hid (ownS_any L4)
                    clear hD0 hDn hro' hre' hexp hLL hM hM' hD hR2 hl2 L3 L4 HMK HM1 HEO
                    go_wp2_with fail
                    refine (HND.out _ HM7.out).mono ?_
                    rintro e30 w30 ⟨rfl, hb30⟩
                    replace hx7 : w30.cell? ⟨X7, 0, none⟩ = some (.slice aM n cM) := by rw [cellB hb30 _ _ lx7]; exact hx7
                    replace lx7 := Nat.lt_of_lt_of_le lx7 hb30.size
                    replace HM7 := Lib.hid (HM7.out.below hb30)
                    replace HPr := Lib.hid (HPr.out.trans (hb30.mono HPr.out.size))
                    replace hBr := Lib.hid (hBr.out.trans (hb30.mono hBr.out.size))
                    replace HB := Lib.hid (HB.out.trans (hb30.mono HB.out.size))
                    clear hb30 q0 lr0
                    have q0 : w30.cell? ⟨w.heap.size, 0, none⟩ = some (.slice a n c) := blk_cell (blk_below kN HB.out) (i := 0) rfl
                    have lr0 := blk_lt (blk_below kN HB.out)
                    go_wp2_with fail
                    refine (HCN2.out _ HM7.out).mono ?_
                    rintro e31 w31 ⟨a31, c31, rfl, hb31, hs31⟩
                    have HS31 := Lib.hid hs31
                    clear hs31
                    replace hx7 : w31.cell? ⟨X7, 0, none⟩ = some (.slice aM n cM) := by rw [cellB hb31 _ _ lx7]; exact hx7
                    replace lx7 := Nat.lt_of_lt_of_le lx7 hb31.size
                    replace HM7 := Lib.hid (HM7.out.below hb31)
                    replace HPr := Lib.hid (HPr.out.trans (hb31.mono HPr.out.size))
                    replace hBr := Lib.hid (hBr.out.trans (hb31.mono hBr.out.size))
                    replace HB := Lib.hid (HB.out.trans (hb31.mono HB.out.size))
                    clear hb31 q0 lr0
                    have q0 : w31.cell? ⟨w.heap.size, 0, none⟩ = some (.slice a n c) := blk_cell (blk_below kN HB.out) (i := 0) rfl
                    have lr0 := blk_lt (blk_below kN HB.out)
                    go_wp2_with fail
                    refine (HCI.out _ (HB4.out.trans (HB.out.mono HB4.out.size))).mono ?_
                    rintro e32 w32 ⟨a32, c32, rfl, hb32, hi32⟩
                    have HS31 := Lib.hid (HS31.out.below hb32)
                    have HI32 := Lib.hid hi32
                    clear hi32
                    replace hx7 : w32.cell? ⟨X7, 0, none⟩ = some (.slice aM n cM) := by rw [cellB hb32 _ _ lx7]; exact hx7
                    replace lx7 := Nat.lt_of_lt_of_le lx7 hb32.size
                    replace HM7 := Lib.hid (HM7.out.below hb32)
                    replace HPr := Lib.hid (HPr.out.trans (hb32.mono HPr.out.size))
                    replace hBr := Lib.hid (hBr.out.trans (hb32.mono hBr.out.size))
                    replace HB := Lib.hid (HB.out.trans (hb32.mono HB.out.size))
                    clear hb32 q0 lr0
                    have q0 : w32.cell? ⟨w.heap.size, 0, none⟩ = some (.slice a n c) := blk_cell (blk_below kN HB.out) (i := 0) rfl
                    have lr0 := blk_lt (blk_below kN HB.out)
                    go_wp2_with fail
                    refine (HRO2.out _ _ _ _ _ HS31.out HI32.out).mono ?_
                    rintro e33 w33 ⟨aA, kA, cA, rfl, hb33, hr33⟩
                    obtain rfl : nf = kA := by rw [← hr33.len]; exact HL2.out.symm
                    have HR33 := Lib.hid (fun (W : World) (hb : Below w33.heap.size w33 W) => hr33.below hb)
                    have HP33 := Lib.hid (Below.refl w33.heap.size w33)
                    clear hr33 HS31 HI32 HRO2 HCN2 HND
                    replace hx7 : w33.cell? ⟨X7, 0, none⟩ = some (.slice aM n cM) := by rw [cellB hb33 _ _ lx7]; exact hx7
                    replace lx7 := Nat.lt_of_lt_of_le lx7 hb33.size
                    replace HM7 := Lib.hid (HM7.out.below hb33)
                    replace HPr := Lib.hid (HPr.out.trans (hb33.mono HPr.out.size))
                    replace hBr := Lib.hid (hBr.out.trans (hb33.mono hBr.out.size))
                    replace HB := Lib.hid (HB.out.trans (hb33.mono HB.out.size))
                    clear hb33 q0 lr0
                    have q0 : w33.cell? ⟨w.heap.size, 0, none⟩ = some (.slice a n c) := blk_cell (blk_below kN HB.out) (i := 0) rfl
                    have lr0 := blk_lt (blk_below kN HB.out)
                    go_wp2_with fail
                    refine (HRE2.out _ _ _ (HR33.out _ HP33.out)).mono ?_
                    rintro e34 w34 ⟨rfl, hb34⟩
                    replace HP33 := Lib.hid (HP33.out.trans (hb34.mono HP33.out.size))
                    replace hx7 : w34.cell? ⟨X7, 0, none⟩ = some (.slice aM n cM) := by rw [cellB hb34 _ _ lx7]; exact hx7
                    replace lx7 := Nat.lt_of_lt_of_le lx7 hb34.size
                    replace HM7 := Lib.hid (HM7.out.below hb34)
                    replace HPr := Lib.hid (HPr.out.trans (hb34.mono HPr.out.size))
                    replace hBr := Lib.hid (hBr.out.trans (hb34.mono hBr.out.size))
                    replace HB := Lib.hid (HB.out.trans (hb34.mono HB.out.size))
                    clear hb34 q0 lr0
                    have q0 : w34.cell? ⟨w.heap.size, 0, none⟩ = some (.slice a n c) := blk_cell (blk_below kN HB.out) (i := 0) rfl
                    have lr0 := blk_lt (blk_below kN HB.out)
                    go_wp2_with fail
                    refine (HCG.out _ _ _ (HBF.out _ HPr.out)).mono ?_
                    rintro e35 w35 ⟨a35, c35, rfl, hb35, hr35⟩
                    have HG35 := Lib.hid hr35
                    replace HP33 := Lib.hid (HP33.out.trans (hb35.mono HP33.out.size))
                    clear hr35 HRE2
                    replace hx7 : w35.cell? ⟨X7, 0, none⟩ = some (.slice aM n cM) := by rw [cellB hb35 _ _ lx7]; exact hx7
                    replace lx7 := Nat.lt_of_lt_of_le lx7 hb35.size
                    replace HM7 := Lib.hid (HM7.out.below hb35)
                    replace HPr := Lib.hid (HPr.out.trans (hb35.mono HPr.out.size))
                    replace hBr := Lib.hid (hBr.out.trans (hb35.mono hBr.out.size))
                    replace HB := Lib.hid (HB.out.trans (hb35.mono HB.out.size))
                    clear hb35 q0 lr0
                    have q0 : w35.cell? ⟨w.heap.size, 0, none⟩ = some (.slice a n c) := blk_cell (blk_below kN HB.out) (i := 0) rfl
                    have lr0 := blk_lt (blk_below kN HB.out)
                    go_wp2_with fail
                    refine (HCG2.out _ _ _ (HR33.out _ HP33.out)).mono ?_
                    rintro e36 w36 ⟨a36, c36, rfl, hb36, hr36⟩
                    have HG35 := Lib.hid (HG35.out.below hb36)
                    have HG36 := Lib.hid hr36
                    replace HP33 := Lib.hid (HP33.out.trans (hb36.mono HP33.out.size))
                    clear hr36
                    replace hx7 : w36.cell? ⟨X7, 0, none⟩ = some (.slice aM n cM) := by rw [cellB hb36 _ _ lx7]; exact hx7
                    replace lx7 := Nat.lt_of_lt_of_le lx7 hb36.size
                    replace HM7 := Lib.hid (HM7.out.below hb36)
                    replace HPr := Lib.hid (HPr.out.trans (hb36.mono HPr.out.size))
                    replace hBr := Lib.hid (hBr.out.trans (hb36.mono hBr.out.size))
                    replace HB := Lib.hid (HB.out.trans (hb36.mono HB.out.size))
                    clear hb36 q0 lr0
                    have q0 : w36.cell? ⟨w.heap.size, 0, none⟩ = some (.slice a n c) := blk_cell (blk_below kN HB.out) (i := 0) rfl
                    have lr0 := blk_lt (blk_below kN HB.out)
                    go_wp2_with fail
                    refine (whole9_any 1 _).mono ?_
                    rintro e37 w37 ⟨rfl, hb37⟩
                    have HG35 := Lib.hid (HG35.out.below hb37)
                    have HG36 := Lib.hid (HG36.out.below hb37)
                    replace HP33 := Lib.hid (HP33.out.trans (hb37.mono HP33.out.size))
                    replace hx7 : w37.cell? ⟨X7, 0, none⟩ = some (.slice aM n cM) := by rw [cellB hb37 _ _ lx7]; exact hx7
                    replace lx7 := Nat.lt_of_lt_of_le lx7 hb37.size
                    replace HM7 := Lib.hid (HM7.out.below hb37)
                    replace HPr := Lib.hid (HPr.out.trans (hb37.mono HPr.out.size))
                    replace hBr := Lib.hid (hBr.out.trans (hb37.mono hBr.out.size))
                    replace HB := Lib.hid (HB.out.trans (hb37.mono HB.out.size))
                    clear hb37 q0 lr0
                    have q0 : w37.cell? ⟨w.heap.size, 0, none⟩ = some (.slice a n c) := blk_cell (blk_below kN HB.out) (i := 0) rfl
                    have lr0 := blk_lt (blk_below kN HB.out)
                    go_wp2_with fail
                    refine (HDF2.out _ _ _ _ _ HG35.out HG36.out).mono ?_
                    rintro e38 w38 ⟨aD, kD, cD, rfl, hb38, hi38⟩
                    have HI38 := Lib.hid (fun (W : World) (hb : Below w38.heap.size w38 W) => hi38.below hb)
                    replace HP33 := Lib.hid (HP33.out.trans (hb38.mono HP33.out.size))
                    clear hi38 HG35 HG36 HDF2
                    replace hx7 : w38.cell? ⟨X7, 0, none⟩ = some (.slice aM n cM) := by rw [cellB hb38 _ _ lx7]; exact hx7
                    replace lx7 := Nat.lt_of_lt_of_le lx7 hb38.size
                    replace HM7 := Lib.hid (HM7.out.below hb38)
                    replace HPr := Lib.hid (HPr.out.trans (hb38.mono HPr.out.size))
                    replace hBr := Lib.hid (hBr.out.trans (hb38.mono hBr.out.size))
                    replace HB := Lib.hid (HB.out.trans (hb38.mono HB.out.size))
                    clear hb38 q0 lr0
                    have q0 : w38.cell? ⟨w.heap.size, 0, none⟩ = some (.slice a n c) := blk_cell (blk_below kN HB.out) (i := 0) rfl
                    have lr0 := blk_lt (blk_below kN HB.out)
                    go_wp2_with fail
                    have HB38 := Lib.hid (HB.out)
                    have HPr38 := Lib.hid (HPr.out)
                    have hBr38 := Lib.hid (hBr.out)
                    have HQ38 := Lib.hid (And.intro hx7 lx7)
                    have hf8' : nf ≤ 8 := by omega
                    go_loopw [20, 21] (fun v20 v21 wx => ∃ (t q : Nat) (av : Option Addr) (cv : Nat), v20 = .slice av q cv ∧ v21 = .int .i64 (t : Int) ∧ t ≤ nf ∧ q ≤ t ∧ Hid (wx.ownsRow w38.heap.size 3 1 (.slice av q cv) q (icells (nats (wnt R R2 t)))) ∧ Hid (Below w38.heap.size w38 wx)) (fun _ v21 _ => nf - (intOf v21).toNat)
                    case atStart => exact ⟨0, 0, none, 0, rfl, rfl, Nat.zero_le _, Nat.le_refl _, Lib.hid (World.ownsRow_nil _ _ _ _), Lib.hid (Below.refl _ _)⟩
                    case round =>
                      clear q0 lr0 hx7 lx7 HB HPr hBr
                      obtain ⟨t, q, av, cv, rfl, rfl, ht, hq, hO, hL⟩ := hrel
                      have t0 : (0 : Int) ≤ (t : Int) := by omega
                      have HB := Lib.hid (HB38.out.trans (hL.out.mono HB38.out.size))
                      have HPr := Lib.hid (HPr38.out.trans (hL.out.mono HPr38.out.size))
                      have hBr := Lib.hid (hBr38.out.trans (hL.out.mono hBr38.out.size))
                      by_cases htl : t < nf
                      · have t1 : (t : Int) < (nf : Int) := by omega
                        obtain ⟨bA, oA, rfl, hbA, hcA⟩ := PairsR.addr (HBF.out _ HPr.out) (by omega)
                        obtain ⟨bA2, oA2, rfl, hbA2, hcA2⟩ := PairsR.addr (HR33.out _ (HP33.out.trans (hL.out.mono HP33.out.size))) (by omega)
                        obtain ⟨y0, y1⟩ := hcA t (htl)
                        obtain ⟨z0, z1⟩ := hcA2 t (htl)
                        have HGA := Lib.hid (HG1.out t htl)
                        have HGB := Lib.hid (HG2.out t htl)
                        have HWY := Lib.hid (fun (h : nrm (R.getD t (0, 0)) ≠ nrm (R2.getD t (0, 0))) => wnt_yes h)
                        have HWN := Lib.hid (fun (h : nrm (R.getD t (0, 0)) = nrm (R2.getD t (0, 0))) => wnt_no h)
                        clear hcA hcA2
                        generalize R.getD t (0, 0) = p1 at *
                        generalize R2.getD t (0, 0) = p2 at *
                        obtain ⟨g1, g2⟩ := p1
                        obtain ⟨g3, g4⟩ := p2
                        simp only at HGA HGB y0 y1 z0 z1
                        generalize nrm (g1, g2) = N1 at *
                        generalize nrm (g3, g4) = N2 at *
                        go_wp2_with fail
                        refine later_all (by kernel_rfl) (by kernel_rfl) ?_; repeat go_big_quiet_step((first | with_reducible exact calls_later (HGA.out _) | with_reducible exact calls_later (HGB.out _)))
                        refine wpQuiet_nil ?_; intro w41 hb41
                        replace HB := Lib.hid (HB.out.trans (hb41.mono HB.out.size))
                        replace HPr := Lib.hid (HPr.out.trans (hb41.mono HPr.out.size))
                        replace hBr := Lib.hid (hBr.out.trans (hb41.mono hBr.out.size))
                        replace hO := Lib.hid (owns_below hO.out hb41 (fun z hz => (hO.out.lt z hz).2))
                        replace hL := Lib.hid (hL.out.trans (hb41.mono hL.out.size))
                        clear hb41 y0 y1 z0 z1 hbA hbA2 HGA HGB
                        by_cases hne : N1 = N2
                        · have e1 : (N1 != N2) = false := by simp [hne]
                          have HT := Lib.hid (HWN.out hne)
                          clear HWY HWN hne
                          go_wp2_with fail
                          go_roundw
                          case rel => exact ⟨t + 1, q, av, cv, by go_num, rfl, by omega, by omega, by rw [HT.out]; exact hO, hL⟩
                          case measure => simp [intOf]; omega
                        · have e1 : (N1 != N2) = true := by simp [hne]
                          have HT := Lib.hid (HWY.out hne)
                          clear HWY HWN hne
                          go_wp2_with (at_builtin; refine wpList_append_sl _ rfl _ _ 27 rfl w38.heap.size 3 _ 1 8 Tryz.underlying27 infoInt rfl (by omega) (.slice av q cv) q _ rfl (hO.out.alloc _) _ 1 1 [.int .i64 (t : Int)] rfl (SlR.lit _ _ _ _ _ 1 1 (by rfl) (by simp) rfl (by omega)) (by simp [Value.oneCell']) (by omega) (by omega) (by have := hL.out.size; simp; omega) ?_)
                          intro v2 w42 hown2 hgr2 hb2
                          obtain ⟨av2, cv2, rfl, _, _⟩ := owns_slice hown2
                          rw [← HT.out] at hown2
                          have HO2 := Lib.hid hown2
                          have HB2 := Lib.hid ((hL.out.alloc hL.out.size _).trans hb2)
                          clear hown2 hgr2 hb2 hO hL HT
                          go_wp2_with fail
                          go_roundw
                          case rel => exact ⟨t + 1, q + 1, av2, cv2, by go_num, rfl, by omega, by omega, HO2, HB2⟩
                          case measure => simp [intOf]; omega
                      · obtain rfl : nf = t := by omega
                        have HWI := Lib.hid (show IntsR wr av q (nats (wnt R R2 nf)) from SlR.of_owns hO.out)
                        have HIN := Lib.hid (ints_any _ _ aD av kD cD q cv wr (HI38.out _ hL.out) HWI.out)
                        rw [show decide (nats ((List.range nf).filter (fun i => decide (nrm (R.getD i (0, 0)) ≠ nrm (R2.getD i (0, 0))))) = nats (wnt R R2 nf)) = true from decide_eq_true rfl] at HIN
                        have hx7 : wr.cell? ⟨X7, 0, none⟩ = some (.slice aM n cM) := by rw [cellB hL.out _ _ HQ38.out.2]; exact HQ38.out.1
                        have lx7 := Nat.lt_of_lt_of_le HQ38.out.2 hL.out.size
                        have HM7 := Lib.hid (HM7.out.below hL.out)
                        have HP33 := Lib.hid (HP33.out.trans (hL.out.mono HP33.out.size))
                        clear hO hL HI38 HQ38 HWI HG1 HG2 hlt htl
                        have q0 : wr.cell? ⟨w.heap.size, 0, none⟩ = some (.slice a n c) := blk_cell (blk_below kN HB.out) (i := 0) rfl
                        have lr0 := blk_lt (blk_below kN HB.out)
                        go_wp2_with fail
                        refine (HIN.out).mono ?_
                        rintro e41 w41 ⟨rfl, md, hw41⟩
                        have hb41 : Below wr.heap.size wr w41 := by rw [hw41]; exact (Below.refl _ _).drewN md
                        replace HP33 := Lib.hid (HP33.out.trans (hb41.mono HP33.out.size))
                        clear hw41 HIN
                        replace hx7 : w41.cell? ⟨X7, 0, none⟩ = some (.slice aM n cM) := by rw [cellB hb41 _ _ lx7]; exact hx7
                        replace lx7 := Nat.lt_of_lt_of_le lx7 hb41.size
                        replace HM7 := Lib.hid (HM7.out.below hb41)
                        replace HPr := Lib.hid (HPr.out.trans (hb41.mono HPr.out.size))
                        replace hBr := Lib.hid (hBr.out.trans (hb41.mono hBr.out.size))
                        replace HB := Lib.hid (HB.out.trans (hb41.mono HB.out.size))
                        clear hb41 q0 lr0
                        have q0 : w41.cell? ⟨w.heap.size, 0, none⟩ = some (.slice a n c) := blk_cell (blk_below kN HB.out) (i := 0) rfl
                        have lr0 := blk_lt (blk_below kN HB.out)
                        go_wp2_with fail
                        refine (HCI.out _ (HB4.out.trans (HB.out.mono HB4.out.size))).mono ?_
                        rintro e42 w42 ⟨aI, cI, rfl, hb42, hi42⟩
                        have HI9 := Lib.hid hi42
                        replace HP33 := Lib.hid (HP33.out.trans (hb42.mono HP33.out.size))
                        clear hi42
                        replace hx7 : w42.cell? ⟨X7, 0, none⟩ = some (.slice aM n cM) := by rw [cellB hb42 _ _ lx7]; exact hx7
                        replace lx7 := Nat.lt_of_lt_of_le lx7 hb42.size
                        replace HM7 := Lib.hid (HM7.out.below hb42)
                        replace HPr := Lib.hid (HPr.out.trans (hb42.mono HPr.out.size))
                        replace hBr := Lib.hid (hBr.out.trans (hb42.mono hBr.out.size))
                        replace HB := Lib.hid (HB.out.trans (hb42.mono HB.out.size))
                        clear hb42 q0 lr0
                        have q0 : w42.cell? ⟨w.heap.size, 0, none⟩ = some (.slice a n c) := blk_cell (blk_below kN HB.out) (i := 0) rfl
                        have lr0 := blk_lt (blk_below kN HB.out)
                        go_wp2_with fail
                        refine (HCG2.out _ _ _ (HR33.out _ HP33.out)).mono ?_
                        rintro e43 w43 ⟨aG9, cG9, rfl, hb43, hr43⟩
                        replace HI9 := Lib.hid (HI9.out.below hb43)
                        have HG9 := Lib.hid hr43
                        clear hr43 HCG2
                        replace hx7 : w43.cell? ⟨X7, 0, none⟩ = some (.slice aM n cM) := by rw [cellB hb43 _ _ lx7]; exact hx7
                        replace lx7 := Nat.lt_of_lt_of_le lx7 hb43.size
                        replace HM7 := Lib.hid (HM7.out.below hb43)
                        replace HPr := Lib.hid (HPr.out.trans (hb43.mono HPr.out.size))
                        replace hBr := Lib.hid (hBr.out.trans (hb43.mono hBr.out.size))
                        replace HB := Lib.hid (HB.out.trans (hb43.mono HB.out.size))
                        clear hb43 q0 lr0
                        have q0 : w43.cell? ⟨w.heap.size, 0, none⟩ = some (.slice a n c) := blk_cell (blk_below kN HB.out) (i := 0) rfl
                        have lr0 := blk_lt (blk_below kN HB.out)
                        clear hx7 lx7 HM7 HP33 HR33
                        go_wp2_with fail
                        obtain ⟨w44, hW⟩ : ∃ w44, w44 = w43.alloc (Obj.cells #[.slice aI nf cI, .slice aG9 nf cG9] 100) := ⟨_, rfl⟩
                        rw [← hW]
                        obtain ⟨X22, hX22⟩ : ∃ X, X = w43.heap.size := ⟨_, rfl⟩
                        rw [← hX22]
                        have hb44 : Below w43.heap.size w43 w44 := by rw [hW]; (repeat' (first | (with_reducible exact Below.refl _ _) | (with_reducible assumption) | (with_reducible refine Below.drewN ?_ _) | (with_reducible refine Below.alloc ?_ ?_ _) | (with_reducible refine Below.drew ?_) | (with_reducible refine Below.setCell ?_ ?_ _) | (with_reducible refine Below.step (by assumption) ?_ ?_) | (with_reducible exact And.left (by assumption)) | go_size))
                        have k22 : w44.heap[X22]? = some (.cells #[.slice aI nf cI, .slice aG9 nf cG9] 100) := by rw [hW, hX22]; exact heap_alloc_new _ _
                        replace HI9 := Lib.hid (HI9.out.below hb44)
                        replace HG9 := Lib.hid (HG9.out.below hb44)
                        replace HPr := Lib.hid (HPr.out.trans (hb44.mono HPr.out.size))
                        replace hBr := Lib.hid (hBr.out.trans (hb44.mono hBr.out.size))
                        clear hW hX22
                        replace HB := Lib.hid (HB.out.trans (hb44.mono HB.out.size))
                        clear hb44 q0 lr0
                        have q0 : w44.cell? ⟨w.heap.size, 0, none⟩ = some (.slice a n c) := blk_cell (blk_below kN HB.out) (i := 0) rfl
                        have lr0 := blk_lt (blk_below kN HB.out)
                        have m0 := blk_cell k22 (i := 0) rfl
                        have m1 := blk_cell k22 (i := 1) rfl
                        have lm := blk_lt k22
                        have HK22 := Lib.hid k22
                        clear k22
                        go_cut [23, 24] from 208 to 220 (fun v23 v24 wx => v23 = .bool true ∧ v24 = .int .i64 0 ∧ Hid (Below w44.heap.size w44 wx))
                        case first =>
                          have HN := Lib.hid (Below.refl w44.heap.size w44).drew
                          refine wp_region_laterT (B := w44.heap.size) (.head 0 (.head 2 (.head 4 (.head 6 (.two 1 (.two 3 (.two 5 (.one 7 (.head 8 (.one 9 (.head 10 (.head 11 (.head 12 (.head 13 (.head 14 .done)))))))) 7 (.one 5 (.head 8 (.one 9 (.head 10 (.head 11 (.head 12 (.head 13 (.head 14 .done))))))))) 7 (.one 3 (.one 5 (.head 8 (.one 9 (.head 10 (.head 11 (.head 12 (.head 13 (.head 14 .done)))))))))) 7 (.one 1 (.one 3 (.one 5 (.head 8 (.one 9 (.head 10 (.head 11 (.head 12 (.head 13 (.head 14 .done))))))))))))))) (by kernel_rfl) (by kernel_rfl) ?_
                          repeat (refine tree_head rfl ?_; (show wpQuiet _ _ _ _ (_ :: _) _; go_big_quiet_step (fail)); refine wpQuiet_nil ?_)
                          have HI9 := Lib.hid (HI9.out.below (Below.refl _ _).drew)
                          have HG9 := Lib.hid (HG9.out.below (Below.refl _ _).drew)
                          refine tree_two rfl rfl ?_ ?_
                          · go_wp2_with fail
                            refine (HCN.out _ (HB4.out.trans ((HB.out.trans (HN.out.mono HB.out.size)).mono HB4.out.size))).mono ?_
                            rintro e11 wx1 ⟨aC, cC, rfl, hbx, hsC⟩
                            have HT1 := Lib.hid hsC
                            clear hsC
                            have hzx := hbx.size
                            have HN := Lib.hid (HN.out.trans (hbx.mono HN.out.size))
                            have HI9 := Lib.hid (HI9.out.below hbx)
                            have HG9 := Lib.hid (HG9.out.below hbx)
                            clear hbx
                            go_wp2_with fail
                            refine tailL_mk HN.out ?_
                            repeat (refine tree_head rfl ?_; (show wpQuiet _ _ _ _ (_ :: _) _; go_big_quiet_step (fail)); refine wpQuiet_nil ?_)
                            refine tree_two rfl rfl ?_ ?_
                            · go_wp2_with fail
                              refine (HCD.out _ (HB4.out.trans ((HB.out.trans (HN.out.mono HB.out.size)).mono HB4.out.size))).mono ?_
                              rintro e11 wx2 ⟨aE, cE, rfl, hbx, hsC⟩
                              have HT3 := Lib.hid hsC
                              clear hsC
                              have hzx := hbx.size
                              have HN := Lib.hid (HN.out.trans (hbx.mono HN.out.size))
                              have HI9 := Lib.hid (HI9.out.below hbx)
                              have HG9 := Lib.hid (HG9.out.below hbx)
                              have HT1 := Lib.hid (HT1.out.below hbx)
                              clear hbx
                              go_wp2_with fail
                              refine tailL_mk HN.out ?_
                              repeat (refine tree_head rfl ?_; (show wpQuiet _ _ _ _ (_ :: _) _; go_big_quiet_step (fail)); refine wpQuiet_nil ?_)
                              refine tree_two rfl rfl ?_ ?_
                              · go_wp2_with fail
                                refine (HCM.out R2 _ _ _ _ _ HI9.out HG9.out).mono ?_
                                rintro e11 wx3 ⟨aF, cF, aG, cG, rfl, hbx, hsC, hsD⟩
                                have HT5 := Lib.hid hsC
                                have HT5b := Lib.hid hsD
                                clear hsC hsD
                                have hzx := hbx.size
                                have HN := Lib.hid (HN.out.trans (hbx.mono HN.out.size))
                                have HI9 := Lib.hid (HI9.out.below hbx)
                                have HG9 := Lib.hid (HG9.out.below hbx)
                                have HT1 := Lib.hid (HT1.out.below hbx)
                                have HT3 := Lib.hid (HT3.out.below hbx)
                                clear hbx
                                go_wp2_with fail
                                refine tailL_mk HN.out ?_
                                repeat (refine tree_head rfl ?_; (show wpQuiet _ _ _ _ (_ :: _) _; go_big_quiet_step (fail)); refine wpQuiet_nil ?_)
                                refine tree_one rfl ?_
                                go_wp2_with fail
                                obtain ⟨XL, hXL⟩ : ∃ X, X = wx3.heap.size := ⟨_, rfl⟩
                                have hxl : (wx3.alloc (Obj.cells #[.int .i64 (k : Int)] 3)).heap[XL]? = some (.cells #[.int .i64 (k : Int)] 3) := by rw [hXL]; exact heap_alloc_new _ _
                                have hbx : Below wx3.heap.size wx3 (wx3.alloc (Obj.cells #[.int .i64 (k : Int)] 3)) := by (repeat' (first | (with_reducible exact Below.refl _ _) | (with_reducible assumption) | (with_reducible refine Below.drewN ?_ _) | (with_reducible refine Below.alloc ?_ ?_ _) | (with_reducible refine Below.drew ?_) | (with_reducible refine Below.setCell ?_ ?_ _) | (with_reducible refine Below.step (by assumption) ?_ ?_) | (with_reducible exact And.left (by assumption)) | go_size))
                                try simp only [← hXL]
                                generalize (wx3.alloc (Obj.cells #[.int .i64 (k : Int)] 3)) = wx4 at *
                                have HN := Lib.hid (HN.out.trans (hbx.mono HN.out.size))
                                have HI9 := Lib.hid (HI9.out.below hbx)
                                have HG9 := Lib.hid (HG9.out.below hbx)
                                have HT1 := Lib.hid (HT1.out.below hbx)
                                have HT3 := Lib.hid (HT3.out.below hbx)
                                have HT5 := Lib.hid (HT5.out.below hbx)
                                have HT5b := Lib.hid (HT5b.out.below hbx)
                                have HT7 := Lib.hid (show IntsR wx4 (some ⟨XL, 0, none⟩) 1 (nats [k]) from ints_lit hxl)
                                clear hbx hXL hxl
                                refine tailL_mk HN.out ?_
                                repeat (refine tree_head rfl ?_; (show wpQuiet _ _ _ _ (_ :: _) _; go_big_quiet_step (fail)); refine wpQuiet_nil ?_)
                                refine tree_one rfl ?_
                                go_wp2_with fail
                                refine (HEX.out _ _ _ _ _ _ _ _ _ _ _ HT1.out HT3.out HT5.out HT5b.out HT7.out).mono ?_
                                rintro e11 wx5 ⟨rfl, hbx⟩
                                have hzx := hbx.size
                                have HN := Lib.hid (HN.out.trans (hbx.mono HN.out.size))
                                have HI9 := Lib.hid (HI9.out.below hbx)
                                have HG9 := Lib.hid (HG9.out.below hbx)
                                have HT1 := Lib.hid (HT1.out.below hbx)
                                have HT3 := Lib.hid (HT3.out.below hbx)
                                have HT5 := Lib.hid (HT5.out.below hbx)
                                have HT5b := Lib.hid (HT5b.out.below hbx)
                                have HT7 := Lib.hid (HT7.out.below hbx)
                                clear hbx
                                go_wp2_with fail
                                refine tailL_mk HN.out ?_
                                repeat (refine tree_head rfl ?_; (show wpQuiet _ _ _ _ (_ :: _) _; go_big_quiet_step (fail)); refine wpQuiet_nil ?_)
                                refine tree_done ?_
                                go_wp2_with fail
                                go_meet
                                case rel => exact ⟨rfl, rfl, HN⟩
                              · go_wp2_with fail
                                obtain ⟨XL, hXL⟩ : ∃ X, X = wx2.heap.size := ⟨_, rfl⟩
                                have hxl : (wx2.alloc (Obj.cells #[.int .i64 (k : Int)] 3)).heap[XL]? = some (.cells #[.int .i64 (k : Int)] 3) := by rw [hXL]; exact heap_alloc_new _ _
                                have hbx : Below wx2.heap.size wx2 (wx2.alloc (Obj.cells #[.int .i64 (k : Int)] 3)) := by (repeat' (first | (with_reducible exact Below.refl _ _) | (with_reducible assumption) | (with_reducible refine Below.drewN ?_ _) | (with_reducible refine Below.alloc ?_ ?_ _) | (with_reducible refine Below.drew ?_) | (with_reducible refine Below.setCell ?_ ?_ _) | (with_reducible refine Below.step (by assumption) ?_ ?_) | (with_reducible exact And.left (by assumption)) | go_size))
                                try simp only [← hXL]
                                generalize (wx2.alloc (Obj.cells #[.int .i64 (k : Int)] 3)) = wx6 at *
                                have HN := Lib.hid (HN.out.trans (hbx.mono HN.out.size))
                                have HI9 := Lib.hid (HI9.out.below hbx)
                                have HG9 := Lib.hid (HG9.out.below hbx)
                                have HT1 := Lib.hid (HT1.out.below hbx)
                                have HT3 := Lib.hid (HT3.out.below hbx)
                                have HT7 := Lib.hid (show IntsR wx6 (some ⟨XL, 0, none⟩) 1 (nats [k]) from ints_lit hxl)
                                clear hbx hXL hxl
                                refine tailL_mk HN.out ?_
                                repeat (refine tree_head rfl ?_; (show wpQuiet _ _ _ _ (_ :: _) _; go_big_quiet_step (fail)); refine wpQuiet_nil ?_)
                                refine tree_one rfl ?_
                                go_wp2_with fail
                                refine (HCM.out R2 _ _ _ _ _ HI9.out HG9.out).mono ?_
                                rintro e11 wx7 ⟨aF, cF, aG, cG, rfl, hbx, hsC, hsD⟩
                                have HT5 := Lib.hid hsC
                                have HT5b := Lib.hid hsD
                                clear hsC hsD
                                have hzx := hbx.size
                                have HN := Lib.hid (HN.out.trans (hbx.mono HN.out.size))
                                have HI9 := Lib.hid (HI9.out.below hbx)
                                have HG9 := Lib.hid (HG9.out.below hbx)
                                have HT1 := Lib.hid (HT1.out.below hbx)
                                have HT3 := Lib.hid (HT3.out.below hbx)
                                have HT7 := Lib.hid (HT7.out.below hbx)
                                clear hbx
                                go_wp2_with fail
                                refine tailL_mk HN.out ?_
                                repeat (refine tree_head rfl ?_; (show wpQuiet _ _ _ _ (_ :: _) _; go_big_quiet_step (fail)); refine wpQuiet_nil ?_)
                                refine tree_one rfl ?_
                                go_wp2_with fail
                                refine (HEX.out _ _ _ _ _ _ _ _ _ _ _ HT1.out HT3.out HT5.out HT5b.out HT7.out).mono ?_
                                rintro e11 wx8 ⟨rfl, hbx⟩
                                have hzx := hbx.size
                                have HN := Lib.hid (HN.out.trans (hbx.mono HN.out.size))
                                have HI9 := Lib.hid (HI9.out.below hbx)
                                have HG9 := Lib.hid (HG9.out.below hbx)
                                have HT1 := Lib.hid (HT1.out.below hbx)
                                have HT3 := Lib.hid (HT3.out.below hbx)
                                have HT7 := Lib.hid (HT7.out.below hbx)
                                have HT5 := Lib.hid (HT5.out.below hbx)
                                have HT5b := Lib.hid (HT5b.out.below hbx)
                                clear hbx
                                go_wp2_with fail
                                refine tailL_mk HN.out ?_
                                repeat (refine tree_head rfl ?_; (show wpQuiet _ _ _ _ (_ :: _) _; go_big_quiet_step (fail)); refine wpQuiet_nil ?_)
                                refine tree_done ?_
                                go_wp2_with fail
                                go_meet
                                case rel => exact ⟨rfl, rfl, HN⟩
                            · go_wp2_with fail
                              obtain ⟨XL, hXL⟩ : ∃ X, X = wx1.heap.size := ⟨_, rfl⟩
                              have hxl : (wx1.alloc (Obj.cells #[.int .i64 (k : Int)] 3)).heap[XL]? = some (.cells #[.int .i64 (k : Int)] 3) := by rw [hXL]; exact heap_alloc_new _ _
                              have hbx : Below wx1.heap.size wx1 (wx1.alloc (Obj.cells #[.int .i64 (k : Int)] 3)) := by (repeat' (first | (with_reducible exact Below.refl _ _) | (with_reducible assumption) | (with_reducible refine Below.drewN ?_ _) | (with_reducible refine Below.alloc ?_ ?_ _) | (with_reducible refine Below.drew ?_) | (with_reducible refine Below.setCell ?_ ?_ _) | (with_reducible refine Below.step (by assumption) ?_ ?_) | (with_reducible exact And.left (by assumption)) | go_size))
                              try simp only [← hXL]
                              generalize (wx1.alloc (Obj.cells #[.int .i64 (k : Int)] 3)) = wx9 at *
                              have HN := Lib.hid (HN.out.trans (hbx.mono HN.out.size))
                              have HI9 := Lib.hid (HI9.out.below hbx)
                              have HG9 := Lib.hid (HG9.out.below hbx)
                              have HT1 := Lib.hid (HT1.out.below hbx)
                              have HT7 := Lib.hid (show IntsR wx9 (some ⟨XL, 0, none⟩) 1 (nats [k]) from ints_lit hxl)
                              clear hbx hXL hxl
                              refine tailL_mk HN.out ?_
                              repeat (refine tree_head rfl ?_; (show wpQuiet _ _ _ _ (_ :: _) _; go_big_quiet_step (fail)); refine wpQuiet_nil ?_)
                              refine tree_one rfl ?_
                              go_wp2_with fail
                              refine (HCD.out _ (HB4.out.trans ((HB.out.trans (HN.out.mono HB.out.size)).mono HB4.out.size))).mono ?_
                              rintro e11 wx10 ⟨aE, cE, rfl, hbx, hsC⟩
                              have HT3 := Lib.hid hsC
                              clear hsC
                              have hzx := hbx.size
                              have HN := Lib.hid (HN.out.trans (hbx.mono HN.out.size))
                              have HI9 := Lib.hid (HI9.out.below hbx)
                              have HG9 := Lib.hid (HG9.out.below hbx)
                              have HT1 := Lib.hid (HT1.out.below hbx)
                              have HT7 := Lib.hid (HT7.out.below hbx)
                              clear hbx
                              go_wp2_with fail
                              refine tailL_mk HN.out ?_
                              repeat (refine tree_head rfl ?_; (show wpQuiet _ _ _ _ (_ :: _) _; go_big_quiet_step (fail)); refine wpQuiet_nil ?_)
                              refine tree_one rfl ?_
                              go_wp2_with fail
                              refine (HCM.out R2 _ _ _ _ _ HI9.out HG9.out).mono ?_
                              rintro e11 wx11 ⟨aF, cF, aG, cG, rfl, hbx, hsC, hsD⟩
                              have HT5 := Lib.hid hsC
                              have HT5b := Lib.hid hsD
                              clear hsC hsD
                              have hzx := hbx.size
                              have HN := Lib.hid (HN.out.trans (hbx.mono HN.out.size))
                              have HI9 := Lib.hid (HI9.out.below hbx)
                              have HG9 := Lib.hid (HG9.out.below hbx)
                              have HT1 := Lib.hid (HT1.out.below hbx)
                              have HT7 := Lib.hid (HT7.out.below hbx)
                              have HT3 := Lib.hid (HT3.out.below hbx)
                              clear hbx
                              go_wp2_with fail
                              refine tailL_mk HN.out ?_
                              repeat (refine tree_head rfl ?_; (show wpQuiet _ _ _ _ (_ :: _) _; go_big_quiet_step (fail)); refine wpQuiet_nil ?_)
                              refine tree_one rfl ?_
                              go_wp2_with fail
                              refine (HEX.out _ _ _ _ _ _ _ _ _ _ _ HT1.out HT3.out HT5.out HT5b.out HT7.out).mono ?_
                              rintro e11 wx12 ⟨rfl, hbx⟩
                              have hzx := hbx.size
                              have HN := Lib.hid (HN.out.trans (hbx.mono HN.out.size))
                              have HI9 := Lib.hid (HI9.out.below hbx)
                              have HG9 := Lib.hid (HG9.out.below hbx)
                              have HT1 := Lib.hid (HT1.out.below hbx)
                              have HT7 := Lib.hid (HT7.out.below hbx)
                              have HT3 := Lib.hid (HT3.out.below hbx)
                              have HT5 := Lib.hid (HT5.out.below hbx)
                              have HT5b := Lib.hid (HT5b.out.below hbx)
                              clear hbx
                              go_wp2_with fail
                              refine tailL_mk HN.out ?_
                              repeat (refine tree_head rfl ?_; (show wpQuiet _ _ _ _ (_ :: _) _; go_big_quiet_step (fail)); refine wpQuiet_nil ?_)
                              refine tree_done ?_
                              go_wp2_with fail
                              go_meet
                              case rel => exact ⟨rfl, rfl, HN⟩
                          · go_wp2_with fail
                            obtain ⟨XL, hXL⟩ : ∃ X, X = w44.heap.size := ⟨_, rfl⟩
                            have hxl : (w44.alloc (Obj.cells #[.int .i64 (k : Int)] 3)).drew.heap[XL]? = some (.cells #[.int .i64 (k : Int)] 3) := by rw [hXL]; exact heap_alloc_new _ _
                            have hbx : Below w44.heap.size w44 (w44.alloc (Obj.cells #[.int .i64 (k : Int)] 3)).drew := by (repeat' (first | (with_reducible exact Below.refl _ _) | (with_reducible assumption) | (with_reducible refine Below.drewN ?_ _) | (with_reducible refine Below.alloc ?_ ?_ _) | (with_reducible refine Below.drew ?_) | (with_reducible refine Below.setCell ?_ ?_ _) | (with_reducible refine Below.step (by assumption) ?_ ?_) | (with_reducible exact And.left (by assumption)) | go_size))
                            have hbd : Below w44.drew.heap.size w44.drew (w44.alloc (Obj.cells #[.int .i64 (k : Int)] 3)).drew := ⟨hbx.os, hbx.tape, hbx.output, hbx.size, hbx.block⟩
                            try simp only [← hXL]
                            generalize (w44.alloc (Obj.cells #[.int .i64 (k : Int)] 3)).drew = wx13 at *
                            have HN := Lib.hid hbx
                            have HI9 := Lib.hid (HI9.out.below hbd)
                            have HG9 := Lib.hid (HG9.out.below hbd)
                            have HT7 := Lib.hid (show IntsR wx13 (some ⟨XL, 0, none⟩) 1 (nats [k]) from ints_lit hxl)
                            clear hbx hXL hxl hbd
                            refine tailL_mk HN.out ?_
                            repeat (refine tree_head rfl ?_; (show wpQuiet _ _ _ _ (_ :: _) _; go_big_quiet_step (fail)); refine wpQuiet_nil ?_)
                            refine tree_one rfl ?_
                            go_wp2_with fail
                            refine (HCN.out _ (HB4.out.trans ((HB.out.trans (HN.out.mono HB.out.size)).mono HB4.out.size))).mono ?_
                            rintro e11 wx14 ⟨aC, cC, rfl, hbx, hsC⟩
                            have HT1 := Lib.hid hsC
                            clear hsC
                            have hzx := hbx.size
                            have HN := Lib.hid (HN.out.trans (hbx.mono HN.out.size))
                            have HI9 := Lib.hid (HI9.out.below hbx)
                            have HG9 := Lib.hid (HG9.out.below hbx)
                            have HT7 := Lib.hid (HT7.out.below hbx)
                            clear hbx
                            go_wp2_with fail
                            refine tailL_mk HN.out ?_
                            repeat (refine tree_head rfl ?_; (show wpQuiet _ _ _ _ (_ :: _) _; go_big_quiet_step (fail)); refine wpQuiet_nil ?_)
                            refine tree_one rfl ?_
                            go_wp2_with fail
                            refine (HCD.out _ (HB4.out.trans ((HB.out.trans (HN.out.mono HB.out.size)).mono HB4.out.size))).mono ?_
                            rintro e11 wx15 ⟨aE, cE, rfl, hbx, hsC⟩
                            have HT3 := Lib.hid hsC
                            clear hsC
                            have hzx := hbx.size
                            have HN := Lib.hid (HN.out.trans (hbx.mono HN.out.size))
                            have HI9 := Lib.hid (HI9.out.below hbx)
                            have HG9 := Lib.hid (HG9.out.below hbx)
                            have HT7 := Lib.hid (HT7.out.below hbx)
                            have HT1 := Lib.hid (HT1.out.below hbx)
                            clear hbx
                            go_wp2_with fail
                            refine tailL_mk HN.out ?_
                            repeat (refine tree_head rfl ?_; (show wpQuiet _ _ _ _ (_ :: _) _; go_big_quiet_step (fail)); refine wpQuiet_nil ?_)
                            refine tree_one rfl ?_
                            go_wp2_with fail
                            refine (HCM.out R2 _ _ _ _ _ HI9.out HG9.out).mono ?_
                            rintro e11 wx16 ⟨aF, cF, aG, cG, rfl, hbx, hsC, hsD⟩
                            have HT5 := Lib.hid hsC
                            have HT5b := Lib.hid hsD
                            clear hsC hsD
                            have hzx := hbx.size
                            have HN := Lib.hid (HN.out.trans (hbx.mono HN.out.size))
                            have HI9 := Lib.hid (HI9.out.below hbx)
                            have HG9 := Lib.hid (HG9.out.below hbx)
                            have HT7 := Lib.hid (HT7.out.below hbx)
                            have HT1 := Lib.hid (HT1.out.below hbx)
                            have HT3 := Lib.hid (HT3.out.below hbx)
                            clear hbx
                            go_wp2_with fail
                            refine tailL_mk HN.out ?_
                            repeat (refine tree_head rfl ?_; (show wpQuiet _ _ _ _ (_ :: _) _; go_big_quiet_step (fail)); refine wpQuiet_nil ?_)
                            refine tree_one rfl ?_
                            go_wp2_with fail
                            refine (HEX.out _ _ _ _ _ _ _ _ _ _ _ HT1.out HT3.out HT5.out HT5b.out HT7.out).mono ?_
                            rintro e11 wx17 ⟨rfl, hbx⟩
                            have hzx := hbx.size
                            have HN := Lib.hid (HN.out.trans (hbx.mono HN.out.size))
                            have HI9 := Lib.hid (HI9.out.below hbx)
                            have HG9 := Lib.hid (HG9.out.below hbx)
                            have HT7 := Lib.hid (HT7.out.below hbx)
                            have HT1 := Lib.hid (HT1.out.below hbx)
                            have HT3 := Lib.hid (HT3.out.below hbx)
                            have HT5 := Lib.hid (HT5.out.below hbx)
                            have HT5b := Lib.hid (HT5b.out.below hbx)
                            clear hbx
                            go_wp2_with fail
                            refine tailL_mk HN.out ?_
                            repeat (refine tree_head rfl ?_; (show wpQuiet _ _ _ _ (_ :: _) _; go_big_quiet_step (fail)); refine wpQuiet_nil ?_)
                            refine tree_done ?_
                            go_wp2_with fail
                            go_meet
                            case rel => exact ⟨rfl, rfl, HN⟩
                        case rest =>
                          obtain ⟨w45, rfl⟩ : ∃ w', w' = wc := ⟨wc, rfl⟩
                          obtain ⟨rfl, rfl, hN⟩ := hcut
                          have hb45 := hN.out
                          replace HI9 := Lib.hid (HI9.out.below hb45)
                          replace HG9 := Lib.hid (HG9.out.below hb45)
                          replace HPr := Lib.hid (HPr.out.trans (hb45.mono HPr.out.size))
                          replace hBr := Lib.hid (hBr.out.trans (hb45.mono hBr.out.size))
                          have k22 := blk_below HK22.out hb45
                          clear m0 m1 lm hN HEX
                          replace HB := Lib.hid (HB.out.trans (hb45.mono HB.out.size))
                          clear hb45 q0 lr0
                          have q0 : w45.cell? ⟨w.heap.size, 0, none⟩ = some (.slice a n c) := blk_cell (blk_below kN HB.out) (i := 0) rfl
                          have lr0 := blk_lt (blk_below kN HB.out)
                          have m0 := blk_cell k22 (i := 0) rfl
                          have m1 := blk_cell k22 (i := 1) rfl
                          have lm := blk_lt k22
                          clear k22 HK22
                          go_wp2_with fail
                          refine wp_region_laterM (B := w45.heap.size) [(true, 0), (true, 2), (true, 4), (false, 1), (false, 3), (false, 5), (false, 6), (true, 7), (true, 8), (true, 9), (true, 10), (true, 11)] (by kernel_rfl) (by kernel_rfl) ?_; simp only [opsOf, List.filterMap_cons, List.filterMap_nil, List.getElem?_toArray, List.getElem?_cons_zero, List.getElem?_cons_succ, Option.map_some]
                          repeat (refine mix_head ?_; (show wpQuiet _ _ _ _ (_ :: _) _; go_big_quiet_step (fail)); refine wpQuiet_nil ?_)
                          have hd45 : Below w45.heap.size w45 w45.drew := by (repeat' (first | (with_reducible exact Below.refl _ _) | (with_reducible assumption) | (with_reducible refine Below.drewN ?_ _) | (with_reducible refine Below.alloc ?_ ?_ _) | (with_reducible refine Below.drew ?_) | (with_reducible refine Below.setCell ?_ ?_ _) | (with_reducible refine Below.step (by assumption) ?_ ?_) | (with_reducible exact And.left (by assumption)) | go_size))
                          replace HI9 := Lib.hid (HI9.out.below hd45)
                          replace HG9 := Lib.hid (HG9.out.below hd45)
                          refine mix_tail ?_; go_wp2_with fail
                          refine (HCN.out _ (HB4.out.trans ((HB.out.trans (hd45.mono HB.out.size)).mono HB4.out.size))).mono ?_
                          rintro e51 w51 ⟨a51, c51, rfl, hb51, hs51⟩
                          have HX := Lib.hid (hd45.trans (hb51.mono hd45.size))
                          replace HI9 := Lib.hid (HI9.out.below hb51)
                          replace HG9 := Lib.hid (HG9.out.below hb51)
                          have HT1 := Lib.hid hs51
                          clear hb51 hs51 hd45 m0 m1 lm q0 lr0
                          go_wp2_with fail
                          refine tailL_mk HX.out ?_
                          refine mix_tail ?_; go_wp2_with fail
                          refine (HCD.out _ (HB4.out.trans ((HB.out.trans (HX.out.mono HB.out.size)).mono HB4.out.size))).mono ?_
                          rintro e52 w52 ⟨a52, c52, rfl, hb52, hs52⟩
                          replace HX := Lib.hid (HX.out.trans (hb52.mono HX.out.size))
                          replace HI9 := Lib.hid (HI9.out.below hb52)
                          replace HG9 := Lib.hid (HG9.out.below hb52)
                          replace HT1 := Lib.hid (HT1.out.below hb52)
                          have HT2 := Lib.hid hs52
                          clear hb52 hs52
                          go_wp2_with fail
                          refine tailL_mk HX.out ?_
                          refine mix_tail ?_; go_wp2_with fail
                          refine (HCM.out R2 _ _ _ _ _ HI9.out HG9.out).mono ?_
                          rintro e53 w53 ⟨a53, c53, a54, c54, rfl, hb53, hs53, hs54⟩
                          replace HX := Lib.hid (HX.out.trans (hb53.mono HX.out.size))
                          replace HT1 := Lib.hid (HT1.out.below hb53)
                          replace HT2 := Lib.hid (HT2.out.below hb53)
                          have HT3 := Lib.hid hs53
                          have HT4 := Lib.hid hs54
                          clear hb53 hs53 hs54
                          go_wp2_with fail
                          refine tailL_mk HX.out ?_
                          refine mix_tail ?_; go_wp2_with fail
                          refine (HXP.out _ _ _ _ _ _ _ _ _ HT1.out HT2.out HT3.out HT4.out).mono ?_
                          rintro e54 w54 ⟨aX, kX, cX, rfl, hb54, hx54⟩
                          replace HX := Lib.hid (HX.out.trans (hb54.mono HX.out.size))
                          obtain rfl : LL.length = kX := hx54.len
                          have HRW := Lib.hid (fun (W : World) (hb : Below w54.heap.size w54 W) => hx54.below hb)
                          clear hb54 hx54 HT1 HT2 HT3 HT4
                          go_wp2_with fail
                          refine tailL_mk HX.out ?_
                          repeat (refine mix_head ?_; (show wpQuiet _ _ _ _ (_ :: _) _; go_big_quiet_step (fail)); refine wpQuiet_nil ?_)
                          refine mix_nil ?_
                          replace hBr := Lib.hid (hBr.out.trans (HX.out.mono hBr.out.size))
                          clear HX HI9 HG9 HPr HXP HCM HB
                          have HW6 := Lib.hid (fun w' => bwithin_any (LL.length : Int) 1 6 w')
                          rw [show wi (LL.length : Int) 1 6 = true from wi_iff.2 (by omega)] at HW6
                          go_wp2_with fail
                          refine (HW6.out _).mono ?_
                          rintro e55 w55 ⟨rfl, rfl⟩
                          go_wp2_with fail
                          clear HW6
                          have HLE := Lib.hid (show ∀ t, t < LL.length → ∀ S, LL[t]? = some S → S = [] ∨ ∃ x, S = [x] from fun t _ S hS => by
                            have h1 := HL3.out S (List.mem_of_getElem? hS)
                            match S, h1 with
                            | [], _ => exact .inl rfl
                            | [x], _ => exact .inr ⟨x, rfl⟩
                            | x :: y :: r, h1 => simp at h1)
                          have HT0 := Lib.hid (fun (t : Nat) (S : List Nat) (h : LL[t]? = some S) => own_take (k := k) h)
                          have HTE := Lib.hid (show (LL.take LL.length).any (ownS k) = true by rw [List.take_length]; exact HL4.out)
                          have hLL6 : LL.length ≤ 9 := by omega
                          clear HL3 HL4 L1 L2
                          generalize LL.length = KL at *
                          go_loopw [27, 28] (fun v27 v28 wx => ∃ (t : Nat) (ob : Bool), v27 = .bool ob ∧ v28 = .int .i64 (t : Int) ∧ t ≤ KL ∧ Hid (ob = (LL.take t).any (ownS k)) ∧ Hid (Below w54.heap.size w54 wx)) (fun _ v28 _ => KL - (intOf v28).toNat)
                          case atStart => exact ⟨0, false, rfl, rfl, Nat.zero_le _, Lib.hid (by simp), Lib.hid (Below.refl _ _)⟩
                          case round =>
                            obtain ⟨t, ob, rfl, rfl, ht, hob, hL⟩ := hrel
                            have t0 : (0 : Int) ≤ (t : Int) := by omega
                            by_cases htl : t < KL
                            · have t1 : (t : Int) < (KL : Int) := by omega
                              obtain ⟨bR, oR, S, pS, mS, cS, rfl, hS, c0, hIS⟩ := (HRW.out _ hL.out).at htl
                              have hlb : bR < wr.heap.size := by
                                obtain ⟨_, _, _, hb⟩ := blk_of_cell c0
                                exact (Array.getElem?_eq_some_iff.1 hb).1
                              have hTK := HT0.out t S hS
                              rw [← hob.out] at hTK
                              have hSS := HLE.out t htl S hS
                              clear hob hS
                              rcases hSS with rfl | ⟨x, rfl⟩
                              · obtain rfl : mS = 0 := by have := hIS.len; simpa [nats, icells] using this.symm
                                have HOB := Lib.hid (show true = (LL.take (t + 1)).any (ownS k) by rw [hTK]; simp [ownS])
                                clear hTK hIS
                                cases ob
                                · go_wp2_with fail
                                  go_roundw
                                  case rel => exact ⟨t + 1, true, rfl, by go_num, by omega, HOB, hL⟩
                                  case measure => simp [intOf]; omega
                                · go_wp2_with fail
                                  go_roundw
                                  case rel => exact ⟨t + 1, true, rfl, by go_num, by omega, HOB, hL⟩
                                  case measure => simp [intOf]; omega
                              · obtain rfl : mS = 1 := by have := hIS.len; simpa [nats, icells] using this.symm
                                obtain ⟨bS, oS, rfl, hbS, hcS⟩ := SlR.addr hIS (by omega)
                                have c1 := hcS 0 (.int .i64 (x : Int)) rfl
                                rw [Nat.add_zero] at c1
                                clear hIS hcS
                                cases ob
                                · by_cases hxk : x = k
                                  · subst hxk
                                    have HOB := Lib.hid (show true = (LL.take (t + 1)).any (ownS x) by rw [hTK]; simp [ownS])
                                    clear hTK
                                    go_wp2_with fail
                                    go_roundw
                                    case rel => exact ⟨t + 1, true, rfl, by go_num, by omega, HOB, hL⟩
                                    case measure => simp [intOf]; omega
                                  · have e1 : ((x : Int) == (k : Int)) = false := by simp; omega
                                    have HOB := Lib.hid (show false = (LL.take (t + 1)).any (ownS k) by rw [hTK]; simp [ownS, hxk])
                                    clear hTK hxk
                                    go_wp2_with fail
                                    go_roundw
                                    case rel => exact ⟨t + 1, false, rfl, by go_num, by omega, HOB, hL⟩
                                    case measure => simp [intOf]; omega
                                · have HOB := Lib.hid (show true = (LL.take (t + 1)).any (ownS k) by rw [hTK]; simp)
                                  clear hTK
                                  go_wp2_with fail
                                  go_roundw
                                  case rel => exact ⟨t + 1, true, rfl, by go_num, by omega, HOB, hL⟩
                                  case measure => simp [intOf]; omega
                            · obtain rfl : t = KL := by omega
                              obtain rfl : ob = true := hob.out.trans HTE.out
                              go_wp2_with fail
                              go_roundw
                              case rel => exact ⟨k + 1, by go_num, by omega, Lib.hid (hBr.out.trans (hL.out.mono hBr.out.size))⟩
                              case measure => simp [intOf]; omega
                · have hE2 : EO = 22 := by
                    rcases HMK.out with h22 | ⟨h0, _⟩
                    · exact HEO.out.trans h22
                    · exact absurd (HEO.out.trans h0) hE
                  subst hE2
                  clear hE HMK HM1 HEO hM
                  go_wp2_with fail
                  go_roundw
                  case rel => exact ⟨k + 1, by go_num, by omega, hBr⟩
                  case measure => simp [intOf]; omega
            · obtain rfl : k = m := by omega
              go_wp2
              go_ret
              exact ⟨rfl, HB4.out.trans (HB.out.mono HB4.out.size)⟩
      · have b1 := bne_iff_ne.2 h3
        clear h3
        go_wp2_with fail
        all_goals go_ret
        all_goals exact ⟨by first | rfl | exact ret_bool (by simp), HB4.out.trans (HB.out.mono HB4.out.size)⟩
    · have b1 := bne_iff_ne.2 h2
      clear h2
      go_wp2_with fail
      all_goals go_ret
      all_goals exact ⟨by first | rfl | exact ret_bool (by simp), HB4.out.trans (HB.out.mono HB4.out.size)⟩
  · have b1 := bne_iff_ne.2 h1
    clear h1
    go_wp2_with fail
    all_goals go_ret
    all_goals exact ⟨by first | rfl | exact ret_bool (by simp), HB4.out.trans (HB.out.mono HB4.out.size)⟩
end Go.Proofs.YtdklmcicogmeaaaGreat
