import Derived.Test.YtkphbibonagkfaaGreatDAwk
import Derived.Test.YtkphbibonagkfaaGreatDRespX
import Derived.Test.YtkphbibonagkfaaGreatRResp3
/- Which networks are valid, and their responses: the statement's function. -/
namespace Go.Proofs.YtkphbibonagkfaaGreat
open Go.RowKit
set_option linter.unusedVariables false

theorem wpList_append_slo {P : Program} (w : World) {ops : Array Oper} {rest : List Oper} {o : Oper} {a : Act} {Q : Exit → Act → World → Prop} (hgd : o.guard = none) (s x : Operand) (t : TypeId)
    (ho : o.op = .call { callee := .builtin .append, args := #[s, x], argTypes := #[t, t] })
    (base : Nat) (e : TypeId) (z : Value) (size bytes : Nat) (ht : P.underlying t = some (.slice e)) (hi : (P.info? e).map (fun i => (i.zero, i.size, i.bytes)) = some (some z, size, bytes))
    (hzs : z.cells.size = size) (hsz : 0 < size)
    (v : Value) (n : Nat) (xs : List Value) (hs : a.eval s = v) (hown : w.ownsRow base e size v n xs)
    (ao : Option Addr) (m c : Nat) (hm : 0 < m) (news : List Value) (hx : a.eval x = .slice ao m c) (hsrc : SlR w ao m size news) (h1 : ∀ u ∈ news, u.oneCell' = true)
    (hnm : n + m ≤ 1000000) (hbytes : bytes ≤ 1000) (hbase : base ≤ w.heap.size)
    (h : ∀ v' w', w'.ownsRow base e size v' (n + m) (xs ++ news) → w.grownBy w' v.ownBlock → (v'.ownBlock = v.ownBlock ∨ v'.ownBlock = some w.heap.size) → Below base w w' → wpList P ops Q rest (a.put o.dst v') w') : wpList P ops Q (o :: rest) a w := by
  obtain ⟨i, hi1, hi2, hi3, hi4⟩ := info_parts hi
  obtain ⟨b, o', rfl, hb, hc⟩ := hsrc.2.2 hm
  have hmul : (n + m) * bytes ≤ 1000000 * 1000 := Nat.mul_le_mul hnm hbytes
  refine wpList_append_own_at w hgd s x t ho base e i z size bytes ht hi1 hi2 hi3 hi4 hzs hsz v n xs hs hown ⟨b, o', none⟩ m c news hx hsrc.1 (fun j u hu => by rw [Addr.add_lit]; exact hc j u hu) h1 (by unfold maxLen; omega) (by omega) hbase
    (fun v' w' h2 h3 _ h5 => h v' w' h2 h3 h5 ((Below.refl base w).grown h3 hbase (fun k hk => (hown.lt k hk).1)))
set_option maxHeartbeats 2000000 in
set_option maxRecDepth 100000 in
theorem resp_few (a ap : Option Addr) (n c m cm : Nat) (F : Int) (w : World) (hn : n ≤ 9223372036854775807) (hm : m ≤ 9223372036854775807) (h : ¬ (n ≤ 5 ∧ m ≤ 10)) :
    Calls Tryz.prog 5 #[.agg #[.slice a n c], .int .i64 F, .slice ap m cm] w fun e' w' => e' = .returned (.bool true) ∧ Below w.heap.size w w' := by
  have HF := Lib.hid (fun w' => fewSections9_any a n c w' hn)
  by_cases h1 : n ≤ 5
  · have h2 : ¬ m ≤ 10 := fun h2 => h ⟨h1, h2⟩
    rw [decide_eq_true h1] at HF
    have e2 : decide (10 < (m : Int)) = true := decide_eq_true (by omega)
    have e2' : (10 < (m : Int)) = True := by simp; omega
    clear h h1 h2
    go_enter Tryz.func5, Tryz.ntmps5
    go_wp2_with fail
    refine (awake9_any _).mono ?_
    rintro e5 w5 ⟨rfl, hb5⟩
    have p0 : w5.cell? ⟨w.heap.size, 0, none⟩ = some (.slice a n c) := by { rw [cellB hb5 _ _ (by first | (simp; done) | (simp; omega) | omega)]; all_goals (first | assumption | go_simp) }
    have HB5 := Lib.hid (show Below w.heap.size w w5 from Below.trans (by (repeat' (first | (with_reducible exact Below.refl _ _) | (with_reducible assumption) | (with_reducible refine Below.drewN ?_ _) | (with_reducible refine Below.alloc ?_ ?_ _) | (with_reducible refine Below.drew ?_) | (with_reducible refine Below.setCell ?_ ?_ _) | (with_reducible refine Below.step (by assumption) ?_ ?_) | (with_reducible exact And.left (by assumption)) | go_size))) (hb5.mono (by simp)))
    clear hb5
    go_wp2_with fail
    refine (HF.out _).mono ?_
    rintro e6 w6 ⟨rfl, hb6⟩
    have HB6 := Lib.hid (HB5.out.trans (hb6.mono HB5.out.size))
    clear hb6
    go_wp2
    go_ret
    exact ⟨rfl, HB6.out⟩
  · rw [decide_eq_false h1] at HF
    clear h h1
    go_enter Tryz.func5, Tryz.ntmps5
    go_wp2_with fail
    refine (awake9_any _).mono ?_
    rintro e5 w5 ⟨rfl, hb5⟩
    have p0 : w5.cell? ⟨w.heap.size, 0, none⟩ = some (.slice a n c) := by { rw [cellB hb5 _ _ (by first | (simp; done) | (simp; omega) | omega)]; all_goals (first | assumption | go_simp) }
    have HB5 := Lib.hid (show Below w.heap.size w w5 from Below.trans (by (repeat' (first | (with_reducible exact Below.refl _ _) | (with_reducible assumption) | (with_reducible refine Below.drewN ?_ _) | (with_reducible refine Below.alloc ?_ ?_ _) | (with_reducible refine Below.drew ?_) | (with_reducible refine Below.setCell ?_ ?_ _) | (with_reducible refine Below.step (by assumption) ?_ ?_) | (with_reducible exact And.left (by assumption)) | go_size))) (hb5.mono (by simp)))
    clear hb5
    go_wp2_with fail
    refine (HF.out _).mono ?_
    rintro e6 w6 ⟨rfl, hb6⟩
    have HB6 := Lib.hid (HB5.out.trans (hb6.mono HB5.out.size))
    clear hb6
    go_wp2
    go_ret
    exact ⟨rfl, HB6.out⟩
theorem rspE_cases (s : List T3) (f : Int) : rspE s f = if (netE s).2 ≠ 0 then (netE s).2 else if wi f 0 6 = true then 0 else 2 := by
  unfold rspE
  by_cases h1 : (netE s).2 = 0
  · rw [h1]
    cases h : wi f 0 6 <;> simp [firstErr, unl]
  · simp [firstErr, h1]
theorem rsoE_cases (s : List T3) (l : List Int) : rsoE s l = if (netE s).2 ≠ 0 then (netE s).2 else freE l := by
  unfold rsoE
  by_cases h1 : (netE s).2 = 0
  · rw [h1]
    by_cases h2 : freE l = 0
    · rw [h2]; simp [firstErr]
    · simp [firstErr, h2]
  · simp [firstErr, h1]
theorem freE_ok {l : List Int} (h2 : freE l = 0) : l.length ≤ 8 ∧ ∀ f ∈ l, 0 ≤ f ∧ f ≤ 6 := by
  unfold freE at h2
  obtain ⟨g1, g2⟩ := firstErr_cons.1 h2
  obtain ⟨g3, _⟩ := firstErr_cons.1 g2
  rw [unl_eq_zero (by omega)] at g1 g3
  rw [decide_eq_true_eq] at g1
  rw [Bool.not_eq_true', List.any_eq_false] at g3
  exact ⟨by omega, fun f hf => by have := g3 f hf; simpa [wi_iff] using this⟩
set_option maxHeartbeats 4000000 in
set_option maxRecDepth 100000 in
theorem resp_main (s : List T3) (l : List Int) (F : Int) (a ap : Option Addr) (n c m cm : Nat) (w : World) (hs : T3R w a n s) (hl : IntsR w ap m l) (h5 : n ≤ 5) (h10 : m ≤ 10) :
    Calls Tryz.prog 5 #[.agg #[.slice a n c], .int .i64 F, .slice ap m cm] w fun e' w' => e' = .returned (.bool true) ∧ Below w.heap.size w w' := by
  have HF := Lib.hid (fun w' => fewSections9_any a n c w' (by omega))
  rw [decide_eq_true h5] at HF
  have e2 : decide (10 < (m : Int)) = false := decide_eq_false (by omega)
  have e2' : (10 < (m : Int)) = False := by simp; omega
  have HN5 := Lib.hid h5
  have HCN := Lib.hid (fun (W : World) (hb : Below w.heap.size w W) => copyNetwork_any s a n c W (hs.below hb) (by omega))
  have HCI := Lib.hid (fun (W : World) (hb : Below w.heap.size w W) => copyInts_any l ap m cm W (hl.below hb) (by omega))
  have HSN := Lib.hid hs.len
  have HLN := Lib.hid hl.len
  have HK := Lib.hid (fun (a' : Option Addr) (c' : Nat) (W : World) (h : T3R W a' n s) => checkNetwork_any s a' n c' W h)
  have HRA := Lib.hid (fun (a' : Option Addr) (c' : Nat) (W : World) (h : T3R W a' n s) => responseAt_any s F a' n c' W h)
  have HRO := Lib.hid (fun (a' b' : Option Addr) (c' d' : Nat) (W : World) (h : T3R W a' n s) (h2 : IntsR W b' m l) => responsesOf_any s l a' b' n c' m d' W h h2)
  have HRK := Lib.hid (fun (W : World) (hb : Below w.heap.size w W) => rCheckNetwork_any s a n c W (hs.below hb))
  have HFE := Lib.hid (fun (W : World) (hb : Below w.heap.size w W) => rFrequenciesErr_any l ap m cm W (hl.below hb))
  have HRR := Lib.hid (fun (h1 : (netE s).2 = 0) (h2 : freE l = 0) (W : World) (hb : Below w.heap.size w W) => by
    have k1 := netE_ok h1
    exact rResponses_any s l a ap n c m cm W (hs.below hb) (hl.below hb) (by have := hs.len; omega) k1.2.2 (freE_ok h2).2 (by omega))
  have HIF := Lib.hid (fun (W : World) => rIsFrequency_any F W)
  have HR1 := Lib.hid (fun (h1 : (netE s).2 = 0) (h2 : wi F 0 6 = true) (W : World) (hb : Below w.heap.size w W) => by
    have k1 := netE_ok h1
    exact rResponse_any s F a n c W (hs.below hb) (by have := hs.len; omega) k1.2.2 (wi_iff.1 h2))
  have HR0 := Lib.hid (fun (a' : Option Addr) (c' : Nat) (W : World) (h1 : (netE s).2 = 0) (h : T3R W a' n s) => by
    have := responseAt_any s 0 a' n c' W h
    rw [show rspE s 0 = 0 by rw [rspE_cases, h1]; rfl, gPr_zero] at this
    exact this)
  have HNL := Lib.hid (fun (a' : Option Addr) (n' c' : Nat) (W : World) (h : T3R W a' n' (s ++ [⟨0, 0, 0⟩])) => rNetworkErr_any (s ++ [⟨0, 0, 0⟩]) a' n' c' W h)
  have HRL := Lib.hid (fun (a' : Option Addr) (n' c' : Nat) (W : World) (h1 : (netE (s ++ [⟨0, 0, 0⟩])).2 = 0) (h2 : wi F 0 6 = true) (h : T3R W a' n' (s ++ [⟨0, 0, 0⟩])) => by
    have := responseAt_any (s ++ [⟨0, 0, 0⟩]) F a' n' c' W h
    rw [show rspE (s ++ [⟨0, 0, 0⟩]) F = 0 by rw [rspE_cases, h1, h2]; rfl, gPr_longer] at this
    exact this)
  have HE1 := Lib.hid (rspE_cases s F)
  have HE2 := Lib.hid (rsoE_cases s l)
  clear hs hl h5 h10
  obtain ⟨N1, N2, hN⟩ : ∃ N1 N2, netE s = (N1, N2) := ⟨_, _, rfl⟩
  rw [hN] at HK HRK HRR HR1 HR0 HE1 HE2
  clear hN
  simp only at HK HRK HRR HR1 HR0 HE1 HE2
  generalize (netE (s ++ [⟨0, 0, 0⟩])).2 = NL at *
  generalize rspE s F = RE at *
  generalize rsoE s l = SO at *
  generalize freE l = FE at *
  generalize wi F 0 6 = WF at *
  generalize l.map (gPr s) = L at *
  obtain ⟨P1, P2, hP⟩ : ∃ P1 P2, gPr s F = (P1, P2) := ⟨_, _, rfl⟩
  rw [hP] at HRA HR1 HRL
  clear hP
  simp only at HRA HR1 HRL
  obtain ⟨G1, hG1⟩ : ∃ G1 : Int, G1 = if RE = 0 then P1 else 0 := ⟨_, rfl⟩
  obtain ⟨G2, hG2⟩ : ∃ G2 : Int, G2 = if RE = 0 then P2 else 0 := ⟨_, rfl⟩
  rw [← hG1, ← hG2] at HRA
  have HG1 := Lib.hid hG1
  have HG2 := Lib.hid hG2
  clear hG1 hG2
  obtain ⟨X0, hX0⟩ : ∃ X, X = w.heap.size := ⟨_, rfl⟩
  have HX0 := Lib.hid hX0
  clear hX0
  go_enter Tryz.func5, Tryz.ntmps5
  go_wp2_with fail
  rw [← HX0.out]
  generalize hW : World.alloc _ _ = w4
  have hb4 : Below w.heap.size w w4 := by rw [← hW]; (repeat' (first | (with_reducible exact Below.refl _ _) | (with_reducible assumption) | (with_reducible refine Below.drewN ?_ _) | (with_reducible refine Below.alloc ?_ ?_ _) | (with_reducible refine Below.drew ?_) | (with_reducible refine Below.setCell ?_ ?_ _) | (with_reducible refine Below.step (by assumption) ?_ ?_) | (with_reducible exact And.left (by assumption)) | go_size))
  have q0 : w4.cell? ⟨X0, 0, none⟩ = some (.slice a n c) := by { rw [← hW, HX0.out]; clear hW; go_simp }
  have l0 : X0 < w4.heap.size := by { rw [← hW, HX0.out]; clear hW; simp }
  have HB := Lib.hid hb4
  clear hW hb4
  refine (awake9_any _).mono ?_
  rintro e5 w5 ⟨rfl, hb5⟩
  have hzx := hb5.size
  have q1 : w5.cell? ⟨X0, 0, none⟩ = some (.slice a n c) := by { rw [cellB hb5 _ _ (by first | (simp; done) | (simp; omega) | omega)]; all_goals (first | assumption | go_simp) }; have l1 : X0 < w5.heap.size := by { omega }
  have HB := Lib.hid (HB.out.trans (hb5.mono HB.out.size))
  clear q0 l0 hzx
  clear hb5
  go_wp2_with fail
  refine (HF.out _).mono ?_
  rintro e6 w6 ⟨rfl, hb6⟩
  have hzx := hb6.size
  have q0 : w6.cell? ⟨X0, 0, none⟩ = some (.slice a n c) := by { rw [cellB hb6 _ _ (by first | (simp; done) | (simp; omega) | omega)]; all_goals (first | assumption | go_simp) }; have l0 : X0 < w6.heap.size := by { omega }
  have HB := Lib.hid (HB.out.trans (hb6.mono HB.out.size))
  clear q1 l1 hzx
  clear hb6
  go_wp2_with fail
  refine (HCN.out _ HB.out).mono ?_
  rintro e7 w7 ⟨a7, c7, rfl, hb7, ho7⟩
  have hzx := hb7.size
  have q1 : w7.cell? ⟨X0, 0, none⟩ = some (.slice a n c) := by { rw [cellB hb7 _ _ (by first | (simp; done) | (simp; omega) | omega)]; all_goals (first | assumption | go_simp) }; have l1 : X0 < w7.heap.size := by { omega }
  have HB := Lib.hid (HB.out.trans (hb7.mono HB.out.size))
  clear q0 l0 hzx
  have ht7 : T3R w7 a7 n s := ER.of_owns HSN.out ho7
  clear hb7 ho7
  go_wp2_with fail
  refine (HK.out a7 c7 _ ht7).mono ?_
  rintro e8 w8 ⟨rfl, hb8⟩
  have hzx := hb8.size
  have q0 : w8.cell? ⟨X0, 0, none⟩ = some (.slice a n c) := by { rw [cellB hb8 _ _ (by first | (simp; done) | (simp; omega) | omega)]; all_goals (first | assumption | go_simp) }; have l0 : X0 < w8.heap.size := by { omega }
  have HB := Lib.hid (HB.out.trans (hb8.mono HB.out.size))
  clear q1 l1 hzx
  clear hb8 ht7
  go_wp2_with fail
  refine (HCN.out _ HB.out).mono ?_
  rintro e9 w9 ⟨a9, c9, rfl, hb9, ho9⟩
  have hzx := hb9.size
  have q1 : w9.cell? ⟨X0, 0, none⟩ = some (.slice a n c) := by { rw [cellB hb9 _ _ (by first | (simp; done) | (simp; omega) | omega)]; all_goals (first | assumption | go_simp) }; have l1 : X0 < w9.heap.size := by { omega }
  have HB := Lib.hid (HB.out.trans (hb9.mono HB.out.size))
  clear q0 l0 hzx
  have ht9 : T3R w9 a9 n s := ER.of_owns HSN.out ho9
  clear hb9 ho9
  go_wp2_with fail
  refine (HRA.out a9 c9 _ ht9).mono ?_
  rintro e10 wa ⟨rfl, hba⟩
  have hzx := hba.size
  have q0 : wa.cell? ⟨X0, 0, none⟩ = some (.slice a n c) := by { rw [cellB hba _ _ (by first | (simp; done) | (simp; omega) | omega)]; all_goals (first | assumption | go_simp) }; have l0 : X0 < wa.heap.size := by { omega }
  have HB := Lib.hid (HB.out.trans (hba.mono HB.out.size))
  clear q1 l1 hzx
  clear hba ht9
  go_wp2_with fail
  generalize hW : World.alloc _ _ = wb
  obtain ⟨X9, hX9⟩ : ∃ X, X = wa.heap.size := ⟨_, rfl⟩
  have hbb : Below wa.heap.size wa wb := by rw [← hW]; (repeat' (first | (with_reducible exact Below.refl _ _) | (with_reducible assumption) | (with_reducible refine Below.drewN ?_ _) | (with_reducible refine Below.alloc ?_ ?_ _) | (with_reducible refine Below.drew ?_) | (with_reducible refine Below.setCell ?_ ?_ _) | (with_reducible refine Below.step (by assumption) ?_ ?_) | (with_reducible exact And.left (by assumption)) | go_size))
  have t1 : wb.cell? ⟨wa.heap.size, 0, none⟩ = some (.int .i64 G1) := by { rw [← hW]; clear hW; go_simp }
  have r1 : wb.cell? ⟨wa.heap.size, 1, none⟩ = some (.int .i64 G2) := by { rw [← hW]; clear hW; go_simp }
  have m1 : wa.heap.size < wb.heap.size := by { rw [← hW]; clear hW; simp }
  rw [← hX9] at t1 r1 m1 ⊢
  have hzx := hbb.size
  have q1 : wb.cell? ⟨X0, 0, none⟩ = some (.slice a n c) := by { rw [cellB hbb _ _ (by first | (simp; done) | (simp; omega) | omega)]; all_goals (first | assumption | go_simp) }; have l1 : X0 < wb.heap.size := by { omega }
  have HB := Lib.hid (HB.out.trans (hbb.mono HB.out.size))
  clear q0 l0 hzx
  clear hbb hW hX9
  refine (HCN.out _ HB.out).mono ?_
  rintro e11 wc ⟨a11, c11, rfl, hbc, ho11⟩
  have hzx := hbc.size
  have q0 : wc.cell? ⟨X0, 0, none⟩ = some (.slice a n c) := by { rw [cellB hbc _ _ (by first | (simp; done) | (simp; omega) | omega)]; all_goals (first | assumption | go_simp) }; have l0 : X0 < wc.heap.size := by { omega }; have t0 : wc.cell? ⟨X9, 0, none⟩ = some (.int .i64 G1) := by { rw [cellB hbc _ _ (by first | (simp; done) | (simp; omega) | omega)]; all_goals (first | assumption | go_simp) }; have r0 : wc.cell? ⟨X9, 1, none⟩ = some (.int .i64 G2) := by { rw [cellB hbc _ _ (by first | (simp; done) | (simp; omega) | omega)]; all_goals (first | assumption | go_simp) }; have m0 : X9 < wc.heap.size := by { omega }
  have HB := Lib.hid (HB.out.trans (hbc.mono HB.out.size))
  clear q1 l1 t1 r1 m1 hzx
  have ht11 : T3R wc a11 n s := ER.of_owns HSN.out ho11
  clear hbc ho11
  go_wp2_with fail
  refine (HCI.out _ HB.out).mono ?_
  rintro e12 wd ⟨a12, c12, rfl, hbd, ho12⟩
  have hzx := hbd.size
  have q1 : wd.cell? ⟨X0, 0, none⟩ = some (.slice a n c) := by { rw [cellB hbd _ _ (by first | (simp; done) | (simp; omega) | omega)]; all_goals (first | assumption | go_simp) }; have l1 : X0 < wd.heap.size := by { omega }; have t1 : wd.cell? ⟨X9, 0, none⟩ = some (.int .i64 G1) := by { rw [cellB hbd _ _ (by first | (simp; done) | (simp; omega) | omega)]; all_goals (first | assumption | go_simp) }; have r1 : wd.cell? ⟨X9, 1, none⟩ = some (.int .i64 G2) := by { rw [cellB hbd _ _ (by first | (simp; done) | (simp; omega) | omega)]; all_goals (first | assumption | go_simp) }; have m1 : X9 < wd.heap.size := by { omega }
  have HB := Lib.hid (HB.out.trans (hbd.mono HB.out.size))
  clear q0 l0 t0 r0 m0 hzx
  have ht11 := ht11.below hbd
  have ht12 : IntsR wd a12 m l := SlR.of_owns ho12
  clear hbd ho12
  go_wp2_with fail
  refine (HRO.out a11 a12 c11 c12 _ ht11 ht12).mono ?_
  rintro e13 we ⟨a13, k13, c13, rfl, hbe, ht13⟩
  have hzx := hbe.size
  have q0 : we.cell? ⟨X0, 0, none⟩ = some (.slice a n c) := by { rw [cellB hbe _ _ (by first | (simp; done) | (simp; omega) | omega)]; all_goals (first | assumption | go_simp) }; have l0 : X0 < we.heap.size := by { omega }; have t0 : we.cell? ⟨X9, 0, none⟩ = some (.int .i64 G1) := by { rw [cellB hbe _ _ (by first | (simp; done) | (simp; omega) | omega)]; all_goals (first | assumption | go_simp) }; have r0 : we.cell? ⟨X9, 1, none⟩ = some (.int .i64 G2) := by { rw [cellB hbe _ _ (by first | (simp; done) | (simp; omega) | omega)]; all_goals (first | assumption | go_simp) }; have m0 : X9 < we.heap.size := by { omega }
  have HB := Lib.hid (HB.out.trans (hbe.mono HB.out.size))
  clear q1 l1 t1 r1 m1 hzx
  have HT := Lib.hid ht13
  clear hbe ht11 ht12 ht13
  go_wp2_with fail
  refine (HRK.out _ HB.out).mono ?_
  rintro e14 wf ⟨rfl, hbf⟩
  have hzx := hbf.size
  have q1 : wf.cell? ⟨X0, 0, none⟩ = some (.slice a n c) := by { rw [cellB hbf _ _ (by first | (simp; done) | (simp; omega) | omega)]; all_goals (first | assumption | go_simp) }; have l1 : X0 < wf.heap.size := by { omega }; have t1 : wf.cell? ⟨X9, 0, none⟩ = some (.int .i64 G1) := by { rw [cellB hbf _ _ (by first | (simp; done) | (simp; omega) | omega)]; all_goals (first | assumption | go_simp) }; have r1 : wf.cell? ⟨X9, 1, none⟩ = some (.int .i64 G2) := by { rw [cellB hbf _ _ (by first | (simp; done) | (simp; omega) | omega)]; all_goals (first | assumption | go_simp) }; have m1 : X9 < wf.heap.size := by { omega }
  have HB := Lib.hid (HB.out.trans (hbf.mono HB.out.size))
  clear q0 l0 t0 r0 m0 hzx
  have HT := Lib.hid (HT.out.below hbf)
  clear hbf
  by_cases h1 : N2 = 0
  · subst h1
    have hE1 := HE1.out
    have hE2 := HE2.out
    rw [if_neg (by decide)] at hE1 hE2
    subst hE2
    have HRRa := Lib.hid (HRR.out (by first | rfl | trivial))
    have HR1a := Lib.hid (HR1.out (by first | rfl | trivial))
    have HR0a := Lib.hid (fun (a' : Option Addr) (c' : Nat) (W : World) (h : T3R W a' n s) => HR0.out a' c' W (by first | rfl | trivial) h)
    clear HE2 HRR HR1 HR0
    have HE1 := Lib.hid hE1
    clear hE1
    go_wp2_with fail
    refine (HFE.out _ HB.out).mono ?_
    rintro e15 wg ⟨rfl, hbg⟩
    have hzx := hbg.size
    have q0 : wg.cell? ⟨X0, 0, none⟩ = some (.slice a n c) := by { rw [cellB hbg _ _ (by first | (simp; done) | (simp; omega) | omega)]; all_goals (first | assumption | go_simp) }; have l0 : X0 < wg.heap.size := by { omega }; have t0 : wg.cell? ⟨X9, 0, none⟩ = some (.int .i64 G1) := by { rw [cellB hbg _ _ (by first | (simp; done) | (simp; omega) | omega)]; all_goals (first | assumption | go_simp) }; have r0 : wg.cell? ⟨X9, 1, none⟩ = some (.int .i64 G2) := by { rw [cellB hbg _ _ (by first | (simp; done) | (simp; omega) | omega)]; all_goals (first | assumption | go_simp) }; have m0 : X9 < wg.heap.size := by { omega }
    have HB := Lib.hid (HB.out.trans (hbg.mono HB.out.size))
    clear q1 l1 t1 r1 m1 hzx
    have HT := Lib.hid (HT.out.below hbg)
    clear hbg
    by_cases h2 : SO = 0
    · subst h2
      have HRRb := Lib.hid (HRRa.out (by first | rfl | trivial))
      clear HRRa
      go_wp2_with fail
      refine (HRRb.out _ HB.out).mono ?_
      rintro e16 wh ⟨a16, c16, rfl, hbh, ht16⟩
      have hzx := hbh.size
      have q1 : wh.cell? ⟨X0, 0, none⟩ = some (.slice a n c) := by { rw [cellB hbh _ _ (by first | (simp; done) | (simp; omega) | omega)]; all_goals (first | assumption | go_simp) }; have l1 : X0 < wh.heap.size := by { omega }; have t1 : wh.cell? ⟨X9, 0, none⟩ = some (.int .i64 G1) := by { rw [cellB hbh _ _ (by first | (simp; done) | (simp; omega) | omega)]; all_goals (first | assumption | go_simp) }; have r1 : wh.cell? ⟨X9, 1, none⟩ = some (.int .i64 G2) := by { rw [cellB hbh _ _ (by first | (simp; done) | (simp; omega) | omega)]; all_goals (first | assumption | go_simp) }; have m1 : X9 < wh.heap.size := by { omega }
      have HB := Lib.hid (HB.out.trans (hbh.mono HB.out.size))
      clear q0 l0 t0 r0 m0 hzx
      have HT := Lib.hid (HT.out.below hbh)
      clear hbh
      go_wp2_with fail
      have hT := HT.out
      rw [if_pos (by first | rfl | trivial)] at hT
      refine (gausses_any _ _ _ _ _ _ _ _ _ hT ht16).mono ?_
      rintro e17 wi ⟨he, nd, hw⟩
      rw [decide_eq_true (by rfl)] at he
      subst he
      have hbi : Below wh.heap.size wh wi := by rw [hw]; exact (Below.refl _ _).drewN _
      have hzx := hbi.size
      have q0 : wi.cell? ⟨X0, 0, none⟩ = some (.slice a n c) := by { rw [cellB hbi _ _ (by first | (simp; done) | (simp; omega) | omega)]; all_goals (first | assumption | go_simp) }; have l0 : X0 < wi.heap.size := by { omega }; have t0 : wi.cell? ⟨X9, 0, none⟩ = some (.int .i64 G1) := by { rw [cellB hbi _ _ (by first | (simp; done) | (simp; omega) | omega)]; all_goals (first | assumption | go_simp) }; have r0 : wi.cell? ⟨X9, 1, none⟩ = some (.int .i64 G2) := by { rw [cellB hbi _ _ (by first | (simp; done) | (simp; omega) | omega)]; all_goals (first | assumption | go_simp) }; have m0 : X9 < wi.heap.size := by { omega }
      have HB := Lib.hid (HB.out.trans (hbi.mono HB.out.size))
      clear q1 l1 t1 r1 m1 hzx
      clear hbi hw hT ht16 HT
      go_wp2_with fail
      refine (HIF.out _).mono ?_
      rintro e18 wk ⟨rfl, rfl⟩
      have hE1 := HE1.out
      have hG1 := HG1.out
      have hG2 := HG2.out
      cases WF
      · rw [if_neg (by decide)] at hE1
        subst hE1
        rw [if_neg (by decide)] at hG1 hG2
        subst hG1 hG2
        go_wp2
        go_ret
        exact ⟨ret_bool (by simp), HB.out⟩
      · rw [if_pos (by rfl)] at hE1
        subst hE1
        rw [if_pos (by rfl)] at hG1 hG2
        subst hG1 hG2
        have HR1b := Lib.hid (HR1a.out (by first | rfl | trivial))
        have HRLb := Lib.hid (fun (a' : Option Addr) (n' c' : Nat) (W : World) (h1 : NL = 0) (h : T3R W a' n' (s ++ [⟨0, 0, 0⟩])) => HRL.out a' n' c' W h1 (by first | rfl | trivial) h)
        clear HE1 HG1 HG2 HR1a HRL
        go_wp2_with fail
        refine wp_region_laterM (B := wi.heap.size) [(true, 0), (true, 1), (true, 2), (true, 3), (true, 4), (true, 5), (false, 6), (true, 7), (true, 8)] (by kernel_rfl) (by kernel_rfl) ?_; simp only [opsOf, List.filterMap_cons, List.filterMap_nil, List.getElem?_toArray, List.getElem?_cons_zero, List.getElem?_cons_succ, Option.map_some]
        repeat (refine mix_head ?_; (show wpQuiet _ _ _ _ (_ :: _) _; go_big_quiet_step (fail)); refine wpQuiet_nil ?_)
        refine mix_tail ?_; go_wp2_with fail
        refine (HR1b.out _ HB.out.drew).mono ?_
        rintro e19 wl ⟨rfl, hbl⟩
        have HX := Lib.hid ((Below.refl wi.heap.size wi).drew.trans hbl)
        clear hbl
        go_wp2_with fail
        refine tailL_mk HX.out ?_
        repeat (refine mix_head ?_; (show wpQuiet _ _ _ _ (_ :: _) _; go_big_quiet_step (fail)); refine wpQuiet_nil ?_)
        refine mix_nil ?_
        have hbx := HX.out
        have hzx := hbx.size
        have q1 : wl.cell? ⟨X0, 0, none⟩ = some (.slice a n c) := by { rw [cellB hbx _ _ (by first | (simp; done) | (simp; omega) | omega)]; all_goals (first | assumption | go_simp) }; have l1 : X0 < wl.heap.size := by { omega }; have t1 : wl.cell? ⟨X9, 0, none⟩ = some (.int .i64 G1) := by { rw [cellB hbx _ _ (by first | (simp; done) | (simp; omega) | omega)]; all_goals (first | assumption | go_simp) }; have r1 : wl.cell? ⟨X9, 1, none⟩ = some (.int .i64 G2) := by { rw [cellB hbx _ _ (by first | (simp; done) | (simp; omega) | omega)]; all_goals (first | assumption | go_simp) }; have m1 : X9 < wl.heap.size := by { omega }
        have HB := Lib.hid (HB.out.trans (hbx.mono HB.out.size))
        clear q0 l0 t0 r0 m0 hzx
        clear hbx HX
        go_wp2_with fail
        refine (HCN.out _ HB.out).mono ?_
        rintro e20 wm ⟨a20, c20, rfl, hbm, ho20⟩
        have hzx := hbm.size
        have q0 : wm.cell? ⟨X0, 0, none⟩ = some (.slice a n c) := by { rw [cellB hbm _ _ (by first | (simp; done) | (simp; omega) | omega)]; all_goals (first | assumption | go_simp) }; have l0 : X0 < wm.heap.size := by { omega }; have t0 : wm.cell? ⟨X9, 0, none⟩ = some (.int .i64 G1) := by { rw [cellB hbm _ _ (by first | (simp; done) | (simp; omega) | omega)]; all_goals (first | assumption | go_simp) }; have r0 : wm.cell? ⟨X9, 1, none⟩ = some (.int .i64 G2) := by { rw [cellB hbm _ _ (by first | (simp; done) | (simp; omega) | omega)]; all_goals (first | assumption | go_simp) }; have m0 : X9 < wm.heap.size := by { omega }
        have HB := Lib.hid (HB.out.trans (hbm.mono HB.out.size))
        clear q1 l1 t1 r1 m1 hzx
        have ht20 : T3R wm a20 n s := ER.of_owns HSN.out ho20
        clear hbm ho20
        go_wp2_with fail
        refine (HR0a.out a20 c20 _ ht20).mono ?_
        rintro e21 wn ⟨rfl, hbn⟩
        have hzx := hbn.size
        have q1 : wn.cell? ⟨X0, 0, none⟩ = some (.slice a n c) := by { rw [cellB hbn _ _ (by first | (simp; done) | (simp; omega) | omega)]; all_goals (first | assumption | go_simp) }; have l1 : X0 < wn.heap.size := by { omega }; have t1 : wn.cell? ⟨X9, 0, none⟩ = some (.int .i64 G1) := by { rw [cellB hbn _ _ (by first | (simp; done) | (simp; omega) | omega)]; all_goals (first | assumption | go_simp) }; have r1 : wn.cell? ⟨X9, 1, none⟩ = some (.int .i64 G2) := by { rw [cellB hbn _ _ (by first | (simp; done) | (simp; omega) | omega)]; all_goals (first | assumption | go_simp) }; have m1 : X9 < wn.heap.size := by { omega }
        have HB := Lib.hid (HB.out.trans (hbn.mono HB.out.size))
        clear q0 l0 t0 r0 m0 hzx
        clear hbn ht20
        go_wp2_with fail
        generalize hW : World.alloc _ _ = wo
        obtain ⟨XA, hXA⟩ : ∃ X, X = wn.heap.size := ⟨_, rfl⟩
        have hbo : Below wn.heap.size wn wo := by rw [← hW]; (repeat' (first | (with_reducible exact Below.refl _ _) | (with_reducible assumption) | (with_reducible refine Below.drewN ?_ _) | (with_reducible refine Below.alloc ?_ ?_ _) | (with_reducible refine Below.drew ?_) | (with_reducible refine Below.setCell ?_ ?_ _) | (with_reducible refine Below.step (by assumption) ?_ ?_) | (with_reducible exact And.left (by assumption)) | go_size))
        have v0 : wo.cell? ⟨wn.heap.size, 0, none⟩ = some (.int .i64 1) := by { rw [← hW]; clear hW; go_simp }
        have v1 : wo.cell? ⟨wn.heap.size, 1, none⟩ = some (.int .i64 0) := by { rw [← hW]; clear hW; go_simp }
        have lv : wn.heap.size < wo.heap.size := by { rw [← hW]; clear hW; simp }
        rw [← hXA] at v0 v1 lv ⊢
        have hzx := hbo.size
        have q0 : wo.cell? ⟨X0, 0, none⟩ = some (.slice a n c) := by { rw [cellB hbo _ _ (by first | (simp; done) | (simp; omega) | omega)]; all_goals (first | assumption | go_simp) }; have l0 : X0 < wo.heap.size := by { omega }; have t0 : wo.cell? ⟨X9, 0, none⟩ = some (.int .i64 G1) := by { rw [cellB hbo _ _ (by first | (simp; done) | (simp; omega) | omega)]; all_goals (first | assumption | go_simp) }; have r0 : wo.cell? ⟨X9, 1, none⟩ = some (.int .i64 G2) := by { rw [cellB hbo _ _ (by first | (simp; done) | (simp; omega) | omega)]; all_goals (first | assumption | go_simp) }; have m0 : X9 < wo.heap.size := by { omega }
        have HB := Lib.hid (HB.out.trans (hbo.mono HB.out.size))
        clear q1 l1 t1 r1 m1 hzx
        clear hbo hW hXA
        have HBW := HB
        have lo : X0 < wo.heap.size := l0
        have mo : X9 < wo.heap.size := m0
        have vo : XA < wo.heap.size := lv
        refine (HCN.out _ HB.out).mono ?_
        rintro e22 wp ⟨a22, c22, rfl, hbp, ho22⟩
        have hzx := hbp.size
        have q1 : wp.cell? ⟨X0, 0, none⟩ = some (.slice a n c) := by { rw [cellB hbp _ _ (by first | (simp; done) | (simp; omega) | omega)]; all_goals (first | assumption | go_simp) }; have l1 : X0 < wp.heap.size := by { omega }; have t1 : wp.cell? ⟨X9, 0, none⟩ = some (.int .i64 G1) := by { rw [cellB hbp _ _ (by first | (simp; done) | (simp; omega) | omega)]; all_goals (first | assumption | go_simp) }; have r1 : wp.cell? ⟨X9, 1, none⟩ = some (.int .i64 G2) := by { rw [cellB hbp _ _ (by first | (simp; done) | (simp; omega) | omega)]; all_goals (first | assumption | go_simp) }; have m1 : X9 < wp.heap.size := by { omega }
        have HB := Lib.hid (HB.out.trans (hbp.mono HB.out.size))
        clear q0 l0 t0 r0 m0 hzx
        have v0p : wp.cell? ⟨XA, 0, none⟩ = some (.int .i64 1) := by { rw [cellB hbp _ _ (by first | (simp; done) | (simp; omega) | omega)]; all_goals (first | assumption | go_simp) }; have v1p : wp.cell? ⟨XA, 1, none⟩ = some (.int .i64 0) := by { rw [cellB hbp _ _ (by first | (simp; done) | (simp; omega) | omega)]; all_goals (first | assumption | go_simp) }
        have lvp : XA < wp.heap.size := by have := hbp.size; omega
        have HO := Lib.hid ho22
        have HBO := Lib.hid hbp.size
        clear hbp ho22 v0 v1 lv
        have hn5 : n ≤ 5 := HN5.out
        go_wp2_with (at_builtin; refine wpList_append_slo _ rfl _ _ 45 rfl wo.heap.size 76 _ 3 24 Tryz.underlying45 infoSec rfl (by omega) (.slice a22 n c22) n _ rfl ((HO.out.alloc _).alloc _) _ 1 1 (by omega) [.int .i64 0, .int .i64 0, .int .i64 0] rfl (SlR.lit _ _ _ _ _ 1 3 (by rfl) (by simp) rfl (by omega)) (by simp [Value.oneCell']) (by omega) (by omega) (by have := HBO.out; simp; omega) ?_)
        intro v2 w2 hown2 hg2 hne2 hb2
        obtain ⟨a23, c23, rfl, _, _⟩ := owns_slice hown2
        have hnx : some wp.heap.size ≠ (Value.slice a22 n c22).ownBlock := fun e => absurd (HO.out.lt _ e.symm).2 (Nat.lt_irrefl _)
        have k0 : w2.cell? ⟨wp.heap.size, 0, none⟩ = some (.slice a22 n c22) := by { rw [hg2.cell_far ⟨wp.heap.size, 0, none⟩ (by simp; omega) hnx]; go_simp }
        have k1 : w2.frozen? ⟨wp.heap.size, 0, none⟩ = false := by { rw [hg2.frozen_far ⟨wp.heap.size, 0, none⟩ (by simp; omega) hnx]; go_simp }
        have hnz : (Value.slice a23 (n + 1) c23).ownBlock ≠ some wp.heap.size := by
          rcases hne2 with h | h
          · rw [h]; exact fun e => hnx e.symm
          · rw [h]; simp; omega
        have HB2 := Lib.hid (show Below w.heap.size w w2 from ((HB.out.alloc HB.out.size _).alloc (by have := HB.out.size; simp; omega) _).trans (hb2.mono HBW.out.size))
        have q2 : w2.cell? ⟨X0, 0, none⟩ = some (.slice a n c) := by { rw [cellB hb2 _ _ (by first | (simp; done) | (simp; omega) | omega)]; all_goals (first | assumption | go_simp) }; have t2 : w2.cell? ⟨X9, 0, none⟩ = some (.int .i64 G1) := by { rw [cellB hb2 _ _ (by first | (simp; done) | (simp; omega) | omega)]; all_goals (first | assumption | go_simp) }; have r2 : w2.cell? ⟨X9, 1, none⟩ = some (.int .i64 G2) := by { rw [cellB hb2 _ _ (by first | (simp; done) | (simp; omega) | omega)]; all_goals (first | assumption | go_simp) }; have v2a : w2.cell? ⟨XA, 0, none⟩ = some (.int .i64 1) := by { rw [cellB hb2 _ _ (by first | (simp; done) | (simp; omega) | omega)]; all_goals (first | assumption | go_simp) }; have v2b : w2.cell? ⟨XA, 1, none⟩ = some (.int .i64 0) := by { rw [cellB hb2 _ _ (by first | (simp; done) | (simp; omega) | omega)]; all_goals (first | assumption | go_simp) }
        have hz2 := hb2.size
        simp only [World.size_alloc] at hz2
        have l2 : X0 < w2.heap.size := by omega
        have m2 : X9 < w2.heap.size := by omega
        have va2 : XA < w2.heap.size := by omega
        have x2 : wp.heap.size < w2.heap.size := by omega
        have HO2 := Lib.hid hown2
        have HNZ := Lib.hid hnz
        have HHO := Lib.hid HBO.out
        clear hb2 hown2 hg2 hne2 hnx hnz q1 l1 t1 r1 m1 v0p v1p lvp HO HBO hz2
        obtain ⟨XB, hXB⟩ : ∃ X, X = wp.heap.size := ⟨_, rfl⟩
        rw [← hXB] at k0 k1 x2 HNZ HHO ⊢
        clear hXB
        have ne1 : ¬ XA = XB := by have := HHO.out; omega
        have ne2 : ¬ XB = XA := by have := HHO.out; omega
        have ne3 : ¬ X9 = XB := by have := HHO.out; omega
        have ne4 : ¬ XB = X9 := by have := HHO.out; omega
        go_wp2_with fail
        generalize hW : World.setCell _ _ _ = w3
        have HB3 := Lib.hid (show Below w.heap.size w w3 by { rw [← hW]; have := HB2.out; have := HBW.out.size; have := HHO.out; (repeat' (first | (with_reducible exact Below.refl _ _) | (with_reducible assumption) | (with_reducible refine Below.drewN ?_ _) | (with_reducible refine Below.alloc ?_ ?_ _) | (with_reducible refine Below.drew ?_) | (with_reducible refine Below.setCell ?_ ?_ _) | (with_reducible refine Below.step (by assumption) ?_ ?_) | (with_reducible exact And.left (by assumption)) | go_size)) })
        have t3 : w3.cell? ⟨X9, 0, none⟩ = some (.int .i64 G1) := by { rw [← hW]; clear hW; go_simp }
        have r3 : w3.cell? ⟨X9, 1, none⟩ = some (.int .i64 G2) := by { rw [← hW]; clear hW; go_simp }
        have k3 : w3.cell? ⟨XB, 0, none⟩ = some (.slice a23 (n + 1) c23) := by { rw [← hW]; clear hW; go_simp }
        have m3 : X9 < w3.heap.size := by { rw [← hW]; clear hW; simp; omega }
        have x3 : XB < w3.heap.size := by { rw [← hW]; clear hW; simp; omega }
        have HT3 := Lib.hid (show T3R w3 a23 (n + 1) (s ++ [⟨0, 0, 0⟩]) from ER.of_owns (by have := HSN.out; simp; omega) (by rw [← hW, ecells_append]; exact ownsRow_setCell_other HO2.out (a := ⟨XB, 0, none⟩) HNZ.out _))
        clear hW HO2 HNZ q2 t2 r2 v2a v2b l2 m2 va2 x2 k0 k1 ne1 ne2 ne3 ne4 lo mo vo HHO HBW HB2 HB
        refine (HNL.out a23 (n + 1) c23 _ HT3.out).mono ?_
        rintro e24 w4 ⟨rfl, hb4⟩
        have hz4 := hb4.size
        have t4 : w4.cell? ⟨X9, 0, none⟩ = some (.int .i64 G1) := by { rw [cellB hb4 _ _ (by first | (simp; done) | (simp; omega) | omega)]; all_goals (first | assumption | go_simp) }; have r4 : w4.cell? ⟨X9, 1, none⟩ = some (.int .i64 G2) := by { rw [cellB hb4 _ _ (by first | (simp; done) | (simp; omega) | omega)]; all_goals (first | assumption | go_simp) }; have k4 : w4.cell? ⟨XB, 0, none⟩ = some (.slice a23 (n + 1) c23) := by { rw [cellB hb4 _ _ (by first | (simp; done) | (simp; omega) | omega)]; all_goals (first | assumption | go_simp) }; have m4 : X9 < w4.heap.size := by { omega }; have x4 : XB < w4.heap.size := by { omega }
        have HB4 := Lib.hid (HB3.out.trans (hb4.mono HB3.out.size))
        have HT4 := Lib.hid (HT3.out.below hb4)
        clear hb4 hz4 t3 r3 k3 m3 x3 HT3 HB3
        by_cases hNL : NL = 0
        · have HRLc := Lib.hid (fun (a' : Option Addr) (n' c' : Nat) (W : World) (h : T3R W a' n' (s ++ [⟨0, 0, 0⟩])) => HRLb.out a' n' c' W hNL h)
          subst hNL
          clear HRLb
          rw [if_pos (by first | rfl | trivial), if_pos (by first | rfl | trivial)] at HRLc
          go_wp2_with fail
          refine (HRLc.out a23 (n + 1) c23 _ HT4.out).mono ?_
          rintro e25 w5 ⟨rfl, hb5⟩
          have hz5 := hb5.size
          have t5 : w5.cell? ⟨X9, 0, none⟩ = some (.int .i64 G1) := by { rw [cellB hb5 _ _ (by first | (simp; done) | (simp; omega) | omega)]; all_goals (first | assumption | go_simp) }; have r5 : w5.cell? ⟨X9, 1, none⟩ = some (.int .i64 G2) := by { rw [cellB hb5 _ _ (by first | (simp; done) | (simp; omega) | omega)]; all_goals (first | assumption | go_simp) }; have m5 : X9 < w5.heap.size := by { omega }
          have HB5 := Lib.hid (HB4.out.trans (hb5.mono HB4.out.size))
          clear hb5 hz5 t4 r4 k4 m4 x4 HT4 HB4
          go_wp2
          go_ret
          exact ⟨ret_bool (by simp), HB5.out.alloc HB5.out.size _⟩
        · have e5 : (NL != 0) = true := by simpa using hNL
          clear hNL
          go_wp2
          go_ret
          exact ⟨ret_bool (by simp), HB4.out⟩
    · have e3 : (SO != 0) = true := by simpa using h2
      have e4 : (SO == 0) = false := by simpa using h2
      have hT := HT.out
      rw [if_neg h2] at hT
      have hk : k13 = 0 := by have := hT.len; simpa using this.symm
      subst hk
      clear hT HT h2
      go_wp2_with fail
      refine (HIF.out _).mono ?_
      rintro e18 wk ⟨rfl, rfl⟩
      have hE1 := HE1.out
      have hG1 := HG1.out
      have hG2 := HG2.out
      cases WF
      · rw [if_neg (by decide)] at hE1
        subst hE1
        rw [if_neg (by decide)] at hG1 hG2
        subst hG1 hG2
        go_wp2
        go_ret
        exact ⟨ret_bool (by simp), HB.out⟩
      · rw [if_pos (by rfl)] at hE1
        subst hE1
        rw [if_pos (by rfl)] at hG1 hG2
        subst hG1 hG2
        have HR1b := Lib.hid (HR1a.out (by first | rfl | trivial))
        have HRLb := Lib.hid (fun (a' : Option Addr) (n' c' : Nat) (W : World) (h1 : NL = 0) (h : T3R W a' n' (s ++ [⟨0, 0, 0⟩])) => HRL.out a' n' c' W h1 (by first | rfl | trivial) h)
        clear HE1 HG1 HG2 HR1a HRL
        go_wp2_with fail
        refine wp_region_laterM (B := wg.heap.size) [(true, 0), (true, 1), (true, 2), (true, 3), (true, 4), (true, 5), (false, 6), (true, 7), (true, 8)] (by kernel_rfl) (by kernel_rfl) ?_; simp only [opsOf, List.filterMap_cons, List.filterMap_nil, List.getElem?_toArray, List.getElem?_cons_zero, List.getElem?_cons_succ, Option.map_some]
        repeat (refine mix_head ?_; (show wpQuiet _ _ _ _ (_ :: _) _; go_big_quiet_step (fail)); refine wpQuiet_nil ?_)
        refine mix_tail ?_; go_wp2_with fail
        refine (HR1b.out _ HB.out.drew).mono ?_
        rintro e19 wl ⟨rfl, hbl⟩
        have HX := Lib.hid ((Below.refl wg.heap.size wg).drew.trans hbl)
        clear hbl
        go_wp2_with fail
        refine tailL_mk HX.out ?_
        repeat (refine mix_head ?_; (show wpQuiet _ _ _ _ (_ :: _) _; go_big_quiet_step (fail)); refine wpQuiet_nil ?_)
        refine mix_nil ?_
        have hbx := HX.out
        have hzx := hbx.size
        have q1 : wl.cell? ⟨X0, 0, none⟩ = some (.slice a n c) := by { rw [cellB hbx _ _ (by first | (simp; done) | (simp; omega) | omega)]; all_goals (first | assumption | go_simp) }; have l1 : X0 < wl.heap.size := by { omega }; have t1 : wl.cell? ⟨X9, 0, none⟩ = some (.int .i64 G1) := by { rw [cellB hbx _ _ (by first | (simp; done) | (simp; omega) | omega)]; all_goals (first | assumption | go_simp) }; have r1 : wl.cell? ⟨X9, 1, none⟩ = some (.int .i64 G2) := by { rw [cellB hbx _ _ (by first | (simp; done) | (simp; omega) | omega)]; all_goals (first | assumption | go_simp) }; have m1 : X9 < wl.heap.size := by { omega }
        have HB := Lib.hid (HB.out.trans (hbx.mono HB.out.size))
        clear q0 l0 t0 r0 m0 hzx
        clear hbx HX
        go_wp2_with fail
        refine (HCN.out _ HB.out).mono ?_
        rintro e20 wm ⟨a20, c20, rfl, hbm, ho20⟩
        have hzx := hbm.size
        have q0 : wm.cell? ⟨X0, 0, none⟩ = some (.slice a n c) := by { rw [cellB hbm _ _ (by first | (simp; done) | (simp; omega) | omega)]; all_goals (first | assumption | go_simp) }; have l0 : X0 < wm.heap.size := by { omega }; have t0 : wm.cell? ⟨X9, 0, none⟩ = some (.int .i64 G1) := by { rw [cellB hbm _ _ (by first | (simp; done) | (simp; omega) | omega)]; all_goals (first | assumption | go_simp) }; have r0 : wm.cell? ⟨X9, 1, none⟩ = some (.int .i64 G2) := by { rw [cellB hbm _ _ (by first | (simp; done) | (simp; omega) | omega)]; all_goals (first | assumption | go_simp) }; have m0 : X9 < wm.heap.size := by { omega }
        have HB := Lib.hid (HB.out.trans (hbm.mono HB.out.size))
        clear q1 l1 t1 r1 m1 hzx
        have ht20 : T3R wm a20 n s := ER.of_owns HSN.out ho20
        clear hbm ho20
        go_wp2_with fail
        refine (HR0a.out a20 c20 _ ht20).mono ?_
        rintro e21 wn ⟨rfl, hbn⟩
        have hzx := hbn.size
        have q1 : wn.cell? ⟨X0, 0, none⟩ = some (.slice a n c) := by { rw [cellB hbn _ _ (by first | (simp; done) | (simp; omega) | omega)]; all_goals (first | assumption | go_simp) }; have l1 : X0 < wn.heap.size := by { omega }; have t1 : wn.cell? ⟨X9, 0, none⟩ = some (.int .i64 G1) := by { rw [cellB hbn _ _ (by first | (simp; done) | (simp; omega) | omega)]; all_goals (first | assumption | go_simp) }; have r1 : wn.cell? ⟨X9, 1, none⟩ = some (.int .i64 G2) := by { rw [cellB hbn _ _ (by first | (simp; done) | (simp; omega) | omega)]; all_goals (first | assumption | go_simp) }; have m1 : X9 < wn.heap.size := by { omega }
        have HB := Lib.hid (HB.out.trans (hbn.mono HB.out.size))
        clear q0 l0 t0 r0 m0 hzx
        clear hbn ht20
        go_wp2_with fail
        generalize hW : World.alloc _ _ = wo
        obtain ⟨XA, hXA⟩ : ∃ X, X = wn.heap.size := ⟨_, rfl⟩
        have hbo : Below wn.heap.size wn wo := by rw [← hW]; (repeat' (first | (with_reducible exact Below.refl _ _) | (with_reducible assumption) | (with_reducible refine Below.drewN ?_ _) | (with_reducible refine Below.alloc ?_ ?_ _) | (with_reducible refine Below.drew ?_) | (with_reducible refine Below.setCell ?_ ?_ _) | (with_reducible refine Below.step (by assumption) ?_ ?_) | (with_reducible exact And.left (by assumption)) | go_size))
        have v0 : wo.cell? ⟨wn.heap.size, 0, none⟩ = some (.int .i64 1) := by { rw [← hW]; clear hW; go_simp }
        have v1 : wo.cell? ⟨wn.heap.size, 1, none⟩ = some (.int .i64 0) := by { rw [← hW]; clear hW; go_simp }
        have lv : wn.heap.size < wo.heap.size := by { rw [← hW]; clear hW; simp }
        rw [← hXA] at v0 v1 lv ⊢
        have hzx := hbo.size
        have q0 : wo.cell? ⟨X0, 0, none⟩ = some (.slice a n c) := by { rw [cellB hbo _ _ (by first | (simp; done) | (simp; omega) | omega)]; all_goals (first | assumption | go_simp) }; have l0 : X0 < wo.heap.size := by { omega }; have t0 : wo.cell? ⟨X9, 0, none⟩ = some (.int .i64 G1) := by { rw [cellB hbo _ _ (by first | (simp; done) | (simp; omega) | omega)]; all_goals (first | assumption | go_simp) }; have r0 : wo.cell? ⟨X9, 1, none⟩ = some (.int .i64 G2) := by { rw [cellB hbo _ _ (by first | (simp; done) | (simp; omega) | omega)]; all_goals (first | assumption | go_simp) }; have m0 : X9 < wo.heap.size := by { omega }
        have HB := Lib.hid (HB.out.trans (hbo.mono HB.out.size))
        clear q1 l1 t1 r1 m1 hzx
        clear hbo hW hXA
        have HBW := HB
        have lo : X0 < wo.heap.size := l0
        have mo : X9 < wo.heap.size := m0
        have vo : XA < wo.heap.size := lv
        refine (HCN.out _ HB.out).mono ?_
        rintro e22 wp ⟨a22, c22, rfl, hbp, ho22⟩
        have hzx := hbp.size
        have q1 : wp.cell? ⟨X0, 0, none⟩ = some (.slice a n c) := by { rw [cellB hbp _ _ (by first | (simp; done) | (simp; omega) | omega)]; all_goals (first | assumption | go_simp) }; have l1 : X0 < wp.heap.size := by { omega }; have t1 : wp.cell? ⟨X9, 0, none⟩ = some (.int .i64 G1) := by { rw [cellB hbp _ _ (by first | (simp; done) | (simp; omega) | omega)]; all_goals (first | assumption | go_simp) }; have r1 : wp.cell? ⟨X9, 1, none⟩ = some (.int .i64 G2) := by { rw [cellB hbp _ _ (by first | (simp; done) | (simp; omega) | omega)]; all_goals (first | assumption | go_simp) }; have m1 : X9 < wp.heap.size := by { omega }
        have HB := Lib.hid (HB.out.trans (hbp.mono HB.out.size))
        clear q0 l0 t0 r0 m0 hzx
        have v0p : wp.cell? ⟨XA, 0, none⟩ = some (.int .i64 1) := by { rw [cellB hbp _ _ (by first | (simp; done) | (simp; omega) | omega)]; all_goals (first | assumption | go_simp) }; have v1p : wp.cell? ⟨XA, 1, none⟩ = some (.int .i64 0) := by { rw [cellB hbp _ _ (by first | (simp; done) | (simp; omega) | omega)]; all_goals (first | assumption | go_simp) }
        have lvp : XA < wp.heap.size := by have := hbp.size; omega
        have HO := Lib.hid ho22
        have HBO := Lib.hid hbp.size
        clear hbp ho22 v0 v1 lv
        have hn5 : n ≤ 5 := HN5.out
        go_wp2_with (at_builtin; refine wpList_append_slo _ rfl _ _ 45 rfl wo.heap.size 76 _ 3 24 Tryz.underlying45 infoSec rfl (by omega) (.slice a22 n c22) n _ rfl ((HO.out.alloc _).alloc _) _ 1 1 (by omega) [.int .i64 0, .int .i64 0, .int .i64 0] rfl (SlR.lit _ _ _ _ _ 1 3 (by rfl) (by simp) rfl (by omega)) (by simp [Value.oneCell']) (by omega) (by omega) (by have := HBO.out; simp; omega) ?_)
        intro v2 w2 hown2 hg2 hne2 hb2
        obtain ⟨a23, c23, rfl, _, _⟩ := owns_slice hown2
        have hnx : some wp.heap.size ≠ (Value.slice a22 n c22).ownBlock := fun e => absurd (HO.out.lt _ e.symm).2 (Nat.lt_irrefl _)
        have k0 : w2.cell? ⟨wp.heap.size, 0, none⟩ = some (.slice a22 n c22) := by { rw [hg2.cell_far ⟨wp.heap.size, 0, none⟩ (by simp; omega) hnx]; go_simp }
        have k1 : w2.frozen? ⟨wp.heap.size, 0, none⟩ = false := by { rw [hg2.frozen_far ⟨wp.heap.size, 0, none⟩ (by simp; omega) hnx]; go_simp }
        have hnz : (Value.slice a23 (n + 1) c23).ownBlock ≠ some wp.heap.size := by
          rcases hne2 with h | h
          · rw [h]; exact fun e => hnx e.symm
          · rw [h]; simp; omega
        have HB2 := Lib.hid (show Below w.heap.size w w2 from ((HB.out.alloc HB.out.size _).alloc (by have := HB.out.size; simp; omega) _).trans (hb2.mono HBW.out.size))
        have q2 : w2.cell? ⟨X0, 0, none⟩ = some (.slice a n c) := by { rw [cellB hb2 _ _ (by first | (simp; done) | (simp; omega) | omega)]; all_goals (first | assumption | go_simp) }; have t2 : w2.cell? ⟨X9, 0, none⟩ = some (.int .i64 G1) := by { rw [cellB hb2 _ _ (by first | (simp; done) | (simp; omega) | omega)]; all_goals (first | assumption | go_simp) }; have r2 : w2.cell? ⟨X9, 1, none⟩ = some (.int .i64 G2) := by { rw [cellB hb2 _ _ (by first | (simp; done) | (simp; omega) | omega)]; all_goals (first | assumption | go_simp) }; have v2a : w2.cell? ⟨XA, 0, none⟩ = some (.int .i64 1) := by { rw [cellB hb2 _ _ (by first | (simp; done) | (simp; omega) | omega)]; all_goals (first | assumption | go_simp) }; have v2b : w2.cell? ⟨XA, 1, none⟩ = some (.int .i64 0) := by { rw [cellB hb2 _ _ (by first | (simp; done) | (simp; omega) | omega)]; all_goals (first | assumption | go_simp) }
        have hz2 := hb2.size
        simp only [World.size_alloc] at hz2
        have l2 : X0 < w2.heap.size := by omega
        have m2 : X9 < w2.heap.size := by omega
        have va2 : XA < w2.heap.size := by omega
        have x2 : wp.heap.size < w2.heap.size := by omega
        have HO2 := Lib.hid hown2
        have HNZ := Lib.hid hnz
        have HHO := Lib.hid HBO.out
        clear hb2 hown2 hg2 hne2 hnx hnz q1 l1 t1 r1 m1 v0p v1p lvp HO HBO hz2
        obtain ⟨XB, hXB⟩ : ∃ X, X = wp.heap.size := ⟨_, rfl⟩
        rw [← hXB] at k0 k1 x2 HNZ HHO ⊢
        clear hXB
        have ne1 : ¬ XA = XB := by have := HHO.out; omega
        have ne2 : ¬ XB = XA := by have := HHO.out; omega
        have ne3 : ¬ X9 = XB := by have := HHO.out; omega
        have ne4 : ¬ XB = X9 := by have := HHO.out; omega
        go_wp2_with fail
        generalize hW : World.setCell _ _ _ = w3
        have HB3 := Lib.hid (show Below w.heap.size w w3 by { rw [← hW]; have := HB2.out; have := HBW.out.size; have := HHO.out; (repeat' (first | (with_reducible exact Below.refl _ _) | (with_reducible assumption) | (with_reducible refine Below.drewN ?_ _) | (with_reducible refine Below.alloc ?_ ?_ _) | (with_reducible refine Below.drew ?_) | (with_reducible refine Below.setCell ?_ ?_ _) | (with_reducible refine Below.step (by assumption) ?_ ?_) | (with_reducible exact And.left (by assumption)) | go_size)) })
        have t3 : w3.cell? ⟨X9, 0, none⟩ = some (.int .i64 G1) := by { rw [← hW]; clear hW; go_simp }
        have r3 : w3.cell? ⟨X9, 1, none⟩ = some (.int .i64 G2) := by { rw [← hW]; clear hW; go_simp }
        have k3 : w3.cell? ⟨XB, 0, none⟩ = some (.slice a23 (n + 1) c23) := by { rw [← hW]; clear hW; go_simp }
        have m3 : X9 < w3.heap.size := by { rw [← hW]; clear hW; simp; omega }
        have x3 : XB < w3.heap.size := by { rw [← hW]; clear hW; simp; omega }
        have HT3 := Lib.hid (show T3R w3 a23 (n + 1) (s ++ [⟨0, 0, 0⟩]) from ER.of_owns (by have := HSN.out; simp; omega) (by rw [← hW, ecells_append]; exact ownsRow_setCell_other HO2.out (a := ⟨XB, 0, none⟩) HNZ.out _))
        clear hW HO2 HNZ q2 t2 r2 v2a v2b l2 m2 va2 x2 k0 k1 ne1 ne2 ne3 ne4 lo mo vo HHO HBW HB2 HB
        refine (HNL.out a23 (n + 1) c23 _ HT3.out).mono ?_
        rintro e24 w4 ⟨rfl, hb4⟩
        have hz4 := hb4.size
        have t4 : w4.cell? ⟨X9, 0, none⟩ = some (.int .i64 G1) := by { rw [cellB hb4 _ _ (by first | (simp; done) | (simp; omega) | omega)]; all_goals (first | assumption | go_simp) }; have r4 : w4.cell? ⟨X9, 1, none⟩ = some (.int .i64 G2) := by { rw [cellB hb4 _ _ (by first | (simp; done) | (simp; omega) | omega)]; all_goals (first | assumption | go_simp) }; have k4 : w4.cell? ⟨XB, 0, none⟩ = some (.slice a23 (n + 1) c23) := by { rw [cellB hb4 _ _ (by first | (simp; done) | (simp; omega) | omega)]; all_goals (first | assumption | go_simp) }; have m4 : X9 < w4.heap.size := by { omega }; have x4 : XB < w4.heap.size := by { omega }
        have HB4 := Lib.hid (HB3.out.trans (hb4.mono HB3.out.size))
        have HT4 := Lib.hid (HT3.out.below hb4)
        clear hb4 hz4 t3 r3 k3 m3 x3 HT3 HB3
        by_cases hNL : NL = 0
        · have HRLc := Lib.hid (fun (a' : Option Addr) (n' c' : Nat) (W : World) (h : T3R W a' n' (s ++ [⟨0, 0, 0⟩])) => HRLb.out a' n' c' W hNL h)
          subst hNL
          clear HRLb
          rw [if_pos (by first | rfl | trivial), if_pos (by first | rfl | trivial)] at HRLc
          go_wp2_with fail
          refine (HRLc.out a23 (n + 1) c23 _ HT4.out).mono ?_
          rintro e25 w5 ⟨rfl, hb5⟩
          have hz5 := hb5.size
          have t5 : w5.cell? ⟨X9, 0, none⟩ = some (.int .i64 G1) := by { rw [cellB hb5 _ _ (by first | (simp; done) | (simp; omega) | omega)]; all_goals (first | assumption | go_simp) }; have r5 : w5.cell? ⟨X9, 1, none⟩ = some (.int .i64 G2) := by { rw [cellB hb5 _ _ (by first | (simp; done) | (simp; omega) | omega)]; all_goals (first | assumption | go_simp) }; have m5 : X9 < w5.heap.size := by { omega }
          have HB5 := Lib.hid (HB4.out.trans (hb5.mono HB4.out.size))
          clear hb5 hz5 t4 r4 k4 m4 x4 HT4 HB4
          go_wp2
          go_ret
          exact ⟨ret_bool (by simp), HB5.out.alloc HB5.out.size _⟩
        · have e5 : (NL != 0) = true := by simpa using hNL
          clear hNL
          go_wp2
          go_ret
          exact ⟨ret_bool (by simp), HB4.out⟩
  · have hE1 := HE1.out
    have hE2 := HE2.out
    rw [if_pos h1] at hE1 hE2
    have e3 : (N2 != 0) = true := by simpa using h1
    have hT := HT.out
    rw [if_neg (by rw [hE2]; exact h1)] at hT
    have hk : k13 = 0 := by have := hT.len; simpa using this.symm
    subst hk
    have hG1 := HG1.out
    have hG2 := HG2.out
    rw [if_neg (by rw [hE1]; exact h1)] at hG1 hG2
    subst hE1 hE2 hG1 hG2
    clear HE1 HE2 HG1 HG2 hT h1
    go_wp2
    go_ret
    exact ⟨ret_bool (by simp), HB.out⟩
theorem resp_walk (s : List T3) (a : Option Addr) (n c : Nat) (F : Int) (l : List Int) (ap : Option Addr) (m cm : Nat) (w : World) (hs : T3R w a n s) (_ : -9223372036854775808 ≤ F ∧ F ≤ 9223372036854775807) (hl : IntsR w ap m l) :
    Calls Tryz.prog 5 #[.agg #[.slice a n c], .int .i64 F, .slice ap m cm] w fun e' w' => e' = .returned (.bool true) ∧ Below w.heap.size w w' := by
  by_cases h : n ≤ 5 ∧ m ≤ 10
  · exact resp_main s l F a ap n c m cm w hs hl h.1 h.2
  · exact resp_few a ap n c m cm F w hs.small hl.small h
end Go.Proofs.YtkphbibonagkfaaGreat
