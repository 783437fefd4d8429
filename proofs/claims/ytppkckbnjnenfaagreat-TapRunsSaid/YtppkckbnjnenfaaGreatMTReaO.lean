import Derived.Maps.AppendAt
import Derived.Test.YtppkckbnjnenfaaGreatMTElx
/- All states that are reached, exported. -/
namespace Go.Proofs.YtppkckbnjnenfaaGreat
open Go.RowKit Go.Shelf
set_option linter.unusedVariables false
set_option linter.unusedSimpArgs false
attribute [local go_sem] Oper.semAt_some
def reoV (m : Mac) : List Nat := if (macE m).2 ≠ 0 then [] else reaS m
set_option maxHeartbeats 1000000 in
set_option maxRecDepth 100000 in
theorem reachableOf_any (m : Mac) (ab ag : Option Addr) (nb cb ng cg : Nat) (w : World) (hb : BrR w ab nb m.br) (hg : GrR w ag ng m.gs) :
    Calls Tryz.prog 32 #[.agg #[.slice ab nb cb, .int .i64 m.st, .slice ag ng cg]] w
     fun e' w' => ∃ a' n' c', e' = .returned (.tuple #[.slice a' n' c', .int .i64 (macE m).2]) ∧ Below w.heap.size w w' ∧ IntsR w' a' n' (nats (reoV m)) := by
 have HO := Lib.hid (fun (W : World) (hbw : Below w.heap.size w W) => openMachine_any m ab ag nb cb ng cg W (hb.below hbw) (hg.below hbw))
 have HRE := Lib.hid (fun (h : (macE m).2 = 0) (W : World) (hbw : Below w.heap.size w W) => reachable_any m ab ag nb cb ng cg W (macE_zero h).2 hb.len (hg.below hbw))
 have hE2 : reoV m = if (macE m).2 ≠ 0 then [] else reaS m := rfl
 generalize reoV m = V at *
 generalize (macE m).2 = E at *
 have HV := Lib.hid hE2
 obtain ⟨st, hst⟩ : ∃ x, x = m.st := ⟨_, rfl⟩
 rw [← hst] at HO HRE ⊢
 clear hb hg hst hE2
 go_enter Tryz.func32, Tryz.ntmps32
 go_wp2_with fail
 refine (HO.out _ (by (first|exact bwg|go_size))).mono ?_
 rintro e5 w5 ⟨rfl, hb5⟩
 have HB5 := Lib.hid (show Below w.heap.size w w5 by (first|exact bwg|go_size))
 clear hb5 HO
 by_cases h0 : E = 0
 ·subst h0
  have HV2 := Lib.hid (HV.out.trans (if_neg (by simp)))
  have HCW := Lib.hid (HRE.out rfl)
  clear HRE HV
  go_wp2_with fail
  refine (HCW.out _ (HB5.out.alloc HB5.out.size _)).mono ?_
  rintro e8 w8 ⟨a2, n2, c2, rfl, hb8, hr8⟩
  have HK := Lib.hid (And.intro hb8 hr8)
  clear hb8 hr8
  go_wp2
  go_ret2
  exact ⟨a2, n2, c2, rfl, (HB5.out.alloc HB5.out.size _).trans (HK.out.1.mono (HB5.out.alloc HB5.out.size _).size), by rw [HV2.out]; exact HK.out.2⟩
 ·have e1 := bne_iff_ne.2 h0
  have HV2 := Lib.hid (HV.out.trans (if_pos h0))
  clear HRE HV
  go_wp2
  go_ret2
  exact ⟨none, 0, 0, rfl, HB5.out.alloc HB5.out.size _, by rw [HV2.out]; exact IntsR.nil _ _⟩
end Go.Proofs.YtppkckbnjnenfaaGreat
/- The reference's voltage and currents as quotients, in plain words. -/
namespace Go.Proofs.YtppkckbnjnenfaaGreat
set_option linter.unusedVariables false
theorem res_cases {r : Int} (h0 : 1 ≤ r) (h1 : r ≤ 10) : (2520 : Int) = 2520 / r * r := by
 have : r = 1 ∨ r = 2 ∨ r = 3 ∨ r = 4 ∨ r = 5 ∨ r = 6 ∨ r = 7 ∨ r = 8 ∨ r = 9 ∨ r = 10 := by omega
 rcases this with h | h | h | h | h | h | h | h | h | h <;> rw [h] <;> decide
theorem divInt_1 (n : Int) : Rat.divInt n 1 = (n : Rat) := by rw [Rat.divInt_eq_div]; grind
theorem castZ {n : Int} (h : n ≠ 0) : (n : Rat) ≠ 0 := by
 intro e
 exact h (Rat.intCast_inj.1 (e.trans Rat.intCast_zero.symm))
theorem divInt_quot {a b c d : Int} (hb : b ≠ 0) (hc : c ≠ 0) (hd : d ≠ 0) : Rat.divInt a b / Rat.divInt c d = Rat.divInt (a * d) (b * c) := by
 have h1 := castZ hb
 have h2 := castZ hc
 have h3 := castZ hd
 rw [Rat.divInt_eq_div, Rat.divInt_eq_div, Rat.divInt_eq_div, Rat.intCast_mul, Rat.intCast_mul]
 grind
def outQ (m : Mac) (l : Lim) (s : Nat) (load : Int) : Rat := Rat.divInt (outT m l s load).1 (outT m l s load).2
def sumQ (m : Mac) (l : Lim) (load : Int) (L : List Nat) : Rat := Rat.divInt (numL m l load L) 2520
def conQ (m : Mac) (L : List Nat) : Rat := Rat.divInt (denL m L) 2520
def zQ (m : Mac) (l : Lim) (s : Nat) (load : Int) (k : Nat) : Rat := Rat.divInt (zcur m l s load k) (comD m l s load)
def rstQ (m : Mac) (l : Lim) (load N D : Int) (L : List Nat) : Rat := Rat.divInt (rstZ m l load N D L) (2520 * D)
theorem sumQ_nil (m : Mac) (l : Lim) (load : Int) : sumQ m l load [] = ((-load : Int) : Rat) := by
 unfold sumQ numL
 rw [List.foldl_nil, ← divInt_1, Rat.divInt_eq_divInt_iff (by decide) (by decide)]
 omega
theorem conQ_nil (m : Mac) : conQ m [] = ((0 : Int) : Rat) := by
 unfold conQ denL
 rw [List.foldl_nil, ← divInt_1, Rat.divInt_eq_divInt_iff (by decide) (by decide)]
 omega
theorem sumQ_snoc {m : Mac} {k : Nat} (l : Lim) (load : Int) (L : List Nat) (hr : 1 ≤ (bAt m.br k).res) (hr1 : (bAt m.br k).res ≤ 10) : sumQ m l load (L ++ [k]) = sumQ m l load L + Rat.divInt (volA m l k) (bAt m.br k).res := by
 unfold sumQ
 rw [numL_snoc, Rat.divInt_add_divInt _ _ (by decide) (by omega), Rat.divInt_eq_divInt_iff (by decide) (by omega)]
 have e := res_cases hr hr1
 generalize 2520 / (bAt m.br k).res = q at *
 generalize (bAt m.br k).res = r at *
 generalize numL m l load L = A at *
 generalize volA m l k = v at *
 grind
theorem conQ_snoc {m : Mac} {k : Nat} (L : List Nat) (hr : 1 ≤ (bAt m.br k).res) (hr1 : (bAt m.br k).res ≤ 10) : conQ m (L ++ [k]) = conQ m L + Rat.divInt 1 (bAt m.br k).res := by
 unfold conQ
 rw [denL_snoc, Rat.divInt_add_divInt _ _ (by decide) (by omega), Rat.divInt_eq_divInt_iff (by decide) (by omega)]
 have e := res_cases hr hr1
 generalize 2520 / (bAt m.br k).res = q at *
 generalize (bAt m.br k).res = r at *
 generalize denL m L = A at *
 grind
theorem outQ_res {m : Mac} {l : Lim} {s : Nat} {load : Int} {k : Nat} (h : (cloU s 6).find? (isRes m) = some k) : outQ m l s load = ((volA m l k : Int) : Rat) := by
 unfold outQ outT
 rw [h]
 exact divInt_1 _
theorem frR_divInt {q : Rat} : Rat.divInt (frR q).1 (frR q).2 = q := by unfold frR; exact Rat.num_divInt_den q
theorem outQ_div {m : Mac} {l : Lim} {s : Nat} {load : Int} (hD : 0 < denL m (cloU s 6)) (h : (cloU s 6).find? (isRes m) = none) : sumQ m l load (cloU s 6) / conQ m (cloU s 6) = outQ m l s load := by
 unfold outQ outT sumQ conQ
 rw [h]
 simp only
 rw [low_rat hD, frR_divInt, divInt_quot (by decide) (by omega) (by decide), Rat.divInt_eq_divInt_iff (by omega) (by omega)]
 grind
theorem conQ_ne {m : Mac} {L : List Nat} (hD : 0 < denL m L) : conQ m L ≠ 0 := by
 unfold conQ
 intro h
 have : (Rat.divInt (denL m L) 2520) = Rat.divInt 0 1 := by rw [h]; rfl
 rw [Rat.divInt_eq_divInt_iff (by decide) (by decide)] at this
 omega
theorem frR_low {a b : Int} (hb : 0 < b) : frR (Rat.divInt a b) = low a b := (low_rat hb).symm
theorem frR_z {m : Mac} {l : Lim} {s : Nat} {load : Int} (h : ElV m l s load) {k : Nat} (hk : k < m.br.length) : frR (zQ m l s load k) = (curT m l s load).getD k (0, 0) := by
 unfold zQ
 rw [curT_z h hk, frR_low h.com.1]
theorem zQ_res {m : Mac} {l : Lim} {s : Nat} {load : Int} {k : Nat} (hD : 0 < (outT m l s load).2) (hc : k ∈ cloU s 6) (hn : isRes m k = false) (hr : 1 ≤ (bAt m.br k).res) (hr1 : (bAt m.br k).res ≤ 10) :
    (((volA m l k : Int) : Rat) - outQ m l s load) / (((bAt m.br k).res : Int) : Rat) = zQ m l s load k := by
 unfold zQ zcur comD outQ ovr
 rw [if_pos ⟨hc, hn⟩]
 have e := res_cases hr hr1
 rw [← divInt_1 (volA m l k), ← divInt_1 (bAt m.br k).res, Rat.divInt_sub_divInt _ _ (by decide) (by omega), divInt_quot (by omega) (by omega) (by decide), Rat.divInt_eq_divInt_iff (by
  have := Int.mul_pos hD (show 0 < (bAt m.br k).res by omega)
  have e3 : 1 * (outT m l s load).2 * (bAt m.br k).res = (outT m l s load).2 * (bAt m.br k).res := by rw [Int.one_mul]
  omega) (by omega)]
 generalize 2520 / (bAt m.br k).res = q at *
 generalize (bAt m.br k).res = r at *
 generalize volA m l k = v at *
 generalize (outT m l s load).1 = N at *
 generalize (outT m l s load).2 = D at *
 have e2 : 2520 * D = q * r * D := by rw [← e]
 grind
theorem rstQ_nil {m : Mac} {l : Lim} {load N D : Int} (hD : 0 < D) : rstQ m l load N D [] = ((load : Int) : Rat) := by
 unfold rstQ rstZ
 rw [List.foldl_nil, ← divInt_1, Rat.divInt_eq_divInt_iff (by omega) (by decide)]
 omega
theorem rstQ_res {m : Mac} {l : Lim} {load N D : Int} {L : List Nat} {k : Nat} (h : isRes m k = true) : rstQ m l load N D (L ++ [k]) = rstQ m l load N D L := by
 unfold rstQ; rw [rstZ_snoc, if_pos h]
theorem rstQ_snoc {m : Mac} {l : Lim} {s : Nat} {load : Int} {L : List Nat} {k : Nat} (hD : 0 < (outT m l s load).2) (hc : k ∈ cloU s 6) (h : isRes m k = false) :
    rstQ m l load (outT m l s load).1 (outT m l s load).2 L - zQ m l s load k = rstQ m l load (outT m l s load).1 (outT m l s load).2 (L ++ [k]) := by
 unfold rstQ zQ zcur comD
 rw [rstZ_snoc, if_neg (show ¬ isRes m k = true by rw [h]; decide), if_pos (And.intro hc h), Rat.divInt_sub_divInt _ _ (by omega) (by omega), Rat.divInt_eq_divInt_iff (by
  have := Int.mul_pos (show 0 < 2520 * (outT m l s load).2 by omega) (show 0 < 2520 * (outT m l s load).2 by omega)
  omega) (by omega)]
 grind
theorem zQ_dir {m : Mac} {l : Lim} {s : Nat} {load : Int} {k : Nat} (hn : isRes m k = true) (hd : (k : Int) = dirD m (cloU s 6)) : zQ m l s load k = rstQ m l load (outT m l s load).1 (outT m l s load).2 (cloU s 6) := by
 unfold zQ zcur rstQ comD
 rw [if_neg (by rw [hn]; simp), if_pos hd]
theorem zQ_off {m : Mac} {l : Lim} {s : Nat} {load : Int} {k : Nat} (hn : ¬ (k ∈ cloU s 6 ∧ isRes m k = false)) (hd : (k : Int) ≠ dirD m (cloU s 6)) : zQ m l s load k = ((0 : Int) : Rat) := by
 unfold zQ zcur
 rw [if_neg hn, if_neg hd, Rat.zero_divInt]
 rfl
def cirQ (m : Mac) (l : Lim) (s k : Nat) : Rat := Rat.divInt (cirZ m l s k) (comD m l s 0)
theorem cirQ_zero (m : Mac) (l : Lim) (s : Nat) : cirQ m l s 0 = ((0 : Int) : Rat) := by
 unfold cirQ cirZ; rw [Rat.zero_divInt]; rfl
theorem cirQ_skip {m : Mac} {l : Lim} {s k : Nat} (h : (bAt m.br k).tap ≠ 1) : cirQ m l s (k + 1) = cirQ m l s k := by
 unfold cirQ
 rw [show cirZ m l s (k + 1) = cirZ m l s k from if_neg h]
theorem cirQ_plus {m : Mac} {l : Lim} {s k : Nat} (hD : 0 < comD m l s 0) (ht : (bAt m.br k).tap = 1) : cirQ m l s k + zQ m l s 0 k = cirQ m l s (k + 1) := by
 unfold cirQ zQ
 rw [show cirZ m l s (k + 1) = cirZ m l s k + zcur m l s 0 k from if_pos ht, Rat.divInt_add_divInt _ _ (by omega) (by omega), Rat.divInt_eq_divInt_iff (by
  have := Int.mul_pos hD hD
  omega) (by omega)]
 grind
/- The digits of base's wide numbers: digit, trimmed. -/
open Go.RowKit
theorem IntsR.take {w : World} {a : Option Addr} {n m : Nat} {l : List Int} (h : IntsR w a n l) (hm : m ≤ n) : IntsR w a m (l.take m) := by
 have hl := h.len
 refine ⟨by simp [icells]; omega, Nat.le_trans hm h.2.1, fun h0 => ?_⟩
 obtain ⟨b, o, rfl, hb, hc⟩ := h.2.2 (by omega)
 refine ⟨b, o, rfl, hb, fun i u hu => hc i u ?_⟩
 unfold icells at hu ⊢
 rw [List.map_take, List.getElem?_take] at hu
 split at hu
 ·exact hu
 ·simp at hu
theorem Top.take {l : List Int} {j : Nat} (hj : j < l.length) (h : l.getD j 0 ≠ 0) : Top (l.take (j + 1)) := by
 intro k hk
 rw [List.length_take, Nat.min_eq_left (by omega)] at hk
 obtain rfl : j = k := by omega
 rw [List.getD_eq_getElem?_getD, List.getElem?_take, if_pos (by omega), ← List.getD_eq_getElem?_getD]
 exact h
set_option maxRecDepth 100000 in
theorem digit_any (l : List Int) (a : Option Addr) (n c k : Nat) (w : World) (h : IntsR w a n l) :
    Calls Tryz.prog 185 #[.slice a n c, .int .i64 k] w fun e' w' => e' = .returned (.int .i64 (l.getD k 0)) ∧ w = w' := by
 have HL := Lib.hid h
 have hn := h.small
 clear h
 by_cases hlt : k < n
 ·obtain ⟨b, o, rfl, hb, hc⟩ := HL.out.addr (by omega)
  have hck := hc k hlt
  obtain ⟨x, hx⟩ : ∃ x, x = l.getD k 0 := ⟨_, rfl⟩
  rw [← hx] at hck ⊢
  clear hx hc HL
  go_enter Tryz.func185, Tryz.ntmps185
  go_wp2
  go_ret
  exact ⟨rfl, rfl⟩
 ·have hz : l.getD k 0 = 0 := by rw [List.getD_eq_getElem?_getD, List.getElem?_eq_none (by rw [HL.out.len]; omega)]; rfl
  rw [hz]
  clear hz HL
  go_enter Tryz.func185, Tryz.ntmps185
  go_wp2
  go_ret
  exact ⟨rfl, rfl⟩
set_option maxRecDepth 100000 in
theorem trimmed_any (l : List Int) (a : Option Addr) (n c : Nat) (w : World) (h : IntsR w a n l) (hd : DOk l) (hcap : n ≤ c) :
    Calls Tryz.prog 184 #[.slice a n c] w fun e' w' => (∃ m c', e' = .returned (.slice a m c') ∧ m ≤ n ∧ m ≤ c' ∧ Top (l.take m) ∧ dval (l.take m) = dval l) ∧ w = w' := by
 have HL := Lib.hid h
 have HD := Lib.hid hd
 have hn := h.small
 clear h hd
 go_enter Tryz.func184, Tryz.ntmps184
 go_wp2
 go_loop [3] (fun i => ∃ m : Nat, i = .int .i64 m ∧ m ≤ n ∧ Hid (dval (l.take m) = dval l)) (fun i => (intOf i).toNat)
 case atStart => exact ⟨n, rfl, Nat.le_refl _, by have := HL.out.len; rw [List.take_of_length_le (by omega)]; exact Lib.hid rfl⟩
 case round =>
  obtain ⟨m, rfl, hm, hF⟩ := hrel
  rcases m with _ | j
  ·go_wp2
   go_ret
   exact ⟨⟨0, c, rfl, Nat.zero_le _, Nat.zero_le _, by simpa using Top.nil, hF.out⟩, rfl⟩
  ·obtain ⟨b, o, rfl, hb, hc⟩ := HL.out.addr (by omega)
   have hck := hc j (by omega)
   obtain ⟨x, hx⟩ : ∃ x, x = l.getD j 0 := ⟨_, rfl⟩
   rw [← hx] at hck
   have HX := Lib.hid hx
   clear hx hc
   by_cases hx0 : x = 0
   ·have HX0 := Lib.hid (HX.out.symm.trans hx0)
    have hbx : (x == 0) = true := by simp [hx0]
    clear hx0 HX
    go_wp2
    go_round
    case rel => exact ⟨j, by go_num, by omega, Lib.hid (by rw [← dval_trim l j (by rw [HL.out.len]; omega) HX0.out]; exact hF.out)⟩
    case measure => simp [intOf]
   ·have hbx : (x == 0) = false := by simpa using hx0
    have HX0 := Lib.hid (show l.getD j 0 ≠ 0 from fun h0 => hx0 (HX.out.trans h0))
    clear hx0 HX
    go_wp2
    go_ret
    exact ⟨⟨j + 1, c, rfl, hm, Nat.le_trans hm hcap, Top.take (by rw [HL.out.len]; omega) HX0.out, hF.out⟩, rfl⟩
/- Comparing digits. -/
set_option maxRecDepth 100000 in
theorem cmpDigits_any (l1 l2 : List Int) (a1 a2 : Option Addr) (n1 c1 n2 c2 : Nat) (w : World) (h1 : IntsR w a1 n1 l1) (h2 : IntsR w a2 n2 l2) (d1 : DOk l1) (d2 : DOk l2) (t1 : Top l1) (t2 : Top l2) :
    Calls Tryz.prog 166 #[.slice a1 n1 c1, .slice a2 n2 c2] w fun e' w' => e' = .returned (.int .i64 (dval l1 - dval l2).sign) ∧ ∃ m, w' = w.drewN m := by
 have H1 := Lib.hid h1
 have H2 := Lib.hid h2
 have D1 := Lib.hid d1
 have D2 := Lib.hid d2
 have hn1 := h1.small
 have hn2 := h2.small
 by_cases hne : n1 = n2
 ·clear t1 t2 d1 d2 h1 h2
  subst hne
  have hbb : ((n1 : Int) != (n1 : Int)) = false := by simp
  generalize hR : (dval l1 - dval l2).sign = R
  have HR := Lib.hid hR
  clear hR
  go_enter Tryz.func166, Tryz.ntmps166
  go_wp2
  go_loopw [5] (fun i wr => ∃ k : Nat, i = .int .i64 ((k : Int) - 1) ∧ k ≤ n1 ∧ Hid (dval (l1.drop k) = dval (l2.drop k)) ∧ ∃ m, wr = w.drewN m) (fun i _ => (intOf i + 1).toNat)
  case atStart => exact ⟨n1, by go_num, Nat.le_refl _, Lib.hid (by rw [List.drop_eq_nil_of_le (by rw [H1.out.len]; omega), List.drop_eq_nil_of_le (by rw [H2.out.len]; omega)]), 0, rfl⟩
  case round =>
   obtain ⟨k, rfl, hk, hF, m, rfl⟩ := hrel
   rcases k with _ | k
   ·go_wp2
    go_ret
    exact ⟨ret_int (by rw [← HR.out]; exact (sign_sub_zero (by simpa using hF.out)).symm), m, rfl⟩
   ·obtain ⟨b1, o1, rfl, hb1, hc1⟩ := H1.out.addr (by omega)
    obtain ⟨b2, o2, rfl, hb2, hc2⟩ := H2.out.addr (by omega)
    have hck1 := hc1 k (by omega)
    have hck2 := hc2 k (by omega)
    clear hc1 hc2
    obtain ⟨x, hx⟩ : ∃ x, x = l1.getD k 0 := ⟨_, rfl⟩
    obtain ⟨y, hy⟩ : ∃ y, y = l2.getD k 0 := ⟨_, rfl⟩
    rw [← hx] at hck1
    rw [← hy] at hck2
    have hk0 : (0 : Int) ≤ (k : Int) := by omega
    have hk1 : (k : Int) < (n1 : Int) := by omega
    have HX := Lib.hid hx
    have HY := Lib.hid hy
    clear hx hy
    rcases Int.lt_trichotomy x y with hxy | hxy | hxy
    ·have HS := Lib.hid (sign_sub_neg (dval_lt D1.out D2.out k (by rw [H1.out.len]; omega) (by rw [H2.out.len]; omega) hF.out (by rw [← HX.out, ← HY.out]; exact hxy)))
     have hbx : decide (x < y) = true := by simpa using hxy
     clear hxy
     go_wp2
     go_quiet (fail)
     go_wp2
     go_ret
     exact ⟨ret_int (by rw [← HR.out]; exact HS.out.symm), _, World.drewN_drewN _ _ _⟩
    ·have HF := Lib.hid (show dval (l1.drop k) = dval (l2.drop k) by rw [dval_drop l1 k, dval_drop l2 k, hF.out, ← HX.out, ← HY.out, hxy])
     have hbx : decide (x < y) = false := by simp; omega
     have hby : decide (y < x) = false := by simp; omega
     have hbz : decide (x > y) = false := by simp; omega
     clear hxy
     go_wp2
     go_quiet (fail)
     go_wp2
     go_quiet (fail)
     go_wp2
     go_roundw
     case rel => exact ⟨k, by go_num, by omega, HF, _, rfl⟩
     case measure => simp [intOf]
    ·have HS := Lib.hid (show (dval l1 - dval l2).sign = 1 from sign_sub_pos (dval_lt D2.out D1.out k (by rw [H2.out.len]; omega) (by rw [H1.out.len]; omega) hF.out.symm (by rw [← HX.out, ← HY.out]; exact hxy)))
     have hbx : decide (x < y) = false := by simp; omega
     have hby : decide (y < x) = true := by simp; omega
     have hbz : decide (x > y) = true := by simp; omega
     clear hxy
     go_wp2
     go_quiet (fail)
     go_wp2
     go_quiet (fail)
     go_wp2
     go_ret
     exact ⟨ret_int (by rw [← HR.out]; exact HS.out.symm), _, by rw [World.drewN_drewN, World.drewN_drewN]⟩
 ·have hbb : ((n1 : Int) != (n2 : Int)) = true := by simp; omega
  rcases Nat.lt_or_ge n1 n2 with hlt | hge
  ·rw [sign_sub_neg (Top.short d1 d2 t2 (by rw [h1.len, h2.len]; exact hlt))]
   clear t1 t2 d1 d2 h1 h2
   have hb2 : decide ((n1 : Int) < (n2 : Int)) = true := by simp; omega
   go_enter Tryz.func166, Tryz.ntmps166
   go_wp2
   go_ret
   exact ⟨rfl, 0, rfl⟩
  ·rw [sign_sub_pos (Top.short d2 d1 t1 (by rw [h1.len, h2.len]; omega))]
   clear t1 t2 d1 d2 h1 h2
   have hb2 : decide ((n1 : Int) < (n2 : Int)) = false := by simp; omega
   go_enter Tryz.func166, Tryz.ntmps166
   go_wp2
   go_ret
   exact ⟨rfl, 0, rfl⟩
/- Adding digits. -/
theorem append_one {ops : Array Oper} {rest : List Oper} {o : Oper} {a : Act} {Q : Exit → Act → World → Prop} (w : World) (hgd : o.guard = none) (s x : Operand)
    (ho : o.op = .call { callee := .builtin .append, args := #[s, x], argTypes := #[48, 48] }) (base n B : Nat) (v : Value) (xs : List Value) (u : Value) (hs : a.eval s = v)
    (hown : w.ownsRow base 3 1 v n xs) (hx : a.eval x = .slice (some ⟨B, 0, none⟩) 1 1) (hc : w.cell? ⟨B, 0, none⟩ = some u) (h1 : u.oneCell' = true) (hn : n ≤ 1000000) (hbase : base ≤ w.heap.size)
    (h : ∀ v' w', w'.ownsRow base 3 1 v' (n + 1) (xs ++ [u]) → w.grownBy w' v.ownBlock → (v'.ownBlock = v.ownBlock ∨ v'.ownBlock = some w.heap.size) → Below base w w' → wpList Tryz.prog ops Q rest (a.put o.dst v') w') : wpList Tryz.prog ops Q (o :: rest) a w := by
 obtain ⟨i, hi1, hi2, hi3, hi4⟩ := info_parts infoInt
 have hmul : (n + 1) * 8 ≤ 1000001 * 8 := Nat.mul_le_mul (by omega) (by omega)
 refine wpList_append_own_at w hgd s x 48 ho base 3 i _ 1 8 Tryz.underlying48 hi1 hi2 hi3 hi4 rfl (by omega) v n xs hs hown ⟨B, 0, none⟩ 1 1 [u] hx rfl (fun j u' hu => ?_) (fun u' hu => ?_) (by unfold maxLen; omega) (by omega) hbase
  (fun v' w' h2 h3 _ h5 => h v' w' h2 h3 h5 ((Below.refl base w).grown h3 hbase (fun k hk => (hown.lt k hk).1)))
 ·rcases j with _ | j
  ·simp at hu; subst hu; simpa [Addr.add] using hc
  ·simp at hu
 ·simp at hu; subst hu; exact h1
set_option maxRecDepth 100000 in
theorem addDigits_any (l1 l2 : List Int) (a1 a2 : Option Addr) (n1 c1 n2 c2 : Nat) (w : World) (h1 : IntsR w a1 n1 l1) (h2 : IntsR w a2 n2 l2) (d1 : DOk l1) (d2 : DOk l2) (hn1 : n1 ≤ 990000) (hn2 : n2 ≤ 990000) :
    Calls Tryz.prog 165 #[.slice a1 n1 c1, .slice a2 n2 c2] w fun e' w' => ∃ a' n' c', e' = .returned (.slice a' n' c') ∧ Below w.heap.size w w' ∧ ∃ l, w'.ownsRow w.heap.size 3 1 (.slice a' n' c') n' (icells l) ∧ DOk l ∧ dval l = dval l1 + dval l2 ∧ n' ≤ 1000000 := by
 have H1 := Lib.hid h1
 have H2 := Lib.hid h2
 have D1 := Lib.hid d1
 have D2 := Lib.hid d2
 clear h1 h2 d1 d2
 go_enter Tryz.func165, Tryz.ntmps165
 go_wp2
 go_loopw [5, 6, 7] (fun v c i wr => ∃ k : Nat, i = .int .i64 k ∧ k ≤ 990001 ∧ (∃ av cv o C, v = .slice av k cv ∧ c = .int .i64 C ∧ 0 ≤ C ∧ C ≤ 1 ∧ Hid (n1 < k → n2 < k → C = 0) ∧ Hid (wr.ownsRow w.heap.size 3 1 (.slice av k cv) k (icells o)) ∧ Hid (o.length = k ∧ DOk o ∧ dval o + pw k * (C + dval (l1.drop k) + dval (l2.drop k)) = dval l1 + dval l2)) ∧ Hid (Below w.heap.size w wr)) (fun _ _ i _ => 1000000 - (intOf i).toNat)
 case atStart => exact ⟨0, rfl, by omega, ⟨none, 0, [], 0, rfl, rfl, by omega, by omega, Lib.hid (fun _ _ => rfl), Lib.hid (World.ownsRow_nil _ _ _ _), Lib.hid ⟨rfl, DOk.nil, by simp [dval, pw]⟩⟩, Lib.hid (Below.refl _ _)⟩
 case round =>
  obtain ⟨k, rfl, hk, ⟨av, cv, o, C, rfl, rfl, hC0, hC1, hcz, hO, hF⟩, hB⟩ := hrel
  have hB0 := hB.out.size
  by_cases hend : n1 ≤ k ∧ n2 ≤ k ∧ C = 0
  ·obtain ⟨e1, e2, e3⟩ := hend
   subst e3
   have HZ := Lib.hid (show dval o = dval l1 + dval l2 by
    have := hF.out.2.2
    rw [List.drop_eq_nil_of_le (by rw [H1.out.len]; omega), List.drop_eq_nil_of_le (by rw [H2.out.len]; omega)] at this
    simpa [dval] using this)
   go_wp2
   go_ret
   exact ⟨av, k, cv, rfl, hB.out, o, hO.out, hF.out.2.1, HZ.out, by omega⟩
  ·have hk' : k ≤ 990000 := by
     by_cases h1 : n1 < k ∧ n2 < k
     ·have := hcz.out h1.1 h1.2; omega
     ·omega
   obtain ⟨x, hx⟩ : ∃ x, x = l1.getD k 0 := ⟨_, rfl⟩
   obtain ⟨y, hy⟩ : ∃ y, y = l2.getD k 0 := ⟨_, rfl⟩
   have bx := D1.out.get k
   have by_ := D2.out.get k
   have HD1 := Lib.hid (fun w' (h : IntsR w' a1 n1 l1) => digit_any l1 a1 n1 c1 k w' h)
   have HD2 := Lib.hid (fun w' (h : IntsR w' a2 n2 l2) => digit_any l2 a2 n2 c2 k w' h)
   have HN := Lib.hid (add_digit o l1 l2 k C _ hF.out.1 hF.out.2.2)
   rw [← hx] at bx HD1 HN
   rw [← hy] at by_ HD2 HN
   have HC' := Lib.hid (show n1 < k + 1 → n2 < k + 1 → (x + y + C) / 1000000000 = 0 by
    intro q1 q2
    rw [List.getD_eq_getElem?_getD, List.getElem?_eq_none (by rw [H1.out.len]; omega)] at hx
    rw [List.getD_eq_getElem?_getD, List.getElem?_eq_none (by rw [H2.out.len]; omega)] at hy
    simp only [Option.getD_none] at hx hy
    subst hx; subst hy
    omega)
   have HI1 := Lib.hid (H1.out.below hB.out)
   have HI2 := Lib.hid (H2.out.below hB.out)
   have hcond : (decide ((k : Int) < (n1 : Int)) || decide ((k : Int) < (n2 : Int)) || decide (0 < C)) = true := by simp; omega
   have HBD := Lib.hid (show (0 ≤ (x + y + C) % 1000000000 ∧ (x + y + C) % 1000000000 ≤ 999999999) ∧ (0 ≤ (x + y + C) / 1000000000 ∧ (x + y + C) / 1000000000 ≤ 1) by
    omega)
   clear hx hy hcz hk
   have HO := Lib.hid hO.out
   have HB := Lib.hid hB.out
   have HOL := Lib.hid hF.out
   clear hO hB hF
   by_cases q1 : k < n1
   ·skip
    go_wp2_with fail
    refine (HD1.out _ HI1.out).mono ?_
    rintro e5 w5 ⟨rfl, rfl⟩
    go_wp2_with fail
    refine (HD2.out _ HI2.out).mono ?_
    rintro e6 w6 ⟨rfl, rfl⟩
    go_wp2_with (at_builtin; refine append_one _ rfl _ _ rfl w.heap.size k wr.heap.size (.slice av k cv) _ (.int .i64 ((x + y + C) % 1000000000)) rfl (HO.out.alloc _) rfl (by go_simp) rfl (by omega) (by simp; omega) ?_)
    intro v8 w8 hown8 _ _ hb8
    obtain ⟨av2, cv2, rfl, _, _⟩ := owns_slice hown8
    have HO8 := Lib.hid (show w8.ownsRow w.heap.size 3 1 (.slice av2 (k + 1) cv2) (k + 1) (icells (o ++ [(x + y + C) % 1000000000])) by rw [icells_append]; exact hown8)
    have HB8 := Lib.hid (Below.trans HB.out (Below.trans (Below.alloc (Below.refl _ _) hB0 _) hb8))
    clear hown8 hb8
    go_wp2
    go_roundw
    case rel => exact ⟨k + 1, by go_num, by omega, ⟨av2, cv2, _, _, rfl, rfl, HBD.out.2.1, HBD.out.2.2, HC', HO8, Lib.hid ⟨by simp [HOL.out.1], HOL.out.2.1.app (DOk.one HBD.out.1.1 HBD.out.1.2), HN.out⟩⟩, HB8⟩
    case measure => simp [intOf]; omega
   ·by_cases q2 : k < n2
    ·skip
     go_wp2_with fail
     refine (HD1.out _ HI1.out).mono ?_
     rintro e5 w5 ⟨rfl, rfl⟩
     go_wp2_with fail
     refine (HD2.out _ HI2.out).mono ?_
     rintro e6 w6 ⟨rfl, rfl⟩
     go_wp2_with (at_builtin; refine append_one _ rfl _ _ rfl w.heap.size k wr.heap.size (.slice av k cv) _ (.int .i64 ((x + y + C) % 1000000000)) rfl (HO.out.alloc _) rfl (by go_simp) rfl (by omega) (by simp; omega) ?_)
     intro v8 w8 hown8 _ _ hb8
     obtain ⟨av2, cv2, rfl, _, _⟩ := owns_slice hown8
     have HO8 := Lib.hid (show w8.ownsRow w.heap.size 3 1 (.slice av2 (k + 1) cv2) (k + 1) (icells (o ++ [(x + y + C) % 1000000000])) by rw [icells_append]; exact hown8)
     have HB8 := Lib.hid (Below.trans HB.out (Below.trans (Below.alloc (Below.refl _ _) hB0 _) hb8))
     clear hown8 hb8
     go_wp2
     go_roundw
     case rel => exact ⟨k + 1, by go_num, by omega, ⟨av2, cv2, _, _, rfl, rfl, HBD.out.2.1, HBD.out.2.2, HC', HO8, Lib.hid ⟨by simp [HOL.out.1], HOL.out.2.1.app (DOk.one HBD.out.1.1 HBD.out.1.2), HN.out⟩⟩, HB8⟩
     case measure => simp [intOf]; omega
    ·have q3 : 0 < C := by omega
     go_wp2_with fail
     refine (HD1.out _ HI1.out).mono ?_
     rintro e5 w5 ⟨rfl, rfl⟩
     go_wp2_with fail
     refine (HD2.out _ HI2.out).mono ?_
     rintro e6 w6 ⟨rfl, rfl⟩
     go_wp2_with (at_builtin; refine append_one _ rfl _ _ rfl w.heap.size k wr.heap.size (.slice av k cv) _ (.int .i64 ((x + y + C) % 1000000000)) rfl (HO.out.alloc _) rfl (by go_simp) rfl (by omega) (by simp; omega) ?_)
     intro v8 w8 hown8 _ _ hb8
     obtain ⟨av2, cv2, rfl, _, _⟩ := owns_slice hown8
     have HO8 := Lib.hid (show w8.ownsRow w.heap.size 3 1 (.slice av2 (k + 1) cv2) (k + 1) (icells (o ++ [(x + y + C) % 1000000000])) by rw [icells_append]; exact hown8)
     have HB8 := Lib.hid (Below.trans HB.out (Below.trans (Below.alloc (Below.refl _ _) hB0 _) hb8))
     clear hown8 hb8
     go_wp2
     go_roundw
     case rel => exact ⟨k + 1, by go_num, by omega, ⟨av2, cv2, _, _, rfl, rfl, HBD.out.2.1, HBD.out.2.2, HC', HO8, Lib.hid ⟨by simp [HOL.out.1], HOL.out.2.1.app (DOk.one HBD.out.1.1 HBD.out.1.2), HN.out⟩⟩, HB8⟩
     case measure => simp [intOf]; omega
/- Subtracting digits. -/
theorem owns_ge {w : World} {base sz n c : Nat} {e : TypeId} {a : Option Addr} {xs : List Value} (h : w.ownsRow base e sz (.slice a n c) n xs) {b o : Nat} (h0 : 0 < n) (ha : a = some ⟨b, o, none⟩) : base ≤ b := by
 rcases h.2 with ⟨_, hn⟩ | ⟨g, cap, cur, hv, hbase, _⟩
 ·omega
 ·simp only [Value.slice.injEq] at hv
  rw [hv.1] at ha
  simp only [Option.some.injEq, Addr.mk.injEq] at ha
  omega
set_option maxRecDepth 100000 in
theorem subDigits_any (l1 l2 : List Int) (a1 a2 : Option Addr) (n1 c1 n2 c2 : Nat) (w : World) (h1 : IntsR w a1 n1 l1) (h2 : IntsR w a2 n2 l2) (d1 : DOk l1) (d2 : DOk l2) (hn1 : n1 ≤ 1000000) (hle : dval l2 ≤ dval l1) :
    Calls Tryz.prog 167 #[.slice a1 n1 c1, .slice a2 n2 c2] w fun e' w' => ∃ a' n' c', e' = .returned (.slice a' n' c') ∧ Below w.heap.size w w' ∧ ∃ l, IntsR w' a' n' l ∧ DOk l ∧ Top l ∧ dval l = dval l1 - dval l2 ∧ n' ≤ c' ∧ (∀ b o, 0 < n' → a' = some ⟨b, o, none⟩ → w.heap.size ≤ b) := by
 have H1 := Lib.hid h1
 have H2 := Lib.hid h2
 have D1 := Lib.hid d1
 have D2 := Lib.hid d2
 have HLE := Lib.hid hle
 clear h1 h2 d1 d2 hle
 go_enter Tryz.func167, Tryz.ntmps167
 go_wp2
 go_loopw [5, 6, 7] (fun v c i wr => ∃ k : Nat, i = .int .i64 k ∧ k ≤ n1 ∧ (∃ av cv o C, v = .slice av k cv ∧ c = .int .i64 C ∧ 0 ≤ C ∧ C ≤ 1 ∧ Hid (wr.ownsRow w.heap.size 3 1 (.slice av k cv) k (icells o)) ∧ Hid (o.length = k ∧ DOk o ∧ dval o + pw k * (dval (l1.drop k) - dval (l2.drop k) - C) = dval l1 - dval l2)) ∧ Hid (Below w.heap.size w wr)) (fun _ _ i _ => 1000000 - (intOf i).toNat)
 case atStart => exact ⟨0, rfl, by omega, ⟨none, 0, [], 0, rfl, rfl, by omega, by omega, Lib.hid (World.ownsRow_nil _ _ _ _), Lib.hid ⟨rfl, DOk.nil, by simp [dval, pw]⟩⟩, Lib.hid (Below.refl _ _)⟩
 case round =>
  obtain ⟨k, rfl, hk, ⟨av, cv, o, C, rfl, rfl, hC0, hC1, hO, hF⟩, hB⟩ := hrel
  have hB0 := hB.out.size
  have HO := Lib.hid hO.out
  have HB := Lib.hid hB.out
  have HOL := Lib.hid hF.out
  clear hO hB hF
  by_cases hlt : k < n1
  ·obtain ⟨b1, o1, rfl, hb1, hc1⟩ := H1.out.addr (by omega)
   have hck1 := hc1 k (by omega)
   rw [← cellB HB.out _ _ hb1] at hck1
   clear hc1
   obtain ⟨x, hx⟩ : ∃ x, x = l1.getD k 0 := ⟨_, rfl⟩
   obtain ⟨y, hy⟩ : ∃ y, y = l2.getD k 0 := ⟨_, rfl⟩
   have bx := D1.out.get k
   have by_ := D2.out.get k
   have HD2 := Lib.hid (fun w' (h : IntsR w' a2 n2 l2) => digit_any l2 a2 n2 c2 k w' h)
   rw [← hx] at bx hck1
   rw [← hy] at by_ HD2
   have HX := Lib.hid hx
   have HY := Lib.hid hy
   have HI2 := Lib.hid (H2.out.below HB.out)
   have hk0 : (0 : Int) ≤ (k : Int) := by omega
   have hk1 : (k : Int) < (n1 : Int) := by omega
   clear hx hy
   go_wp2_with fail
   go_quiet (exact calls_drew_same (HD2.out _ HI2.out))
   generalize hw5 : wr.drewN _ = w5
   have HO5 := Lib.hid (show w5.ownsRow w.heap.size 3 1 (.slice av k cv) k (icells o) by rw [← hw5]; exact HO.out)
   have HB5 := Lib.hid (show Below w.heap.size w w5 by rw [← hw5]; exact HB.out.drewN _)
   have hB5 := HB5.out.size
   clear hw5 HB HO hck1 hb1 hB0
   by_cases hs : x - y - C < 0
   ·skip
    go_wp2_with (at_builtin; refine append_one _ rfl _ _ rfl w.heap.size k w5.heap.size (.slice av k cv) _ (.int .i64 (x - y - C + 1000000000)) rfl (HO5.out.alloc _) rfl (by go_simp) rfl (by omega) (by simp; omega) ?_)
    intro v8 w8 hown8 _ _ hb8
    obtain ⟨av2, cv2, rfl, _, _⟩ := owns_slice hown8
    have HO8 := Lib.hid (show w8.ownsRow w.heap.size 3 1 (.slice av2 (k + 1) cv2) (k + 1) (icells (o ++ [x - y - C + 1000000000])) by rw [icells_append]; exact hown8)
    have HB8 := Lib.hid (Below.trans HB5.out (Below.trans (Below.alloc (Below.refl _ _) hB5 _) hb8))
    clear hown8 hb8
    go_wp2
    go_roundw
    case rel => exact ⟨k + 1, by go_num, by omega, ⟨av2, cv2, _, 1, rfl, rfl, by omega, by omega, HO8, Lib.hid ⟨by simp [HOL.out.1], HOL.out.2.1.app (DOk.one (by omega) (by omega)), sub_digit o l1 l2 k C _ _ _ HOL.out.1 HOL.out.2.2 (by rw [← HX.out, ← HY.out]; omega)⟩⟩, HB8⟩
    case measure => simp [intOf]; omega
   ·skip
    go_wp2_with (at_builtin; refine append_one _ rfl _ _ rfl w.heap.size k w5.heap.size (.slice av k cv) _ (.int .i64 (x - y - C)) rfl (HO5.out.alloc _) rfl (by go_simp) rfl (by omega) (by simp; omega) ?_)
    intro v8 w8 hown8 _ _ hb8
    obtain ⟨av2, cv2, rfl, _, _⟩ := owns_slice hown8
    have HO8 := Lib.hid (show w8.ownsRow w.heap.size 3 1 (.slice av2 (k + 1) cv2) (k + 1) (icells (o ++ [x - y - C])) by rw [icells_append]; exact hown8)
    have HB8 := Lib.hid (Below.trans HB5.out (Below.trans (Below.alloc (Below.refl _ _) hB5 _) hb8))
    clear hown8 hb8
    go_wp2
    go_roundw
    case rel => exact ⟨k + 1, by go_num, by omega, ⟨av2, cv2, _, 0, rfl, rfl, by omega, by omega, HO8, Lib.hid ⟨by simp [HOL.out.1], HOL.out.2.1.app (DOk.one (by omega) (by omega)), sub_digit o l1 l2 k C _ _ _ HOL.out.1 HOL.out.2.2 (by rw [← HX.out, ← HY.out]; omega)⟩⟩, HB8⟩
    case measure => simp [intOf]; omega
  ·obtain rfl : k = n1 := by omega
   have hX := (dval_bd (D2.out.drop k)).1
   have HE := Lib.hid (show dval o = dval l1 - dval l2 by
    have h3 := HOL.out.2.2
    rw [List.drop_eq_nil_of_le (show l1.length ≤ k by rw [H1.out.len]; omega)] at h3
    exact sub_end o k HOL.out.2.1 HOL.out.1 (dval (l2.drop k) + C) _ (by omega) (by have := HLE.out; omega) (by rw [← h3]; simp only [dval]; rw [show (0 : Int) - (dval (l2.drop k) + C) = 0 - dval (l2.drop k) - C by omega]))
   have hcap := (owns_slice HO.out)
   have HT := Lib.hid (fun h => trimmed_any o av k cv wr (SlR.of_owns HO.out) HOL.out.2.1 h)
   have hcv : k ≤ cv := by
    obtain ⟨_, _, h1, h2, _⟩ := owns_slice HO.out
    simp only [Value.slice.injEq] at h1
    omega
   clear hX hcap
   go_wp2_with fail
   refine (HT.out hcv).mono ?_
   rintro e6 w6 ⟨⟨m6, c6, rfl, hm6, hmc6, hT6, hV6⟩, rfl⟩
   have HI6 := Lib.hid (IntsR.take (SlR.of_owns HO.out) hm6)
   have HT6 := Lib.hid hT6
   have HV6 := Lib.hid hV6
   clear hT6 hV6
   go_wp2
   go_ret
   exact ⟨av, m6, c6, rfl, HB.out, _, HI6.out, HOL.out.2.1.take _, HT6.out, by rw [HV6.out, HE.out], hmc6, fun b o' h0 ha => owns_ge HO.out (by omega) ha⟩
/- Wide numbers: wideOf, WideNeg, wideSize, WideSign. 'p' tells of the blocks where the digits may lie. -/
def WideR (p : Nat → Prop) (w : World) (v : Value) (z : Int) : Prop := ∃ a n c l, v = .agg #[.int .i64 z.sign, .slice a n c] ∧ IntsR w a n l ∧ DOk l ∧ Top l ∧ dval l = (z.natAbs : Int) ∧ n ≤ c ∧ (∀ b o, 0 < n → a = some ⟨b, o, none⟩ → p b)
theorem WideR.below {p : Nat → Prop} {w w' : World} {v : Value} {z : Int} (h : WideR p w v z) (hb : Below w.heap.size w w') : WideR p w' v z := by
 obtain ⟨a, n, c, l, h1, h2, h3⟩ := h
 exact ⟨a, n, c, l, h1, h2.below hb, h3⟩
theorem WideR.mono {p q : Nat → Prop} {w : World} {v : Value} {z : Int} (h : WideR p w v z) (hb : ∀ b, p b → q b) : WideR q w v z := by
 obtain ⟨a, n, c, l, h1, h2, h3, h4, h5, h6, h7⟩ := h
 exact ⟨a, n, c, l, h1, h2, h3, h4, h5, h6, fun b o h0 ha => hb b (h7 b o h0 ha)⟩
theorem IntsR.kept {w w' : World} {a : Option Addr} {n : Nat} {l : List Int} (h : IntsR w a n l) (hs : w.heap.size ≤ w'.heap.size) (hb : ∀ b o, 0 < n → a = some ⟨b, o, none⟩ → w'.heap[b]? = w.heap[b]?) : IntsR w' a n l := by
 refine ⟨h.1, h.2.1, fun hn => ?_⟩
 obtain ⟨b, o, ha, hlt, hc⟩ := h.2.2 hn
 refine ⟨b, o, ha, Nat.lt_of_lt_of_le hlt hs, fun i u hu => ?_⟩
 have h1 := hc i u hu
 have h2 := hb b o hn ha
 simp only [World.cell?, h2] at h1 ⊢
 exact h1
theorem WideR.kept {p : Nat → Prop} {w w' : World} {v : Value} {z : Int} (h : WideR p w v z) (hs : w.heap.size ≤ w'.heap.size) (hb : ∀ b, p b → w'.heap[b]? = w.heap[b]?) : WideR p w' v z := by
 obtain ⟨a, n, c, l, h1, h2, h3, h4, h5, h6, h7⟩ := h
 exact ⟨a, n, c, l, h1, h2.kept hs (fun b o h0 ha => hb b (h7 b o h0 ha)), h3, h4, h5, h6, h7⟩
set_option maxRecDepth 100000 in
theorem wideOf_any (p : Nat → Prop) (l : List Int) (a : Option Addr) (n c : Nat) (s z : Int) (w : World) (h : IntsR w a n l) (hd : DOk l) (hcap : n ≤ c) (hv : dval l = (z.natAbs : Int)) (hs : z ≠ 0 → s = z.sign) (hp : ∀ b o, 0 < n → a = some ⟨b, o, none⟩ → p b) :
    Calls Tryz.prog 164 #[.int .i64 s, .slice a n c] w fun e' w' => ∃ v, e' = .returned v ∧ Below w.heap.size w w' ∧ WideR p w' v z := by
 have HL := Lib.hid h
 have HD := Lib.hid hd
 have HV := Lib.hid hv
 have HS := Lib.hid hs
 have HP := Lib.hid hp
 have HT := Lib.hid (fun w' (h : IntsR w' a n l) => trimmed_any l a n c w' h hd hcap)
 clear h hd hv hs hp
 go_enter Tryz.func164, Tryz.ntmps164
 go_wp2_with fail
 refine (HT.out _ (HL.out.below (by (first|exact bwg|go_size)))).mono ?_
 rintro e6 w6 ⟨⟨m6, c6, rfl, hm6, hmc6, hT6, hV6⟩, rfl⟩
 have HI6 := Lib.hid (HL.out.take hm6)
 have HT6 := Lib.hid hT6
 have HV6 := Lib.hid hV6
 clear hT6 hV6
 rcases m6 with _ | m
 ·have HZ := Lib.hid (show z = 0 by
    have h1 := HV6.out; have h2 := HV.out
    simp [dval] at h1; omega)
  go_wp2
  refine bodyPost_ret (v := .agg #[.int .i64 0, .slice a 0 c6]) (by simp [results, Tryz.results164, go_sem]) rfl ⟨_, rfl, by (first|exact bwg|go_size), ?_⟩
  refine ⟨a, 0, c6, l.take 0, by rw [HZ.out]; rfl, HI6.out.below (by (first|exact bwg|go_size)), HD.out.take _, HT6.out, by rw [HV6.out, HV.out], Nat.zero_le _, fun _ _ h0 => absurd h0 (by omega)⟩
 ·have HZ := Lib.hid (show z ≠ 0 by
    intro h0
    have h1 := HV6.out; have h2 := HV.out
    have h3 := (HT6.out.zero (HD.out.take _)).1 (by omega)
    have := HI6.out.len
    omega)
  go_wp2
  refine bodyPost_ret (v := .agg #[.int .i64 s, .slice a (m + 1) c6]) (by simp [results, Tryz.results164, go_sem]) rfl ⟨_, rfl, by (first|exact bwg|go_size), ?_⟩
  exact ⟨a, m + 1, c6, l.take (m + 1), by rw [HS.out HZ.out], HI6.out.below (by (first|exact bwg|go_size)), HD.out.take _, HT6.out, by rw [HV6.out, HV.out], hmc6, fun b o _ ha => HP.out b o (by omega) ha⟩
theorem sign_bd (z : Int) : -1 ≤ z.sign ∧ z.sign ≤ 1 := by
 rcases Int.lt_trichotomy z 0 with h | h | h
 ·rw [Int.sign_eq_neg_one_of_neg h]; omega
 ·subst h; simp
 ·rw [Int.sign_eq_one_of_pos h]; omega
set_option maxRecDepth 100000 in
theorem wideNeg_any (p : Nat → Prop) (v : Value) (z : Int) (w : World) (h : WideR p w v z) :
    Calls Tryz.prog 160 #[v] w fun e' w' => ∃ v', e' = .returned v' ∧ Below w.heap.size w w' ∧ WideR p w' v' (-z) := by
 obtain ⟨a, n, c, l, rfl, h2, h3, h4, h5, h6, h7⟩ := h
 have H := Lib.hid (fun w' hb => (⟨a, n, c, l, by rw [Int.sign_neg], h2.below (w' := w') hb, h3, h4, by rw [Int.natAbs_neg]; exact h5, h6, h7⟩ : WideR p w' (.agg #[.int .i64 (-z.sign), .slice a n c]) (-z)))
 have hs := sign_bd z
 clear h2 h3 h4 h5 h6 h7
 generalize z.sign = s at *
 go_enter Tryz.func160, Tryz.ntmps160
 go_wp2
 refine bodyPost_ret (v := .agg #[.int .i64 (-s), .slice a n c]) (by simp [results, Tryz.results160, go_sem]) rfl ⟨_, rfl, by (first|exact bwg|go_size), H.out _ (by (first|exact bwg|go_size))⟩
set_option maxRecDepth 100000 in
theorem wideSign_any (p : Nat → Prop) (v : Value) (z : Int) (w : World) (h : WideR p w v z) :
    Calls Tryz.prog 159 #[v] w fun e' w' => e' = .returned (.int .i64 z.sign) ∧ Below w.heap.size w w' := by
 obtain ⟨a, n, c, l, rfl, h2, h3, h4, h5, h6, h7⟩ := h
 clear h2 h3 h4 h5 h6 h7
 generalize z.sign = s at *
 go_enter Tryz.func159, Tryz.ntmps159
 go_wp2
 go_ret
 exact ⟨rfl, by (first|exact bwg|go_size)⟩
end Go.Proofs.YtppkckbnjnenfaaGreat
