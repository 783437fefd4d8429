import Derived.Test.YtdjinmieogpgcaaGreatMRef1
/- Machines in memory; the reference's errors of machines, states, contacts, loads and limits. -/
namespace Go.Proofs.YtdjinmieogpgcaaGreat
open Go.RowKit
set_option linter.unusedVariables false
set_option linter.unusedSimpArgs false
def eB (b : Brn) : List Value := [.int .i64 b.tap, .int .i64 b.res]
theorem eB_len (b : Brn) : (eB b).length = 2 := rfl
theorem eB_one (b : Brn) : ∀ u ∈ eB b, u.oneCell' = true := fun u hu => by
 simp only [eB, List.mem_cons, List.not_mem_nil, or_false] at hu
 rcases hu with rfl | rfl <;> rfl
def eG (g : Grd) : List Value := [.int .i64 g.c, .bool g.cl, .int .i64 g.ci, .int .i64 g.op]
theorem eG_len (g : Grd) : (eG g).length = 4 := rfl
theorem eG_one (g : Grd) : ∀ u ∈ eG g, u.oneCell' = true := fun u hu => by
 simp only [eG, List.mem_cons, List.not_mem_nil, or_false] at hu
 rcases hu with rfl | rfl | rfl | rfl <;> rfl
def BrR (w : World) (a : Option Addr) (n : Nat) (l : List Brn) : Prop := ER eB 2 w a n l
def GrR (w : World) (a : Option Addr) (n : Nat) (l : List Grd) : Prop := ER eG 4 w a n l
theorem BrR.below {w w' : World} {a : Option Addr} {n : Nat} {l : List Brn} (h : BrR w a n l) (hb : Below w.heap.size w w') : BrR w' a n l := ER.below h hb
theorem GrR.below {w w' : World} {a : Option Addr} {n : Nat} {l : List Grd} (h : GrR w a n l) (hb : Below w.heap.size w w') : GrR w' a n l := ER.below h hb
theorem BrR.len {w : World} {a : Option Addr} {n : Nat} {l : List Brn} (h : BrR w a n l) : l.length = n := h.1
theorem GrR.len {w : World} {a : Option Addr} {n : Nat} {l : List Grd} (h : GrR w a n l) : l.length = n := h.1
theorem BrR.small {w : World} {a : Option Addr} {n : Nat} {l : List Brn} (h : BrR w a n l) : n ≤ 9223372036854775807 := ER.small h
theorem GrR.small {w : World} {a : Option Addr} {n : Nat} {l : List Grd} (h : GrR w a n l) : n ≤ 9223372036854775807 := ER.small h
theorem BrR.addr {w : World} {a : Option Addr} {n : Nat} {l : List Brn} (h : BrR w a n l) (hn : 0 < n) :
    ∃ b o, a = some ⟨b, o, none⟩ ∧ b < w.heap.size ∧ ∀ i, i < n → w.cell? ⟨b, o + i * 2, none⟩ = some (.int .i64 (bAt l i).tap) ∧ w.cell? ⟨b, o + i * 2 + 1, none⟩ = some (.int .i64 (bAt l i).res) := by
 obtain ⟨b, o, ha, hb, hc⟩ := ER.addr eB_len h hn
 refine ⟨b, o, ha, hb, fun i hi => ?_⟩
 obtain ⟨x, hx⟩ := ER.get h hi
 have e : bAt l i = x := by unfold bAt; simp [List.getD, hx]
 rw [e]
 have h0 := hc i x hx 0 (by omega)
 have h1 := hc i x hx 1 (by omega)
 simp only [← Nat.add_assoc, Nat.add_zero] at h0 h1
 exact ⟨h0, h1⟩
theorem GrR.addr {w : World} {a : Option Addr} {n : Nat} {l : List Grd} (h : GrR w a n l) (hn : 0 < n) :
    ∃ b o, a = some ⟨b, o, none⟩ ∧ b < w.heap.size ∧ ∀ i, i < n → w.cell? ⟨b, o + i * 4, none⟩ = some (.int .i64 (gAt l i).c) ∧ w.cell? ⟨b, o + i * 4 + 1, none⟩ = some (.bool (gAt l i).cl) ∧ w.cell? ⟨b, o + i * 4 + 2, none⟩ = some (.int .i64 (gAt l i).ci) ∧ w.cell? ⟨b, o + i * 4 + 3, none⟩ = some (.int .i64 (gAt l i).op) := by
 obtain ⟨b, o, ha, hb, hc⟩ := ER.addr eG_len h hn
 refine ⟨b, o, ha, hb, fun i hi => ?_⟩
 obtain ⟨x, hx⟩ := ER.get h hi
 have e : gAt l i = x := by unfold gAt; simp [List.getD, hx]
 rw [e]
 have h0 := hc i x hx 0 (by omega)
 have h1 := hc i x hx 1 (by omega)
 have h2 := hc i x hx 2 (by omega)
 have h3 := hc i x hx 3 (by omega)
 simp only [← Nat.add_assoc, Nat.add_zero] at h0 h1 h2 h3
 exact ⟨h0, h1, h2, h3⟩
theorem pow_facts : ∀ n ≤ 8, wrap64 ((2 : Int) ^ n) = 2 ^ n ∧ wrap64 ((2 : Int) ^ n - 1) = 2 ^ n - 1 ∧ 1 ≤ (2 : Int) ^ n ∧ (2 : Int) ^ n ≤ 256 := by decide +kernel
theorem pow_wrap {n : Nat} (h : n ≤ 8) : ∃ p : Int, p = 2 ^ n ∧ wrap64 ((2 : Int) ^ n) = p ∧ IntKind.i64.wrap (p - 1) = p - 1 ∧ 1 ≤ p ∧ p ≤ 256 := by
 obtain ⟨h1, h2, h3, h4⟩ := pow_facts n h
 exact ⟨_, rfl, h1, by rw [IntKind.wrap_i64]; omega, h3, h4⟩
set_option maxRecDepth 100000 in
theorem rStaE_any (x : Int) (nb cb ng cg : Nat) (ab ag : Option Addr) (s : Int) (w : World) (hn : nb ≤ 8) :
    Calls Tryz.prog 56 #[.agg #[.slice ab nb cb, .int .i64 x, .slice ag ng cg], .int .i64 s] w fun e' w' => e' = .returned (.int .i64 (staE nb s)) ∧ Below w.heap.size w w' := by
 obtain ⟨p, hp, w1, w2, p1, p2⟩ := pow_wrap hn
 have n0 : (0 : Int) ≤ (nb : Int) := by omega
 have n1 : (nb : Int) ≤ 64 := by omega
 have n2 : ((nb : Int)).toNat = nb := by omega
 unfold staE isS
 rw [← hp]
 have HW := Lib.hid (fun w' => bwithin_any s 0 (p - 1) w')
 clear hp
 generalize wi s 0 (p - 1) = b at *
 cases b
 all_goals
  go_enter Tryz.func56, Tryz.ntmps56
  go_wp2_with fail
  refine (HW.out _).mono ?_
  rintro e5 w5 ⟨rfl, rfl⟩
  go_wp2
  go_ret
  exact ⟨rfl, by (first|exact bwg|go_size)⟩
theorem rConE_any (x : Int) (nb cb ng cg : Nat) (ab ag : Option Addr) (s : Int) (w : World) (hn : nb ≤ 9223372036854775807) :
    Calls Tryz.prog 27 #[.agg #[.slice ab nb cb, .int .i64 x, .slice ag ng cg], .int .i64 s] w fun e' w' => e' = .returned (.int .i64 (conE nb s)) ∧ Below w.heap.size w w' := by
 have w2 : IntKind.i64.wrap ((nb : Int) - 1) = (nb : Int) - 1 := by rw [IntKind.wrap_i64]; omega
 unfold conE
 have HW := Lib.hid (fun w' => bwithin_any s 0 ((nb : Int) - 1) w')
 generalize wi s 0 ((nb : Int) - 1) = b at *
 cases b
 all_goals
  go_enter Tryz.func27, Tryz.ntmps27
  go_wp2_with fail
  refine (HW.out _).mono ?_
  rintro e5 w5 ⟨rfl, rfl⟩
  go_wp2
  go_ret
  exact ⟨rfl, by (first|exact bwg|go_size)⟩
theorem rLoaE_any (s : Int) (w : World) : Calls Tryz.prog 83 #[.int .i64 s] w fun e' w' => e' = .returned (.int .i64 (loaE s)) ∧ w = w' := by
 unfold loaE
 have HW := Lib.hid (fun w' => bwithin_any s (-1000) 1000 w')
 generalize wi s (-1000) 1000 = b at *
 cases b
 all_goals
  go_enter Tryz.func83, Tryz.ntmps83
  go_wp2_with fail
  refine (HW.out _).mono ?_
  rintro e5 w5 ⟨rfl, rfl⟩
  go_wp2
  go_ret
  exact ⟨rfl, rfl⟩
theorem limE_cases (l : Lim) : limE l = if (wi l.volt 0 1000 && wi l.lo (-1000) 1000 && wi l.hi (-1000) 1000) = false then 2 else if l.hi < l.lo then 9 else if (wi l.circ 0 1000 && wi l.brk 0 1000 && wi l.ret 0 1000) = false then 2 else 0 := by
 unfold limE
 cases (wi l.volt 0 1000 && wi l.lo (-1000) 1000 && wi l.hi (-1000) 1000)
 ·simp [firstErr, unl]
 ·by_cases h : l.lo ≤ l.hi
  ·have h' : ¬ l.hi < l.lo := by omega
   cases (wi l.circ 0 1000 && wi l.brk 0 1000 && wi l.ret 0 1000) <;> simp [firstErr, unl, h, h']
  ·have h' : l.hi < l.lo := by omega
   simp [firstErr, unl, h, h']
set_option maxHeartbeats 1000000 in
set_option maxRecDepth 100000 in
theorem rLimE_any (l : Lim) (w : World) : Calls Tryz.prog 55 #[.agg #[.int .i64 l.volt, .int .i64 l.lo, .int .i64 l.hi, .int .i64 l.circ, .int .i64 l.brk, .int .i64 l.ret]] w fun e' w' => e' = .returned (.int .i64 (limE l)) ∧ Below w.heap.size w w' := by
 rw [limE_cases]
 obtain ⟨vo, lo, hi, ci, br, re⟩ := l
 simp only
 have H1 := Lib.hid (fun w' => bwithin_any vo 0 1000 w')
 have H2 := Lib.hid (fun w' => rLoaE_any lo w')
 have H3 := Lib.hid (fun w' => rLoaE_any hi w')
 have H4 := Lib.hid (fun w' => bwithin_any ci 0 1000 w')
 have H5 := Lib.hid (fun w' => bwithin_any br 0 1000 w')
 have H6 := Lib.hid (fun w' => bwithin_any re 0 1000 w')
 unfold loaE at H2 H3
 generalize wi vo 0 1000 = b1 at *
 generalize wi lo (-1000) 1000 = b2 at *
 generalize wi hi (-1000) 1000 = b3 at *
 generalize wi ci 0 1000 = b4 at *
 generalize wi br 0 1000 = b5 at *
 generalize wi re 0 1000 = b6 at *
 obtain ⟨V, hV⟩ : ∃ V : Int, V = if (b1 && b2 && b3) = false then 2 else if hi < lo then 9 else if (b4 && b5 && b6) = false then 2 else 0 := ⟨_, rfl⟩
 have HV := Lib.hid hV
 rw [← hV]
 clear hV
 have e1 : unl false 2 = 2 := rfl
 have e2 : unl true 2 = 0 := rfl
 go_enter Tryz.func55, Tryz.ntmps55
 go_wp2_with fail
 refine (H1.out _).mono ?_
 rintro e5 w5 ⟨rfl, rfl⟩
 cases b1
 ·go_wp2
  go_ret
  exact ⟨ret_int (by rw [HV.out]; simp), by (first|exact bwg|go_size)⟩
 ·go_wp2_with fail
  refine (H2.out _).mono ?_
  rintro e5 w5 ⟨rfl, rfl⟩
  cases b2
  ·go_wp2
   go_ret
   exact ⟨ret_int (by rw [HV.out]; simp), by (first|exact bwg|go_size)⟩
  ·go_wp2_with fail
   refine (H3.out _).mono ?_
   rintro e5 w5 ⟨rfl, rfl⟩
   cases b3
   ·go_wp2
    go_ret
    exact ⟨ret_int (by rw [HV.out]; simp), by (first|exact bwg|go_size)⟩
   ·by_cases h : hi < lo
    ·go_wp2
     go_ret
     exact ⟨ret_int (by rw [HV.out]; simp [h]), by (first|exact bwg|go_size)⟩
    ·go_wp2_with fail
     refine (H4.out _).mono ?_
     rintro e5 w5 ⟨rfl, rfl⟩
     cases b4
     ·go_wp2
      go_ret
      exact ⟨ret_int (by rw [HV.out]; simp [h]), by (first|exact bwg|go_size)⟩
     ·go_wp2_with fail
      refine (H5.out _).mono ?_
      rintro e5 w5 ⟨rfl, rfl⟩
      cases b5
      ·go_wp2
       go_ret
       exact ⟨ret_int (by rw [HV.out]; simp [h]), by (first|exact bwg|go_size)⟩
      ·go_wp2_with fail
       refine (H6.out _).mono ?_
       rintro e5 w5 ⟨rfl, rfl⟩
       cases b6
       all_goals
        go_wp2
        go_ret
        exact ⟨ret_int (by rw [HV.out]; simp [h]), by (first|exact bwg|go_size)⟩
theorem isClosed_any (s i : Nat) (w : World) (hs : s < 64) (hi : i < 8) : Calls Tryz.prog 64 #[.int .i64 (s : Int), .int .i64 (i : Int)] w fun e' w' => e' = .returned (.bool (s.testBit i)) ∧ w = w' := by
 have e1 := has_bits s hs i hi
 have i0 : (0 : Int) ≤ (i : Int) := by omega
 have i1 : (i : Int) ≤ 64 := by omega
 have i2 : ((i : Int)).toNat = i := by omega
 go_enter Tryz.func64, Tryz.ntmps64
 go_wp2
 go_ret
 exact ⟨ret_bool (by rw [← e1]), rfl⟩
theorem trn_minus : ∀ s < 64, ∀ i < 6, s.testBit i = true → ((s : Nat) : Int) - 2 ^ i = ((s ^^^ 2 ^ i : Nat) : Int) := by decide +kernel
theorem trn_plus : ∀ s < 64, ∀ i < 6, s.testBit i = false → ((s : Nat) : Int) + 2 ^ i = ((s ^^^ 2 ^ i : Nat) : Int) := by decide +kernel
theorem changed_any (s i : Nat) (w : World) (hs : s < 64) (hi : i < 6) : Calls Tryz.prog 30 #[.int .i64 (s : Int), .int .i64 (i : Int)] w fun e' w' => e' = .returned (.int .i64 ((trn s i : Nat) : Int)) ∧ w = w' := by
 obtain ⟨p, hp, w1, w2, p1, p2⟩ := pow_wrap (show i ≤ 8 by omega)
 have i0 : (0 : Int) ≤ (i : Int) := by omega
 have i1 : (i : Int) ≤ 64 := by omega
 have i2 : ((i : Int)).toNat = i := by omega
 have HC := Lib.hid (fun w' => isClosed_any s i w' hs (by omega))
 have w3 : IntKind.i64.wrap ((s : Int) - p) = (s : Int) - p := by rw [IntKind.wrap_i64]; omega
 have w4 : IntKind.i64.wrap ((s : Int) + p) = (s : Int) + p := by rw [IntKind.wrap_i64]; omega
 have h1 := trn_minus s hs i hi
 have h2 := trn_plus s hs i hi
 rw [← hp] at h1 h2
 unfold trn
 have HT := Lib.hid (And.intro h1 h2)
 clear hp h1 h2
 obtain ⟨b, hb⟩ : ∃ b, b = s.testBit i := ⟨_, rfl⟩
 rw [← hb] at HC HT
 clear hb
 cases b
 ·go_enter Tryz.func30, Tryz.ntmps30
  go_wp2_with fail
  refine (HC.out _).mono ?_
  rintro e5 w5 ⟨rfl, rfl⟩
  go_wp2
  go_ret
  exact ⟨ret_int (by first | exact HT.out.2 rfl | exact HT.out.2 trivial), rfl⟩
 ·go_enter Tryz.func30, Tryz.ntmps30
  go_wp2_with fail
  refine (HC.out _).mono ?_
  rintro e5 w5 ⟨rfl, rfl⟩
  go_wp2
  go_ret
  exact ⟨ret_int (by first | exact HT.out.1 rfl | exact HT.out.1 trivial), rfl⟩
/- Machines: the reference's check, copies; few, bothErr. -/
theorem macE_h {m : Mac} (h : macH m.br.length ≠ 0) : macE m = (0, macH m.br.length) := by unfold macE; rw [if_pos h]
theorem macE_b {m : Mac} (h : macH m.br.length = 0) (h2 : (firstAt (fun k => brnE (bAt m.br k)) m.br.length 0).2 ≠ 0) : macE m = firstAt (fun k => brnE (bAt m.br k)) m.br.length 0 := by
 unfold macE; rw [if_neg (by rw [h]; decide), if_pos h2]
theorem macE_k {m : Mac} (h : macH m.br.length = 0) (h2 : (firstAt (fun k => brnE (bAt m.br k)) m.br.length 0).2 = 0) (h3 : macK m ≠ 0) : macE m = (0, macK m) := by
 unfold macE; rw [if_neg (by rw [h]; decide), if_neg (by rw [h2]; decide), if_pos h3]
theorem macE_g {m : Mac} (h : macH m.br.length = 0) (h2 : (firstAt (fun k => brnE (bAt m.br k)) m.br.length 0).2 = 0) (h3 : macK m = 0) : macE m = firstAt (fun k => grdE m.br.length (gAt m.gs k)) m.gs.length 0 := by
 unfold macE; rw [if_neg (by rw [h]; decide), if_neg (by rw [h2]; decide), if_neg (by rw [h3]; decide)]
theorem macH_zero {n : Nat} : macH n = 0 ↔ 0 < n ∧ n ≤ 6 := by
 unfold macH
 rw [firstErr_cons, firstErr_cons, unl_eq_zero (by decide), unl_eq_zero (by decide), decide_eq_true_eq, decide_eq_true_eq]
 constructor
 ·rintro ⟨a, b, _⟩; omega
 ·rintro ⟨a, b⟩; exact ⟨a, by omega, rfl⟩
theorem macH_large {n : Nat} (h : 6 < n) : macH n = 8 := by
 unfold macH unl
 rw [decide_eq_true (show 0 < n by omega), decide_eq_false (show ¬ (n : Int) ≤ 6 by omega)]; rfl
theorem macK_st {m : Mac} (h : staE m.br.length m.st ≠ 0) : macK m = 2 := by
 unfold macK
 have : staE m.br.length m.st = 2 := by unfold staE unl at *; split <;> simp_all
 rw [this]; rfl
theorem macK_large {m : Mac} (h : staE m.br.length m.st = 0) (h2 : 30 < m.gs.length) : macK m = 8 := by
 unfold macK unl
 rw [h, decide_eq_false (show ¬ (m.gs.length : Int) ≤ 30 by omega)]; rfl
theorem macK_zero {m : Mac} (h : staE m.br.length m.st = 0) (h2 : m.gs.length ≤ 30) : macK m = 0 := by
 unfold macK unl
 rw [h, decide_eq_true (show (m.gs.length : Int) ≤ 30 by omega)]; rfl
theorem grdE_con {n : Nat} {g : Grd} (h : conE n g.c ≠ 0) : grdE n g = 6 := by
 unfold grdE
 have : conE n g.c = 6 := by unfold conE unl at *; split <;> simp_all
 rw [this]; rfl
theorem grdE_sta {n : Nat} {g : Grd} (h : conE n g.c = 0) (h2 : staE n g.ci ≠ 0 ∨ staE n g.op ≠ 0) : grdE n g = 2 := by
 unfold grdE
 rw [h]
 have : (isS n g.ci && isS n g.op) = false := by
  unfold staE unl at h2
  cases h3 : isS n g.ci <;> cases h4 : isS n g.op <;> simp_all
 rw [this]; rfl
theorem grdE_no {n : Nat} {g : Grd} (h : conE n g.c = 0) (h2 : staE n g.ci = 0) (h3 : staE n g.op = 0) : grdE n g = 0 := by
 unfold staE at h2 h3
 rw [unl_eq_zero (by decide)] at h2 h3
 unfold grdE
 rw [h, h2, h3]; rfl
set_option maxHeartbeats 2000000 in
set_option maxRecDepth 100000 in
theorem rCheckMachine_any (m : Mac) (ab ag : Option Addr) (nb cb ng cg : Nat) (w : World) (hb : BrR w ab nb m.br) (hg : GrR w ag ng m.gs) :
    Calls Tryz.prog 82 #[.agg #[.slice ab nb cb, .int .i64 m.st, .slice ag ng cg]] w fun e' w' => e' = .returned (.tuple #[.int .i64 (macE m).1, .int .i64 (macE m).2]) ∧ Below w.heap.size w w' := by
 have hnb := hb.small
 have hng := hg.small
 have HBR := Lib.hid (fun (W : World) (hbw : Below w.heap.size w W) => hb.below hbw)
 have HGR := Lib.hid (fun (W : World) (hbw : Below w.heap.size w W) => hg.below hbw)
 have HLB := Lib.hid hb.len
 have HLG := Lib.hid hg.len
 clear hb hg
 obtain ⟨br, st, gs⟩ := m
 simp only at HBR HGR HLB HLG ⊢
 obtain ⟨E, hE⟩ : ∃ E, E = macE ⟨br, st, gs⟩ := ⟨_, rfl⟩
 rw [← hE]
 obtain ⟨E1, E2⟩ := E
 have HE := Lib.hid hE
 clear hE
 simp only
 have HSE := Lib.hid (fun (h : nb ≤ 8) (s : Int) (W : World) => rStaE_any st nb cb ng cg ab ag s W h)
 have HCE := Lib.hid (fun (s : Int) (W : World) => rConE_any st nb cb ng cg ab ag s W hnb)
 have HWI := Lib.hid (fun (n lo hi : Int) w' => bwithin_any n lo hi w')
 go_enter Tryz.func82, Tryz.ntmps82
 by_cases h0 : nb = 0
 ·have b1 : ((nb : Int) == 0) = true := by simp; omega
  have hH : macE ⟨br, st, gs⟩ = (0, 10) := by
   rw [macE_h] <;> (have e : br.length = 0 := by rw [HLB.out]; exact h0) <;> (simp only [e]; decide)
  go_wp2
  go_ret2
  exact ⟨by have := HE.out.trans hH; simp only [Prod.mk.injEq] at this; rw [this.1, this.2]; rfl, by (first|exact bwg|go_size)⟩
 ·have b1 : ((nb : Int) == 0) = false := by simp; omega
  by_cases h6 : 6 < nb
  ·have b2 : (6 : Int) < (nb : Int) := by omega
   have hH : macE ⟨br, st, gs⟩ = (0, 8) := by
    have e := macH_large (n := br.length) (by rw [HLB.out]; exact h6)
    rw [macE_h (by rw [e]; decide), e]
   go_wp2
   go_ret2
   exact ⟨by have := HE.out.trans hH; simp only [Prod.mk.injEq] at this; rw [this.1, this.2]; rfl, by (first|exact bwg|go_size)⟩
  ·have b2 : ¬ (6 : Int) < (nb : Int) := by omega
   have HH := Lib.hid (show macH br.length = 0 from macH_zero.2 (by rw [HLB.out]; omega))
   have HSX := Lib.hid (HSE.out (by omega))
   have hn6 : nb ≤ 6 := by omega
   clear h6 HSE
   go_wp2_with fail
   obtain ⟨w1, hW⟩ : ∃ w1, w1 = w.alloc (Obj.cells #[.slice ab nb cb, .int .i64 st, .slice ag ng cg] 45) := ⟨_, rfl⟩
   rw [← hW]
   have hb1 : Below w.heap.size w w1 := by rw [hW]; (first|exact bwg|go_size)
   have kM : w1.heap[w.heap.size]? = some (.cells #[.slice ab nb cb, .int .i64 st, .slice ag ng cg] 45) := by rw [hW]; exact heap_alloc_new _ _
   have HB1 := Lib.hid hb1
   clear hW hb1
   have HB := Lib.hid (Below.refl w1.heap.size w1)
   have km := blk_below kM HB.out
   have q0 : w1.cell? ⟨w.heap.size, 0, none⟩ = some (.slice ab nb cb) := blk_cell km (i := 0) rfl
   have q1 : w1.cell? ⟨w.heap.size, 1, none⟩ = some (.int .i64 st) := blk_cell km (i := 1) rfl
   have q2 : w1.cell? ⟨w.heap.size, 2, none⟩ = some (.slice ag ng cg) := blk_cell km (i := 2) rfl
   have lr0 := blk_lt km
   clear km
   clear q0 q1 q2 lr0
   go_loopw [4] (fun i wr => ∃ k : Nat, i = .int .i64 (k : Int) ∧ k ≤ nb ∧ Hid (firstAt (fun k => brnE (bAt br k)) (nb - k) k = firstAt (fun k => brnE (bAt br k)) br.length 0) ∧ Hid (Below w1.heap.size w1 wr)) (fun i _ => nb - (intOf i).toNat)
   case atStart => exact ⟨0, rfl, Nat.zero_le _, Lib.hid (by rw [HLB.out]; rfl), Lib.hid (Below.refl _ _)⟩
   case round =>
    clear HB
    obtain ⟨k, rfl, hk, hF, HB⟩ := hrel
    have k0 : (0 : Int) ≤ (k : Int) := by omega
    have km := blk_below kM HB.out
    have q0 : wr.cell? ⟨w.heap.size, 0, none⟩ = some (.slice ab nb cb) := blk_cell km (i := 0) rfl
    have q1 : wr.cell? ⟨w.heap.size, 1, none⟩ = some (.int .i64 st) := blk_cell km (i := 1) rfl
    have q2 : wr.cell? ⟨w.heap.size, 2, none⟩ = some (.slice ag ng cg) := blk_cell km (i := 2) rfl
    have lr0 := blk_lt km
    clear km
    by_cases hlt : k < nb
    ·have k1 : (k : Int) < (nb : Int) := by omega
     obtain ⟨bb, ob, rfl, hbb, hcc⟩ := (HBR.out _ (HB1.out.trans (HB.out.mono HB1.out.size))).addr (by omega)
     obtain ⟨c0, c1⟩ := hcc k hlt
     have hF' := hF.out
     rw [firstAt_step hlt] at hF'
     obtain ⟨⟨t, r⟩, hx⟩ : ∃ x, x = bAt br k := ⟨_, rfl⟩
     rw [← hx] at c0 c1 hF'
     simp only at c0 c1
     have W1 := Lib.hid (fun w' => HWI.out t 0 1 w')
     have W2 := Lib.hid (fun w' => HWI.out r 0 10 w')
     rw [show brnE ⟨t, r⟩ = unl (wi t 0 1 && wi r 0 10) 2 from rfl] at hF'
     clear hcc hx
     generalize wi t 0 1 = b3 at *
     generalize wi r 0 10 = b4 at *
     have HF := Lib.hid hF'
     clear hF' hF
     go_wp2_with fail
     refine (W1.out _).mono ?_
     rintro e5 w5 ⟨rfl, rfl⟩
     cases b3
     ·have hH : macE ⟨br, st, gs⟩ = ((k : Int), 2) := by
        have e := HF.out
        rw [show unl (false && b4) 2 = 2 from rfl, if_pos (by decide)] at e
        rw [macE_b HH.out (by show (firstAt (fun k => brnE (bAt br k)) br.length 0).2 ≠ 0; rw [← e]; exact (show (2 : Int) ≠ 0 by decide))]
        exact e.symm
      go_wp2
      go_ret2
      exact ⟨by have := HE.out.trans hH; simp only [Prod.mk.injEq] at this; rw [this.1, this.2]; rfl, HB1.out.trans (HB.out.mono HB1.out.size)⟩
     ·go_wp2_with fail
      refine (W2.out _).mono ?_
      rintro e5 w5 ⟨rfl, rfl⟩
      cases b4
      ·have hH : macE ⟨br, st, gs⟩ = ((k : Int), 2) := by
         have e := HF.out
         rw [show unl (true && false) 2 = 2 from rfl, if_pos (by decide)] at e
         rw [macE_b HH.out (by show (firstAt (fun k => brnE (bAt br k)) br.length 0).2 ≠ 0; rw [← e]; exact (show (2 : Int) ≠ 0 by decide))]
         exact e.symm
       go_wp2
       go_ret2
       exact ⟨by have := HE.out.trans hH; simp only [Prod.mk.injEq] at this; rw [this.1, this.2]; rfl, HB1.out.trans (HB.out.mono HB1.out.size)⟩
      ·go_wp2_with fail
       go_roundw
       case rel => exact ⟨k + 1, by go_num, by omega, Lib.hid (by have e := HF.out; rw [show unl (true && true) 2 = 0 from rfl, if_neg (by decide)] at e; exact e), HB⟩
       case measure => simp [intOf]; omega
    ·have HF0 := Lib.hid (show (firstAt (fun k => brnE (bAt br k)) br.length 0).2 = 0 by rw [← hF.out, firstAt_end (by omega)])
     clear hF
     obtain ⟨es, hes⟩ : ∃ e, e = staE nb st := ⟨_, rfl⟩
     have HSS := Lib.hid (HSX.out st)
     rw [← hes] at HSS
     have HES := Lib.hid (show staE br.length st = es by rw [HLB.out]; exact hes.symm)
     clear hes
     go_wp2_with fail
     refine (HSS.out _).mono ?_
     rintro e6 w6 ⟨rfl, hb6⟩
     replace HB := bwt HB hb6
     clear hb6
     clear q0 q1 q2 lr0
     have km := blk_below kM HB.out
     have q0 : w6.cell? ⟨w.heap.size, 0, none⟩ = some (.slice ab nb cb) := blk_cell km (i := 0) rfl
     have q1 : w6.cell? ⟨w.heap.size, 1, none⟩ = some (.int .i64 st) := blk_cell km (i := 1) rfl
     have q2 : w6.cell? ⟨w.heap.size, 2, none⟩ = some (.slice ag ng cg) := blk_cell km (i := 2) rfl
     have lr0 := blk_lt km
     clear km
     by_cases h1 : es = 0
     ·subst h1
      by_cases h30 : 30 < ng
      ·have b3 : (30 : Int) < (ng : Int) := by omega
       have hH : macE ⟨br, st, gs⟩ = (0, 8) := by
        have e := macK_large (m := ⟨br, st, gs⟩) HES.out (by simp only; rw [HLG.out]; exact h30)
        rw [macE_k HH.out HF0.out (by rw [e]; decide), e]
       go_wp2
       go_ret2
       exact ⟨by have := HE.out.trans hH; simp only [Prod.mk.injEq] at this; rw [this.1, this.2]; rfl, HB1.out.trans (HB.out.mono HB1.out.size)⟩
      ·have b3 : ¬ (30 : Int) < (ng : Int) := by omega
       have HG := Lib.hid (show macE ⟨br, st, gs⟩ = firstAt (fun k => grdE nb (gAt gs k)) ng 0 by
        have e := macE_g (m := ⟨br, st, gs⟩) HH.out HF0.out (macK_zero HES.out (by simp only; rw [HLG.out]; omega))
        simp only [HLB.out, HLG.out] at e
        exact e)
       clear HF0 HH HES HSS
       go_wp2_with fail
       have HB6 := Lib.hid HB.out
       clear q0 q1 q2 lr0
       go_loopw [5] (fun i wr => ∃ k : Nat, i = .int .i64 (k : Int) ∧ k ≤ ng ∧ Hid (firstAt (fun k => grdE nb (gAt gs k)) (ng - k) k = macE ⟨br, st, gs⟩) ∧ Hid (Below w6.heap.size w6 wr)) (fun i _ => ng - (intOf i).toNat)
       case atStart => exact ⟨0, rfl, Nat.zero_le _, Lib.hid HG.out.symm, Lib.hid (Below.refl _ _)⟩
       case round =>
        clear HB
        obtain ⟨j, rfl, hj, hF, hB6⟩ := hrel
        have HB := bwt HB6 hB6.out
        have j0 : (0 : Int) ≤ (j : Int) := by omega
        have km := blk_below kM HB.out
        have q0 : wr.cell? ⟨w.heap.size, 0, none⟩ = some (.slice ab nb cb) := blk_cell km (i := 0) rfl
        have q1 : wr.cell? ⟨w.heap.size, 1, none⟩ = some (.int .i64 st) := blk_cell km (i := 1) rfl
        have q2 : wr.cell? ⟨w.heap.size, 2, none⟩ = some (.slice ag ng cg) := blk_cell km (i := 2) rfl
        have lr0 := blk_lt km
        clear km
        by_cases hlj : j < ng
        ·have j1 : (j : Int) < (ng : Int) := by omega
         obtain ⟨bb, ob, rfl, hbb, hcc⟩ := (HGR.out _ (HB1.out.trans (HB.out.mono HB1.out.size))).addr (by omega)
         obtain ⟨c0, c1, c2, c3⟩ := hcc j hlj
         have hF' := hF.out
         rw [firstAt_step hlj] at hF'
         obtain ⟨⟨gc, gl, gi, go⟩, hx⟩ : ∃ x, x = gAt gs j := ⟨_, rfl⟩
         rw [← hx] at c0 c1 c2 c3 hF'
         simp only at c0 c1 c2 c3
         have W1 := Lib.hid (HCE.out gc)
         have W2 := Lib.hid (HSX.out gi)
         have W3 := Lib.hid (HSX.out go)
         obtain ⟨x1, hx1⟩ : ∃ x, x = conE nb gc := ⟨_, rfl⟩
         obtain ⟨x2, hx2⟩ : ∃ x, x = staE nb gi := ⟨_, rfl⟩
         obtain ⟨x3, hx3⟩ : ∃ x, x = staE nb go := ⟨_, rfl⟩
         rw [← hx1] at W1
         rw [← hx2] at W2
         rw [← hx3] at W3
         have HX := Lib.hid (And.intro hx1 (And.intro hx2 hx3))
         have HF := Lib.hid hF'
         clear hcc hx hF' hF hx1 hx2 hx3
         go_wp2_with fail
         obtain ⟨X6, hX6⟩ : ∃ X, X = wr.heap.size := ⟨_, rfl⟩
         rw [← hX6]
         obtain ⟨wa, hW⟩ : ∃ wa, wa = wr.alloc (Obj.cells #[.int .i64 gc, .bool gl, .int .i64 gi, .int .i64 go] 77) := ⟨_, rfl⟩
         rw [← hW]
         have hba : Below wr.heap.size wr wa := by rw [hW]; (first|exact bwg|go_size)
         have k6 : wa.heap[X6]? = some (.cells #[.int .i64 gc, .bool gl, .int .i64 gi, .int .i64 go] 77) := by rw [hW, hX6]; exact heap_alloc_new _ _
         clear hW hX6 c0 c1 c2 c3 hbb
         replace hB6 := bwt hB6 hba
         replace HB := bwt HB hba
         clear hba
         clear q0 q1 q2 lr0
         have km := blk_below kM HB.out
         have q0 : wa.cell? ⟨w.heap.size, 0, none⟩ = some (.slice ab nb cb) := blk_cell km (i := 0) rfl
         have q1 : wa.cell? ⟨w.heap.size, 1, none⟩ = some (.int .i64 st) := blk_cell km (i := 1) rfl
         have q2 : wa.cell? ⟨w.heap.size, 2, none⟩ = some (.slice (some ⟨bb, ob, none⟩) ng cg) := blk_cell km (i := 2) rfl
         have lr0 := blk_lt km
         clear km
         have g0 := blk_cell k6 (i := 0) rfl
         have g2 := blk_cell k6 (i := 2) rfl
         have g3 := blk_cell k6 (i := 3) rfl
         have l6 := blk_lt k6
         have HK6 := Lib.hid k6
         clear k6
         go_wp2_with fail
         refine (W1.out _).mono ?_
         rintro e7 w7 ⟨rfl, hb7⟩
         have k7 := blk_below HK6.out hb7
         clear g0 g2 g3 l6
         replace hB6 := bwt hB6 hb7
         replace HB := bwt HB hb7
         clear hb7
         clear q0 q1 q2 lr0
         have km := blk_below kM HB.out
         have q0 : w7.cell? ⟨w.heap.size, 0, none⟩ = some (.slice ab nb cb) := blk_cell km (i := 0) rfl
         have q1 : w7.cell? ⟨w.heap.size, 1, none⟩ = some (.int .i64 st) := blk_cell km (i := 1) rfl
         have q2 : w7.cell? ⟨w.heap.size, 2, none⟩ = some (.slice (some ⟨bb, ob, none⟩) ng cg) := blk_cell km (i := 2) rfl
         have lr0 := blk_lt km
         clear km
         have g2 := blk_cell k7 (i := 2) rfl
         have g3 := blk_cell k7 (i := 3) rfl
         have l6 := blk_lt k7
         have HK7 := Lib.hid k7
         clear k7
         by_cases h2 : x1 = 0
         ·subst h2
          go_wp2_with fail
          refine (W2.out _).mono ?_
          rintro e8 w8 ⟨rfl, hb8⟩
          have k8 := blk_below HK7.out hb8
          clear g2 g3 l6
          replace hB6 := bwt hB6 hb8
          replace HB := bwt HB hb8
          clear hb8
          clear q0 q1 q2 lr0
          have km := blk_below kM HB.out
          have q0 : w8.cell? ⟨w.heap.size, 0, none⟩ = some (.slice ab nb cb) := blk_cell km (i := 0) rfl
          have q1 : w8.cell? ⟨w.heap.size, 1, none⟩ = some (.int .i64 st) := blk_cell km (i := 1) rfl
          have q2 : w8.cell? ⟨w.heap.size, 2, none⟩ = some (.slice (some ⟨bb, ob, none⟩) ng cg) := blk_cell km (i := 2) rfl
          have lr0 := blk_lt km
          clear km
          have g3 := blk_cell k8 (i := 3) rfl
          have l6 := blk_lt k8
          have HK8 := Lib.hid k8
          clear k8
          by_cases h3 : x2 = 0
          ·subst h3
           go_wp2_with fail
           refine (W3.out _).mono ?_
           rintro e9 w9 ⟨rfl, hb9⟩
           clear g3 l6
           replace hB6 := bwt hB6 hb9
           replace HB := bwt HB hb9
           clear hb9
           clear q0 q1 q2 lr0
           have km := blk_below kM HB.out
           have q0 : w9.cell? ⟨w.heap.size, 0, none⟩ = some (.slice ab nb cb) := blk_cell km (i := 0) rfl
           have q1 : w9.cell? ⟨w.heap.size, 1, none⟩ = some (.int .i64 st) := blk_cell km (i := 1) rfl
           have q2 : w9.cell? ⟨w.heap.size, 2, none⟩ = some (.slice (some ⟨bb, ob, none⟩) ng cg) := blk_cell km (i := 2) rfl
           have lr0 := blk_lt km
           clear km
           by_cases h4 : x3 = 0
           ·subst h4
            have hz : grdE nb ⟨gc, gl, gi, go⟩ = 0 := grdE_no HX.out.1.symm HX.out.2.1.symm HX.out.2.2.symm
            go_wp2_with fail
            go_roundw
            case rel => exact ⟨j + 1, by go_num, by omega, Lib.hid (by have e := HF.out; rw [hz, if_neg (by decide)] at e; exact e), hB6⟩
            case measure => simp [intOf]; omega
           ·have e4 := bne_iff_ne.2 h4
            have hz : grdE nb ⟨gc, gl, gi, go⟩ = 2 := grdE_sta HX.out.1.symm (.inr (by rw [← HX.out.2.2]; exact h4))
            have hH : macE ⟨br, st, gs⟩ = ((j : Int), 2) := by have e := HF.out; rw [hz, if_pos (by decide)] at e; exact e.symm
            go_wp2
            go_ret2
            exact ⟨by have := HE.out.trans hH; simp only [Prod.mk.injEq] at this; rw [this.1, this.2]; rfl, HB1.out.trans (HB.out.mono HB1.out.size)⟩
          ·have e4 := bne_iff_ne.2 h3
           have hz : grdE nb ⟨gc, gl, gi, go⟩ = 2 := grdE_sta HX.out.1.symm (.inl (by rw [← HX.out.2.1]; exact h3))
           have hH : macE ⟨br, st, gs⟩ = ((j : Int), 2) := by have e := HF.out; rw [hz, if_pos (by decide)] at e; exact e.symm
           go_wp2
           go_ret2
           exact ⟨by have := HE.out.trans hH; simp only [Prod.mk.injEq] at this; rw [this.1, this.2]; rfl, HB1.out.trans (HB.out.mono HB1.out.size)⟩
         ·have e4 := bne_iff_ne.2 h2
          have hz : grdE nb ⟨gc, gl, gi, go⟩ = 6 := grdE_con (by rw [← HX.out.1]; exact h2)
          have hH : macE ⟨br, st, gs⟩ = ((j : Int), 6) := by have e := HF.out; rw [hz, if_pos (by decide)] at e; exact e.symm
          go_wp2
          go_ret2
          exact ⟨by have := HE.out.trans hH; simp only [Prod.mk.injEq] at this; rw [this.1, this.2]; rfl, HB1.out.trans (HB.out.mono HB1.out.size)⟩
        ·have hH : macE ⟨br, st, gs⟩ = (0, 0) := by rw [← hF.out, firstAt_end (by omega)]
         clear hF
         go_wp2
         go_ret2
         exact ⟨by have := HE.out.trans hH; simp only [Prod.mk.injEq] at this; rw [this.1, this.2]; rfl, HB1.out.trans (HB.out.mono HB1.out.size)⟩
     ·have e1 := bne_iff_ne.2 h1
      have hH : macE ⟨br, st, gs⟩ = (0, 2) := by
       have e := macK_st (m := ⟨br, st, gs⟩) (by simp only; rw [HES.out]; exact h1)
       rw [macE_k HH.out HF0.out (by rw [e]; decide), e]
      go_wp2
      go_ret2
      exact ⟨by have := HE.out.trans hH; simp only [Prod.mk.injEq] at this; rw [this.1, this.2]; rfl, HB1.out.trans (HB.out.mono HB1.out.size)⟩
/- A region that draws its order, by a tree of schedules: reads first, forced operations, and forks where one of two comes. -/
inductive Sch where
 | done : Sch
 | head : Nat → Sch → Sch
 | one : Nat → Sch → Sch
 | two : Nat → Sch → Nat → Sch → Sch
 | three : Nat → Sch → Nat → Sch → Nat → Sch → Sch
def Sch.depth : Sch → Nat
 | .done => 0
 | .head _ k => k.depth + 1
 | .one _ k => k.depth + 1
 | .two _ k _ l => max k.depth l.depth + 1
 | .three _ k _ l _ n => max k.depth (max l.depth n.depth) + 1
section
variable {P : Program} {l : List Oper} {md : Region.Mode} {S : World → Prop} {Q : Exit → Act → World → Prop}
def treeB (md : Region.Mode) (ops : Array Oper) : Sch → Array Bool → Bool
 | .done, listed => decide (Region.ready md ops listed = [])
 | .head h k, listed => (Region.ready md ops listed).contains h && Region.free md ops listed h && (match ops[h]? with | some o => plainOp o | none => false) && treeB md ops k (listed.setIfInBounds h true)
 | .one t k, listed => decide (Region.ready md ops listed = [t]) && decide (t < ops.size) && treeB md ops k (listed.setIfInBounds t true)
 | .two i k j m, listed => decide (Region.ready md ops listed = [i, j]) && decide (i < ops.size) && decide (j < ops.size) && treeB md ops k (listed.setIfInBounds i true) && treeB md ops m (listed.setIfInBounds j true)
 | .three i k j m t n, listed => decide (Region.ready md ops listed = [i, j, t]) && decide (i < ops.size) && decide (j < ops.size) && decide (t < ops.size) && treeB md ops k (listed.setIfInBounds i true) && treeB md ops m (listed.setIfInBounds j true) && treeB md ops n (listed.setIfInBounds t true)
def wpTree (P : Program) (l : List Oper) (S : World → Prop) (Q : Exit → Act → World → Prop) : Sch → Act → World → Prop
 | .done, a, w => Q .normal a w
 | .head h k, a, w => match l[h]? with | some o => wpQuiet P l.toArray S (fun a' => wpTree P l S Q k a' w) [o] a | none => False
 | .one t k, a, w => match l[t]? with | some o => wpList P l.toArray (tailQ S Q (wpTree P l S Q k)) [o] a w | none => False
 | .two i k j m, a, w => (match l[i]? with | some o => wpList P l.toArray (tailQ S Q (wpTree P l S Q k)) [o] a w | none => False) ∧
     (match l[j]? with | some o => wpList P l.toArray (tailQ S Q (wpTree P l S Q m)) [o] a w | none => False)
 | .three i k j m t n, a, w => (match l[i]? with | some o => wpList P l.toArray (tailQ S Q (wpTree P l S Q k)) [o] a w | none => False) ∧
     (match l[j]? with | some o => wpList P l.toArray (tailQ S Q (wpTree P l S Q m)) [o] a w | none => False) ∧
     (match l[t]? with | some o => wpList P l.toArray (tailQ S Q (wpTree P l S Q n)) [o] a w | none => False)
theorem tree_anyH (hsel : Region.noSelect l.toArray = true) : ∀ (s : Sch) (fuel : Nat) (listed : Array Bool) (a : Act) (w : World), s.depth ≤ fuel → treeB md l.toArray s listed = true → S w →
    wpTree P l S Q s a w → wpAnyH P md l.toArray (NoPanic Q) S fuel listed a w
 | .done, fuel, listed, a, w, _, hB, _, h => by
  simp only [treeB, decide_eq_true_eq] at hB
  exact wpAnyH_done (Q := NoPanic Q) hB h fuel
 | .head x k, 0, listed, a, w, hd, _, _, _ => by simp [Sch.depth] at hd
 | .one x k, 0, listed, a, w, hd, _, _, _ => by simp [Sch.depth] at hd
 | .two x k y m, 0, listed, a, w, hd, _, _, _ => by simp [Sch.depth] at hd
 | .three x k y m t n, 0, listed, a, w, hd, _, _, _ => by simp [Sch.depth] at hd
 | .head x k, fuel + 1, listed, a, w, hd, hB, hS, h => by
  simp only [treeB, Bool.and_eq_true] at hB
  simp only [Sch.depth] at hd
  have hx : x < l.length := by
   have h2 := hB.1.2
   by_cases hx : x < l.length
   ·exact hx
   ·rw [Array.getElem?_eq_none (by simpa using hx)] at h2; cases h2
  have ho : l.toArray[x]? = some l[x] := by simp [hx]
  have ho' : l[x]? = some l[x] := by simp [hx]
  rw [ho] at hB
  simp only [wpTree, ho'] at h
  have hst : qOp P l.toArray S x (wpQuiet P l.toArray S (fun a' => wpTree P l S Q k a' w) []) a := by unfold qOp; simp only [ho]; exact h
  obtain ⟨v, hy, hK⟩ := yieldsIn_of_qOp ho hst
  exact wpAnyH_take ho hsel hB.1.1.2 hB.1.1.1 (fun _ _ _ h => h.elim) (yieldsIf_of_in hB.1.2 hy) hS (tree_anyH hsel k fuel _ _ w (by omega) hB.2 hS hK)
 | .one t k, fuel + 1, listed, a, w, hd, hB, hS, h => by
  simp only [treeB, Bool.and_eq_true, decide_eq_true_eq] at hB
  simp only [Sch.depth] at hd
  have ht : t < l.length := by simpa using hB.1.2
  have ho : l.toArray[t]? = some l[t] := by simp [ht]
  have ho' : l[t]? = some l[t] := by simp [ht]
  simp only [wpTree, ho'] at h
  refine wpAnyH_all hB.1.1 (by simp) (fun i hi => ?_)
  have hit : i = t := by simpa using hi
  subst hit
  exact wpOp_mono (fun a' w' hh => ⟨hh.1, tree_anyH hsel k fuel _ a' w' (by omega) hB.2 hh.1 hh.2⟩) (wpOp_of_tail ho h)
 | .two x k y m, fuel + 1, listed, a, w, hd, hB, hS, h => by
  simp only [treeB, Bool.and_eq_true, decide_eq_true_eq] at hB
  simp only [Sch.depth] at hd
  obtain ⟨⟨⟨⟨hr, hx⟩, hy⟩, hk⟩, hm⟩ := hB
  have hx' : x < l.length := by simpa using hx
  have hy' : y < l.length := by simpa using hy
  have ho : l.toArray[x]? = some l[x] := by simp [hx']
  have ho' : l[x]? = some l[x] := by simp [hx']
  have hq : l.toArray[y]? = some l[y] := by simp [hy']
  have hq' : l[y]? = some l[y] := by simp [hy']
  simp only [wpTree, ho', hq'] at h
  refine wpAnyH_all hr (by simp) (fun i hi => ?_)
  rcases (by simpa using hi : i = x ∨ i = y) with rfl | rfl
  ·exact wpOp_mono (fun a' w' hh => ⟨hh.1, tree_anyH hsel k fuel _ a' w' (by omega) hk hh.1 hh.2⟩) (wpOp_of_tail ho h.1)
  ·exact wpOp_mono (fun a' w' hh => ⟨hh.1, tree_anyH hsel m fuel _ a' w' (by omega) hm hh.1 hh.2⟩) (wpOp_of_tail hq h.2)
 | .three x k y m z n, fuel + 1, listed, a, w, hd, hB, hS, h => by
  simp only [treeB, Bool.and_eq_true, decide_eq_true_eq] at hB
  simp only [Sch.depth] at hd
  obtain ⟨⟨⟨⟨⟨⟨hr, hx⟩, hy⟩, hz⟩, hk⟩, hm⟩, hn⟩ := hB
  have hx' : x < l.length := by simpa using hx
  have hy' : y < l.length := by simpa using hy
  have hz' : z < l.length := by simpa using hz
  have ho : l.toArray[x]? = some l[x] := by simp [hx']
  have ho' : l[x]? = some l[x] := by simp [hx']
  have hq : l.toArray[y]? = some l[y] := by simp [hy']
  have hq' : l[y]? = some l[y] := by simp [hy']
  have hp : l.toArray[z]? = some l[z] := by simp [hz']
  have hp' : l[z]? = some l[z] := by simp [hz']
  simp only [wpTree, ho', hq', hp'] at h
  refine wpAnyH_all hr (by simp) (fun i hi => ?_)
  rcases (by simpa using hi : i = x ∨ i = y ∨ i = z) with rfl | rfl | rfl
  ·exact wpOp_mono (fun a' w' hh => ⟨hh.1, tree_anyH hsel k fuel _ a' w' (by omega) hk hh.1 hh.2⟩) (wpOp_of_tail ho h.1)
  ·exact wpOp_mono (fun a' w' hh => ⟨hh.1, tree_anyH hsel m fuel _ a' w' (by omega) hm hh.1 hh.2⟩) (wpOp_of_tail hq h.2.1)
  ·exact wpOp_mono (fun a' w' hh => ⟨hh.1, tree_anyH hsel n fuel _ a' w' (by omega) hn hh.1 hh.2⟩) (wpOp_of_tail hp h.2.2)
def treeOk (ops : Array Oper) (s : Sch) : Bool :=
 Region.noSelect ops && decide (s.depth ≤ ops.size) && treeB .any ops s (Array.replicate ops.size false)
theorem wp_region_tree {id : Nat} {a : Act} {w : World} (s : Sch) (S : World → Prop) (hm : P.follows .mixedOrders = true) (hB : treeOk l.toArray s = true) (hS : S w.drew)
    (h : wpTree P l S Q s a w.drew) : (Code.region id l.toArray true).wp P Q a w := by
 simp only [treeOk, Bool.and_eq_true, decide_eq_true_eq] at hB
 refine wp_region_noPanic (wp_region_held (S := S) hm ?_)
 exact tree_anyH hB.1.1 s _ _ a _ hB.1.2 hB.2 hS h
theorem wp_region_laterT {B : Nat} {id : Nat} {a : Act} {w : World} (s : Sch) (hm : P.follows .mixedOrders = true) (hB : treeOk l.toArray s = true)
    (h : wpTree P l (fun w' => ∃ u : LaterB B w, w' = u.world) Q s a w.drew) : (Code.region id l.toArray true).wp P Q a w :=
 wp_region_tree s _ hm hB ⟨⟨_, (Below.refl B w).drew⟩, rfl⟩ h
theorem tree_head {h : Nat} {o : Oper} {k : Sch} {a : Act} {w : World} (ho : l[h]? = some o) (hh : wpQuiet P l.toArray S (fun a' => wpTree P l S Q k a' w) [o] a) : wpTree P l S Q (.head h k) a w := by
 simp only [wpTree, ho]; exact hh
theorem tree_one {t : Nat} {o : Oper} {k : Sch} {a : Act} {w : World} (ho : l[t]? = some o) (hh : wpList P l.toArray (tailQ S Q (wpTree P l S Q k)) [o] a w) : wpTree P l S Q (.one t k) a w := by
 simp only [wpTree, ho]; exact hh
theorem tree_two {i j : Nat} {o o2 : Oper} {k m : Sch} {a : Act} {w : World} (ho : l[i]? = some o) (hq : l[j]? = some o2) (h1 : wpList P l.toArray (tailQ S Q (wpTree P l S Q k)) [o] a w) (h2 : wpList P l.toArray (tailQ S Q (wpTree P l S Q m)) [o2] a w) : wpTree P l S Q (.two i k j m) a w := by
 simp only [wpTree, ho, hq]; exact ⟨h1, h2⟩
theorem tree_done {a : Act} {w : World} (h : Q .normal a w) : wpTree P l S Q .done a w := h
end
end Go.Proofs.YtdjinmieogpgcaaGreat
