import Derived.Test.YtidboecjllaofaaGreatUTElx
/- The exported functions of safe states and changes, and of breaks: the program. -/
namespace Go.Proofs.YtidboecjllaofaaGreat
open Go.RowKit Go.Shelf
set_option linter.unusedVariables false
set_option linter.unusedSimpArgs false
def chsZ (m : Mac) (l : Lim) (s : Int) : Int := firstErr [opnE m l, staE m.br.length s]
def chsE (m : Mac) (l : Lim) (s : Int) : Int := if chsZ m l s ≠ 0 then chsZ m l s else safE m l s.toNat
def chmZ (m : Mac) (l : Lim) (s i : Int) : Int := firstErr [opnE m l, staE m.br.length s, conE m.br.length i]
def chmE (m : Mac) (l : Lim) (s i : Int) : Int := if chmZ m l s i ≠ 0 then chmZ m l s i else chgE m l s.toNat i.toNat
theorem chsZ_zero {m : Mac} {l : Lim} {s : Int} (h : chsZ m l s = 0) : MacV m ∧ limE l = 0 ∧ ∃ n : Nat, s = (n : Int) ∧ n < 2 ^ m.br.length := by
 unfold chsZ at h
 rw [firstErr_cons, firstErr_cons, staE_zero] at h
 obtain ⟨hm, hl⟩ := opnE_zero h.1
 refine ⟨hm, hl, s.toNat, by omega, ?_⟩
 have : ((2 ^ m.br.length : Nat) : Int) = (2 : Int) ^ m.br.length := by push_cast; rfl
 omega
theorem chmZ_zero {m : Mac} {l : Lim} {s i : Int} (h : chmZ m l s i = 0) : MacV m ∧ limE l = 0 ∧ (∃ n : Nat, s = (n : Int) ∧ n < 2 ^ m.br.length) ∧ ∃ k : Nat, i = (k : Int) ∧ k < m.br.length := by
 unfold chmZ at h
 rw [firstErr_cons, firstErr_cons, firstErr_cons, staE_zero, conE_zero] at h
 obtain ⟨hm, hl⟩ := opnE_zero h.1
 refine ⟨hm, hl, ⟨s.toNat, by omega, ?_⟩, i.toNat, by omega, by omega⟩
 have : ((2 ^ m.br.length : Nat) : Int) = (2 : Int) ^ m.br.length := by push_cast; rfl
 omega
set_option maxHeartbeats 1000000 in
set_option maxRecDepth 100000 in
theorem checkState_any (m : Mac) (l : Lim) (s : Int) (ab ag : Option Addr) (nb cb ng cg : Nat) (w : World) (hb : BrR w ab nb m.br) (hg : GrR w ag ng m.gs) (h8 : nb ≤ 8) :
    Calls Tryz.prog 60 #[.agg #[.slice ab nb cb, .int .i64 m.st, .slice ag ng cg], .agg #[.int .i64 l.volt, .int .i64 l.lo, .int .i64 l.hi, .int .i64 l.circ, .int .i64 l.brk, .int .i64 l.ret], .int .i64 s] w
     fun e' w' => e' = .returned (.int .i64 (chsE m l s)) ∧ Below w.heap.size w w' := by
 have HO := Lib.hid (fun (W : World) (hbw : Below w.heap.size w W) => open_any m l ab ag nb cb ng cg W (hb.below hbw) (hg.below hbw))
 have HST := Lib.hid (fun (W : World) => m_staE_any m.st nb cb ng cg ab ag s W h8)
 have HSA := Lib.hid (fun (h : chsZ m l s = 0) => show ∃ n : Nat, s = (n : Int) ∧ ∀ (W : World), Below w.heap.size w W → Calls Tryz.prog 139 #[.agg #[.slice ab nb cb, .int .i64 m.st, .slice ag ng cg, .int .i64 l.volt, .int .i64 l.lo, .int .i64 l.hi, .int .i64 l.circ, .int .i64 l.brk, .int .i64 l.ret], .int .i64 (n : Int)] W (fun e' w' => e' = .returned (.int .i64 (safE m l n)) ∧ Below W.heap.size W w') from by
  obtain ⟨hm, hl, n, rfl, hn⟩ := chsZ_zero h
  exact ⟨n, rfl, fun W hbw => safe_any m l n ab ag nb cb ng cg W hm hl (hb.below hbw) (by rw [← hb.len]; exact hn)⟩)
 have hV : chsE m l s = if chsZ m l s ≠ 0 then chsZ m l s else safE m l s.toNat := rfl
 have hZ : chsZ m l s = firstErr [opnE m l, staE nb s] := by unfold chsZ; rw [hb.len]
 rw [show firstErr [(macE m).2, limE l] = opnE m l from rfl] at HO
 generalize chsE m l s = V at *
 generalize chsZ m l s = E at *
 generalize opnE m l = E1 at *
 generalize staE nb s = E2 at *
 obtain ⟨CT, hCT⟩ : ∃ CT : Nat → Int, ∀ n, CT n = safE m l n := ⟨fun n => safE m l n, fun _ => rfl⟩
 simp only [← hCT] at HSA hV
 have HV := Lib.hid hV
 have HZ := Lib.hid hZ
 obtain ⟨vo, lo, hi, ci, br, re⟩ := l
 obtain ⟨st, hst⟩ : ∃ x, x = m.st := ⟨_, rfl⟩
 rw [← hst] at HO HST HSA ⊢
 simp only at HO HSA ⊢
 clear hb hg hst hCT hV hZ
 go_enter Tryz.func60, Tryz.ntmps60
 go_wp2_with fail
 refine (HO.out _ (by (repeat' first|(with_reducible first|exact bw1|assumption|refine bw2 ?_ _|refine bw3 ?_ ?_ _|refine bw4 ?_|refine bw5 ?_ ?_ _|refine bw6 (by assumption) ?_ ?_|exact And.left (by assumption))|go_size))).mono ?_
 rintro e5 w5 ⟨rfl, hb5⟩
 have HB5 := Lib.hid (show Below w.heap.size w w5 by (repeat' first|(with_reducible first|exact bw1|assumption|refine bw2 ?_ _|refine bw3 ?_ ?_ _|refine bw4 ?_|refine bw5 ?_ ?_ _|refine bw6 (by assumption) ?_ ?_|exact And.left (by assumption))|go_size))
 clear hb5 HO
 obtain ⟨w6, hW⟩ : ∃ w6, w6 = w5.alloc (Obj.cells #[.slice ab nb cb, .int .i64 st, .slice ag ng cg, .int .i64 vo, .int .i64 lo, .int .i64 hi, .int .i64 ci, .int .i64 br, .int .i64 re] 164) := ⟨_, rfl⟩
 have hb6 : Below w5.heap.size w5 w6 := by rw [hW]; (repeat' first|(with_reducible first|exact bw1|assumption|refine bw2 ?_ _|refine bw3 ?_ ?_ _|refine bw4 ?_|refine bw5 ?_ ?_ _|refine bw6 (by assumption) ?_ ?_|exact And.left (by assumption))|go_size)
 have k6 : BlkR w6 w5.heap.size (.cells #[.slice ab nb cb, .int .i64 st, .slice ag ng cg, .int .i64 vo, .int .i64 lo, .int .i64 hi, .int .i64 ci, .int .i64 br, .int .i64 re] 164) := by show w6.heap[w5.heap.size]? = _; rw [hW]; exact heap_alloc_new _ _
 have HB6 := Lib.hid (HB5.out.trans (hb6.mono HB5.out.size))
 obtain ⟨X6, hX6⟩ : ∃ X, X = w5.heap.size := ⟨_, rfl⟩
 rw [← hX6] at k6
 have K6 := Lib.hid k6
 clear hb6 k6
 obtain ⟨c6, c6_1, c6_2, c6_3, c6_4, c6_5, c6_6, c6_7, c6_8, l6⟩ := blkc9 K6.out
 go_wp2_with fail
 rw [← hW]
 simp only [← hX6]
 clear hW hX6
 refine (HST.out _).mono ?_
 rintro e7 w7 ⟨rfl, hb7⟩
 have K6 := Lib.hid (K6.out.below hb7)
 have HB := Lib.hid (HB6.out.trans (hb7.mono HB6.out.size))
 clear hb7 HST
 clear c6 c6_1 c6_2 c6_3 c6_4 c6_5 c6_6 c6_7 c6_8 l6
 go_wp2_with fail
 refine (t_first2 _ _ _ _ _ _ (by rfl) (by simp)).mono ?_
 rintro e8 w8 ⟨rfl, hw8⟩
 rw [← HZ.out]
 have hb8 : Below w7.heap.size w7 w8 := by rw [← hw8]; (repeat' first|(with_reducible first|exact bw1|assumption|refine bw2 ?_ _|refine bw3 ?_ ?_ _|refine bw4 ?_|refine bw5 ?_ ?_ _|refine bw6 (by assumption) ?_ ?_|exact And.left (by assumption))|go_size)
 have K6 := Lib.hid (K6.out.below hb8)
 have HB := Lib.hid (HB.out.trans (hb8.mono HB.out.size))
 clear hb8 hw8
 obtain ⟨c6, c6_1, c6_2, c6_3, c6_4, c6_5, c6_6, c6_7, c6_8, l6⟩ := blkc9 K6.out
 by_cases h0 : E = 0
 ·subst h0
  obtain ⟨n, rfl, hcw⟩ := HSA.out (by trivial)
  have HCW := Lib.hid (hcw w8 HB.out)
  have HVN := Lib.hid (show V = CT n from HV.out.trans (by rw [if_neg (by simp), Int.toNat_natCast]))
  clear hcw HSA HV
  go_wp2_with fail
  refine HCW.out.mono ?_
  rintro e9 w9 ⟨rfl, hb9⟩
  go_wp2
  go_ret
  exact ⟨ret_int (by rw [HVN.out]), HB.out.trans (hb9.mono HB.out.size)⟩
 ·have e1 := bne_iff_ne.2 h0
  have HVN := Lib.hid (show V = E from HV.out.trans (if_pos h0))
  clear h0 HSA HV
  go_wp2
  go_ret
  exact ⟨ret_int (by rw [HVN.out]), HB.out⟩
set_option maxHeartbeats 1000000 in
set_option maxRecDepth 100000 in
theorem checkMove_any (m : Mac) (l : Lim) (s i : Int) (ab ag : Option Addr) (nb cb ng cg : Nat) (w : World) (hb : BrR w ab nb m.br) (hg : GrR w ag ng m.gs) (h8 : nb ≤ 8) :
    Calls Tryz.prog 61 #[.agg #[.slice ab nb cb, .int .i64 m.st, .slice ag ng cg], .agg #[.int .i64 l.volt, .int .i64 l.lo, .int .i64 l.hi, .int .i64 l.circ, .int .i64 l.brk, .int .i64 l.ret], .int .i64 s, .int .i64 i] w
     fun e' w' => e' = .returned (.int .i64 (chmE m l s i)) ∧ Below w.heap.size w w' := by
 have HO := Lib.hid (fun (W : World) (hbw : Below w.heap.size w W) => open_any m l ab ag nb cb ng cg W (hb.below hbw) (hg.below hbw))
 have HST := Lib.hid (fun (W : World) => m_staE_any m.st nb cb ng cg ab ag s W h8)
 have HCO := Lib.hid (fun (W : World) => m_conE_any m.st nb cb ng cg ab ag i W (by omega))
 have HSA := Lib.hid (fun (h : chmZ m l s i = 0) => show ∃ n k : Nat, s = (n : Int) ∧ i = (k : Int) ∧ ∀ (W : World), Below w.heap.size w W → Calls Tryz.prog 140 #[.agg #[.slice ab nb cb, .int .i64 m.st, .slice ag ng cg, .int .i64 l.volt, .int .i64 l.lo, .int .i64 l.hi, .int .i64 l.circ, .int .i64 l.brk, .int .i64 l.ret], .int .i64 (n : Int), .int .i64 (k : Int)] W (fun e' w' => e' = .returned (.int .i64 (chgE m l n k)) ∧ Below W.heap.size W w') from by
  obtain ⟨hm, hl, ⟨n, rfl, hn⟩, k, rfl, hk⟩ := chmZ_zero h
  exact ⟨n, k, rfl, rfl, fun W hbw => change_any m l n k ab ag nb cb ng cg W hm hl (hb.below hbw) (hg.below hbw) (by rw [← hb.len]; exact hn) (by rw [← hb.len]; exact hk)⟩)
 have hV : chmE m l s i = if chmZ m l s i ≠ 0 then chmZ m l s i else chgE m l s.toNat i.toNat := rfl
 have hZ : chmZ m l s i = firstErr [opnE m l, staE nb s, conE nb i] := by unfold chmZ; rw [hb.len]
 rw [show firstErr [(macE m).2, limE l] = opnE m l from rfl] at HO
 generalize chmE m l s i = V at *
 generalize chmZ m l s i = E at *
 generalize opnE m l = E1 at *
 generalize staE nb s = E2 at *
 generalize conE nb i = E3 at *
 obtain ⟨CT, hCT⟩ : ∃ CT : Nat → Nat → Int, ∀ n k, CT n k = chgE m l n k := ⟨fun n k => chgE m l n k, fun _ _ => rfl⟩
 simp only [← hCT] at HSA hV
 have HV := Lib.hid hV
 have HZ := Lib.hid hZ
 obtain ⟨vo, lo, hi, ci, br, re⟩ := l
 obtain ⟨st, hst⟩ : ∃ x, x = m.st := ⟨_, rfl⟩
 rw [← hst] at HO HST HCO HSA ⊢
 simp only at HO HSA ⊢
 clear hb hg hst hCT hV hZ
 go_enter Tryz.func61, Tryz.ntmps61
 go_wp2_with fail
 refine (HO.out _ (by (repeat' first|(with_reducible first|exact bw1|assumption|refine bw2 ?_ _|refine bw3 ?_ ?_ _|refine bw4 ?_|refine bw5 ?_ ?_ _|refine bw6 (by assumption) ?_ ?_|exact And.left (by assumption))|go_size))).mono ?_
 rintro e5 w5 ⟨rfl, hb5⟩
 have HB5 := Lib.hid (show Below w.heap.size w w5 by (repeat' first|(with_reducible first|exact bw1|assumption|refine bw2 ?_ _|refine bw3 ?_ ?_ _|refine bw4 ?_|refine bw5 ?_ ?_ _|refine bw6 (by assumption) ?_ ?_|exact And.left (by assumption))|go_size))
 clear hb5 HO
 obtain ⟨w6, hW⟩ : ∃ w6, w6 = w5.alloc (Obj.cells #[.slice ab nb cb, .int .i64 st, .slice ag ng cg, .int .i64 vo, .int .i64 lo, .int .i64 hi, .int .i64 ci, .int .i64 br, .int .i64 re] 164) := ⟨_, rfl⟩
 have hb6 : Below w5.heap.size w5 w6 := by rw [hW]; (repeat' first|(with_reducible first|exact bw1|assumption|refine bw2 ?_ _|refine bw3 ?_ ?_ _|refine bw4 ?_|refine bw5 ?_ ?_ _|refine bw6 (by assumption) ?_ ?_|exact And.left (by assumption))|go_size)
 have k6 : BlkR w6 w5.heap.size (.cells #[.slice ab nb cb, .int .i64 st, .slice ag ng cg, .int .i64 vo, .int .i64 lo, .int .i64 hi, .int .i64 ci, .int .i64 br, .int .i64 re] 164) := by show w6.heap[w5.heap.size]? = _; rw [hW]; exact heap_alloc_new _ _
 have HB6 := Lib.hid (HB5.out.trans (hb6.mono HB5.out.size))
 obtain ⟨X6, hX6⟩ : ∃ X, X = w5.heap.size := ⟨_, rfl⟩
 rw [← hX6] at k6
 have K6 := Lib.hid k6
 clear hb6 k6
 obtain ⟨c6, c6_1, c6_2, c6_3, c6_4, c6_5, c6_6, c6_7, c6_8, l6⟩ := blkc9 K6.out
 go_wp2_with fail
 rw [← hW]
 simp only [← hX6]
 clear hW hX6
 refine later_of_eq 9 (by kernel_rfl) (by kernel_rfl) ?_; simp only [List.take_succ_cons, List.take_zero, List.drop_succ_cons, List.drop_zero]; repeat go_big_quiet_step(first | with_reducible exact calls_later (HST.out _) | with_reducible exact calls_later (HCO.out _))
 refine wpQuiet_nil ?_; intro w7 hb7
 have K6 := Lib.hid (K6.out.below hb7)
 have HB := Lib.hid (HB6.out.trans (hb7.mono HB6.out.size))
 clear hb7 HST HCO
 clear c6 c6_1 c6_2 c6_3 c6_4 c6_5 c6_6 c6_7 c6_8 l6
 go_wp2_with fail
 refine (t_first3 _ _ _ _ _ _ _ (by rfl) (by simp)).mono ?_
 rintro e8 w8 ⟨rfl, hw8⟩
 rw [← HZ.out]
 have hb8 : Below w7.heap.size w7 w8 := by rw [← hw8]; (repeat' first|(with_reducible first|exact bw1|assumption|refine bw2 ?_ _|refine bw3 ?_ ?_ _|refine bw4 ?_|refine bw5 ?_ ?_ _|refine bw6 (by assumption) ?_ ?_|exact And.left (by assumption))|go_size)
 have K6 := Lib.hid (K6.out.below hb8)
 have HB := Lib.hid (HB.out.trans (hb8.mono HB.out.size))
 clear hb8 hw8
 obtain ⟨c6, c6_1, c6_2, c6_3, c6_4, c6_5, c6_6, c6_7, c6_8, l6⟩ := blkc9 K6.out
 by_cases h0 : E = 0
 ·subst h0
  obtain ⟨n, k, rfl, rfl, hcw⟩ := HSA.out (by trivial)
  have HCW := Lib.hid (hcw w8 HB.out)
  have HVN := Lib.hid (show V = CT n k from HV.out.trans (by rw [if_neg (by simp), Int.toNat_natCast, Int.toNat_natCast]))
  clear hcw HSA HV
  go_wp2_with fail
  refine HCW.out.mono ?_
  rintro e9 w9 ⟨rfl, hb9⟩
  go_wp2
  go_ret
  exact ⟨ret_int (by rw [HVN.out]), HB.out.trans (hb9.mono HB.out.size)⟩
 ·have e1 := bne_iff_ne.2 h0
  have HVN := Lib.hid (show V = E from HV.out.trans (if_pos h0))
  clear h0 HSA HV
  go_wp2
  go_ret
  exact ⟨ret_int (by rw [HVN.out]), HB.out⟩
theorem open6_any (m : Mac) (l : Lim) (ab ag : Option Addr) (nb cb ng cg : Nat) (w : World) (hb : BrR w ab nb m.br) (hg : GrR w ag ng m.gs) :
    Calls Tryz.prog 132 #[.agg #[.slice ab nb cb, .int .i64 m.st, .slice ag ng cg], .agg #[.int .i64 l.volt, .int .i64 l.lo, .int .i64 l.hi, .int .i64 l.circ, .int .i64 l.brk, .int .i64 l.ret]] w
     fun e' w' => e' = .returned (.tuple #[.agg #[.slice ab nb cb, .int .i64 m.st, .slice ag ng cg, .int .i64 l.volt, .int .i64 l.lo, .int .i64 l.hi, .int .i64 l.circ, .int .i64 l.brk, .int .i64 l.ret], .int .i64 (firstErr [(macE m).2, limE l])]) ∧ Below w.heap.size w w' :=
 open_any m l ab ag nb cb ng cg w hb hg
end Go.Proofs.YtidboecjllaofaaGreat
