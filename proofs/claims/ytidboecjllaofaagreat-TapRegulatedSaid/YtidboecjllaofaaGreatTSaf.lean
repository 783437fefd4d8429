import Derived.Test.YtidboecjllaofaaGreatMD
import Derived.Test.YtidboecjllaofaaGreatTBrk
import Derived.Test.YtidboecjllaofaaGreatTCirc
/- Safe states and safe changes: the program. -/
namespace Go.Proofs.YtidboecjllaofaaGreat
open Go.RowKit Go.Shelf
set_option linter.unusedVariables false
set_option linter.unusedSimpArgs false

theorem trn_lt {n s i : Nat} (hn : n ≤ 6) (hs : s < 2 ^ n) (hi : i < n) : trn s i < 2 ^ n := turn_lt n (by omega) s hs i hi
theorem curE_s0 {m : Mac} {s : Nat} (h : curE m s = 0) : s ≠ 0 := by
  rintro rfl
  rw [curE_cases, if_pos rfl] at h
  exact absurd h (by decide)
theorem safE_cur {m : Mac} {l : Lim} {s : Nat} (h : safE m l s = 0) : curE m s = 0 := by
  unfold safE at h
  split at h
  · rename_i h1; exact absurd h h1
  · rename_i h1; exact Decidable.not_not.1 h1
theorem lodE_first (m : Mac) (l : Lim) (s i : Nat) (load : Int) : lodE m l s i load = firstErr [unl (!decide (l.brk * (brkC m l s i load).2 < (brkC m l s i load).1)) 22, unl (!decide (l.ret * (brkV m l s i load).2 < (brkV m l s i load).1)) 24] := by
  unfold lodE
  by_cases h1 : l.brk * (brkC m l s i load).2 < (brkC m l s i load).1
  · rw [if_pos h1]; simp [h1, unl, firstErr]
  · rw [if_neg h1]
    by_cases h2 : l.ret * (brkV m l s i load).2 < (brkV m l s i load).1
    · rw [if_pos h2]; simp [h1, h2, unl, firstErr]
    · rw [if_neg h2]; simp [h1, h2, unl, firstErr]
theorem cirA_bd {m : Mac} {l : Lim} {s : Nat} (h : ElV m l s 0) : 0 < (cirA m l s).2 ∧ (cirA m l s).2 ≤ 38102400 := (cirF_bd h (Nat.le_refl _)).2
theorem brkC_bd {m : Mac} {l : Lim} {s i : Nat} {load : Int} (h : ElV m l s load) (hi : i < m.br.length) : 0 < (brkC m l s i load).2 ∧ (brkC m l s i load).2 ≤ 151200 := (curT_bd h hi).2
theorem brkV_bd {m : Mac} {l : Lim} {s i : Nat} {load : Int} (h : ElV m l (trn s i) load) (hi : i < m.br.length) : 0 < (brkV m l s i load).2 ∧ (brkV m l s i load).2 ≤ 15120 := by
  obtain ⟨d0, d1, _⟩ := h.vo
  obtain ⟨_, p, q, _⟩ := low_props (a := volA m l i * (outT m l (trn s i) load).2 - (outT m l (trn s i) load).1 * 1) (b := 1 * (outT m l (trn s i) load).2) (by rw [Int.one_mul]; exact d0)
  unfold brkV brkW
  exact ⟨p, by omega⟩
theorem mul_small {a b : Int} (ha : 0 ≤ a ∧ a ≤ 1000) (hb : 0 < b ∧ b ≤ 38102400) : -9223372036854775807 ≤ a * b ∧ a * b ≤ 9223372036854775807 := by
  have h1 := Int.mul_nonneg ha.1 (Int.le_of_lt hb.1)
  have h2 : a * b ≤ 1000 * 38102400 := Int.mul_le_mul ha.2 hb.2 (Int.le_of_lt hb.1) (by decide)
  omega
set_option maxHeartbeats 2000000 in
set_option maxRecDepth 100000 in
theorem safe_any (m : Mac) (l : Lim) (s : Nat) (ab ag : Option Addr) (nb cb ng cg : Nat) (w : World) (hm : MacV m) (hl : limE l = 0) (hb : BrR w ab nb m.br) (hs : s < 2 ^ nb) :
    Calls Tryz.prog 139 #[.agg #[.slice ab nb cb, .int .i64 m.st, .slice ag ng cg, .int .i64 l.volt, .int .i64 l.lo, .int .i64 l.hi, .int .i64 l.circ, .int .i64 l.brk, .int .i64 l.ret], .int .i64 (s : Int)] w fun e' w' => e' = .returned (.int .i64 (safE m l s)) ∧ Below w.heap.size w w' := by
  have hlen := hb.len
  have HCE := Lib.hid (fun (W : World) (hbw : Below w.heap.size w W) => currentsErr_any m l s ab ag nb cb ng cg W hm (hb.below hbw) hs)
  have HEL := Lib.hid (fun (h : curE m s = 0) => show ElV m l s 0 from ⟨hm, (limE_zero.1 hl).1, by decide, by rw [hlen]; exact hs, curE_s0 h⟩)
  have HCI := Lib.hid (fun (h : curE m s = 0) (W : World) (hbw : Below w.heap.size w W) => circulating_any m l s ab ag nb cb ng cg W (hb.below hbw) (HEL.out h))
  have HXB := Lib.hid (fun (h : curE m s = 0) => mul_small (limE_zero.1 hl).2.2.1 (cirA_bd (HEL.out h)))
  have hV : safE m l s = if curE m s ≠ 0 then curE m s else if l.circ * (cirA m l s).2 < (cirA m l s).1 then 22 else 0 := rfl
  obtain ⟨V, hVV⟩ : ∃ V, V = safE m l s := ⟨_, rfl⟩
  rw [← hVV] at hV ⊢
  generalize curE m s = CE at *
  generalize cirA m l s = CA at *
  obtain ⟨vo, lo, hi, ci, br, re⟩ := l
  obtain ⟨st, hst⟩ : ∃ x, x = m.st := ⟨_, rfl⟩
  rw [← hst] at HCE HCI ⊢
  obtain ⟨cn, cd⟩ := CA
  simp only at HCE HCI HXB hV ⊢
  have HV := Lib.hid hV
  clear hb hst hV hVV hm hl hs hlen HEL
  go_enter Tryz.func139, Tryz.ntmps139
  go_wp2_with fail
  obtain ⟨w1, hW1⟩ : ∃ w1, w1 = w.alloc (Obj.cells #[.slice ab nb cb, .int .i64 st, .slice ag ng cg, .int .i64 vo, .int .i64 lo, .int .i64 hi, .int .i64 ci, .int .i64 br, .int .i64 re] 164) := ⟨_, rfl⟩
  rw [← hW1]
  have hb1 : Below w.heap.size w w1 := by rw [hW1]; (repeat' (first | (with_reducible exact Below.refl _ _) | (with_reducible assumption) | (with_reducible refine Below.drewN ?_ _) | (with_reducible refine Below.alloc ?_ ?_ _) | (with_reducible refine Below.drew ?_) | (with_reducible refine Below.setCell ?_ ?_ _) | (with_reducible refine Below.step (by assumption) ?_ ?_) | (with_reducible exact And.left (by assumption)) | go_size))
  have k1 : BlkR w1 w.heap.size (.cells #[.slice ab nb cb, .int .i64 st, .slice ag ng cg, .int .i64 vo, .int .i64 lo, .int .i64 hi, .int .i64 ci, .int .i64 br, .int .i64 re] 164) := by show w1.heap[w.heap.size]? = _; rw [hW1]; exact heap_alloc_new _ _
  obtain ⟨X1, hX1⟩ : ∃ X, X = w.heap.size := ⟨_, rfl⟩
  rw [← hX1] at k1
  simp only [← hX1]
  have K1 := Lib.hid k1
  have HB1 := Lib.hid hb1
  clear hW1 hX1 k1 hb1
  have c1 := blk_cell K1.out (i := 0) rfl
  have c1_1 := blk_cell K1.out (i := 1) rfl
  have c1_2 := blk_cell K1.out (i := 2) rfl
  have c1_3 := blk_cell K1.out (i := 3) rfl
  have c1_4 := blk_cell K1.out (i := 4) rfl
  have c1_5 := blk_cell K1.out (i := 5) rfl
  have c1_6 := blk_cell K1.out (i := 6) rfl
  have c1_7 := blk_cell K1.out (i := 7) rfl
  have c1_8 := blk_cell K1.out (i := 8) rfl
  have l1 := K1.out.lt
  refine (HCE.out _ HB1.out).mono ?_
  rintro e5 w5 ⟨rfl, hb5⟩
  have HB := Lib.hid (HB1.out.trans (hb5.mono HB1.out.size))
  have K1 := Lib.hid (K1.out.below hb5)
  clear hb5 c1 c1_1 c1_2 c1_3 c1_4 c1_5 c1_6 c1_7 c1_8 l1 HCE HB1
  have c1 := blk_cell K1.out (i := 0) rfl
  have c1_1 := blk_cell K1.out (i := 1) rfl
  have c1_2 := blk_cell K1.out (i := 2) rfl
  have c1_3 := blk_cell K1.out (i := 3) rfl
  have c1_4 := blk_cell K1.out (i := 4) rfl
  have c1_5 := blk_cell K1.out (i := 5) rfl
  have c1_6 := blk_cell K1.out (i := 6) rfl
  have c1_7 := blk_cell K1.out (i := 7) rfl
  have c1_8 := blk_cell K1.out (i := 8) rfl
  have l1 := K1.out.lt
  by_cases h0 : CE = 0
  · subst h0
    have HVN := Lib.hid (show V = if ci * cd < cn then 22 else 0 by rw [HV.out, if_neg (by simp)])
    have hxb := HXB.out rfl
    have HCN := Lib.hid (fun (W : World) (hbw : Below w5.heap.size w5 W) => HCI.out rfl W (HB.out.trans (hbw.mono HB.out.size)))
    have HEX := Lib.hid (fun (W : World) => t_exceeds_any cn cd ci W hxb)
    clear HXB HCI HV hxb
    go_wp2_with fail
    refine later_of_eq 6 (by kernel_rfl) (by kernel_rfl) ?_; simp only [List.take_succ_cons, List.take_zero, List.drop_succ_cons, List.drop_zero]; repeat go_big_quiet_step(with_reducible exact calls_later (HCN.out _ (Later.below _)))
    refine wpQuiet_nil ?_; intro w9 hb9
    have HB := Lib.hid (HB.out.trans (hb9.mono HB.out.size))
    clear hb9 c1 c1_1 c1_2 c1_3 c1_4 c1_5 c1_6 c1_7 c1_8 l1 K1 HCN
    go_wp2_with fail
    refine (HEX.out _).mono ?_
    rintro e10 w10 ⟨rfl, hb10⟩
    have HB := Lib.hid (HB.out.trans (hb10.mono HB.out.size))
    clear hb10
    by_cases hx : ci * cd < cn
    · have hx1 : decide (ci * cd < cn) = true := decide_eq_true hx
      have HVX := Lib.hid (show V = 22 by rw [HVN.out, if_pos hx])
      clear hx HVN
      go_wp2_with fail
      refine (t_unless_any _ _ _).mono ?_
      rintro e11 w11 ⟨rfl, rfl⟩
      go_wp2
      go_ret
      exact ⟨ret_int (by rw [HVX.out]; rfl), HB.out⟩
    · have hx1 : decide (ci * cd < cn) = false := decide_eq_false hx
      have HVX := Lib.hid (show V = 0 by rw [HVN.out, if_neg hx])
      clear hx HVN
      go_wp2_with fail
      refine (t_unless_any _ _ _).mono ?_
      rintro e11 w11 ⟨rfl, rfl⟩
      go_wp2
      go_ret
      exact ⟨ret_int (by rw [HVX.out]; rfl), HB.out⟩
  · have HVN := Lib.hid (show V = CE by rw [HV.out, if_pos h0])
    have e1 := bne_iff_ne.2 h0
    clear h0 HCI HV HXB
    go_wp2
    go_ret
    exact ⟨ret_int (by rw [HVN.out]), HB.out⟩
end Go.Proofs.YtidboecjllaofaaGreat
