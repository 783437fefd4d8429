import Derived.Test.YtkphbibonagkfaaGreatDDist
import Derived.Test.YtkphbibonagkfaaGreatQTail
/- Ranges, arrivals: the program's functions. -/
namespace Go.Proofs.YtkphbibonagkfaaGreat
open Go.RowKit
set_option linter.unusedVariables false

set_option maxHeartbeats 1000000 in
set_option maxRecDepth 100000 in
theorem rangeErr_any (f : FuncId) (p : Int → Bool) (hf : ∀ args w, (callFunc f args).run Tryz.prog w = .ok (.enter f args) w) (hp : ∀ (x : Int) (w : World), Calls Tryz.prog f #[.int .i64 x] w fun e w' => e = .returned (.bool (p x)) ∧ w = w')
    (lo hi : Int) (w : World) : Calls Tryz.prog 86 #[.agg #[.int .i64 lo, .int .i64 hi], .func (.func f) #[] #[]] w fun e' w' => e' = .returned (.int .i64 (rngEE p lo hi)) ∧ Below w.heap.size w w' := by
  have HL := Lib.hid (fun w' => hp lo w')
  have HH := Lib.hid (fun w' => hp hi w')
  have HU := Lib.hid (fun (b : Bool) (e : Int) w' => d_unless_any b e w')
  unfold rngEE
  generalize p lo = a at *
  generalize p hi = b at *
  clear hp
  cases a
  all_goals
    go_enter Tryz.func86, Tryz.ntmps86
    go_wp2
    refine later_of_eq 17 (by kernel_rfl) (by kernel_rfl) ?_; simp only [List.take_succ_cons, List.take_zero, List.drop_succ_cons, List.drop_zero]; repeat go_big_quiet_step (first | (with_reducible exact calls_later_same (HL.out _)) | (with_reducible exact calls_later_same (HH.out _)) | (with_reducible exact calls_later_same (HU.out _ _ _)))
    refine wpQuiet_nil ?_; intro w5 hb5
    have HB5 := Lib.hid (show Below w.heap.size w w5 by (repeat' (first | (with_reducible exact Below.refl _ _) | (with_reducible assumption) | (with_reducible refine Below.drewN ?_ _) | (with_reducible refine Below.alloc ?_ ?_ _) | (with_reducible refine Below.drew ?_) | (with_reducible refine Below.setCell ?_ ?_ _) | (with_reducible refine Below.step (by assumption) ?_ ?_) | (with_reducible exact And.left (by assumption)) | go_size)))
    clear hb5
    go_wp2_with fail
    refine (d_first2 _ _ _ _ _ _ (by rfl) (by simp)).mono ?_
    rintro e8 w8 ⟨rfl, hw8⟩
    have HB8 := Lib.hid (show Below w.heap.size w w8 from HB5.out.trans ((show Below w5.heap.size w5 w8 by rw [← hw8]; (repeat' (first | (with_reducible exact Below.refl _ _) | (with_reducible assumption) | (with_reducible refine Below.drewN ?_ _) | (with_reducible refine Below.alloc ?_ ?_ _) | (with_reducible refine Below.drew ?_) | (with_reducible refine Below.setCell ?_ ?_ _) | (with_reducible refine Below.step (by assumption) ?_ ?_) | (with_reducible exact And.left (by assumption)) | go_size))).mono HB5.out.size))
    clear hw8
    go_wp2
    go_ret
    exact ⟨ret_int rfl, HB8.out⟩
theorem ca1_any (x : Int) (w : World) : Calls Tryz.prog 87 #[.int .i64 x] w fun e w' => e = .returned (.bool (wi x 1 10000)) ∧ w = w' := by
  go_enter Tryz.func87, Tryz.ntmps87
  go_wp2_with (go_at_call 88; refine (d_within_any _ _ _ _).mono ?_; rintro e w' ⟨rfl, rfl⟩)
  go_ret
  exact ⟨rfl, rfl⟩
theorem cf_ca1 (args : Array Value) (w : World) : (callFunc 87 args).run Tryz.prog w = .ok (.enter 87 args) w := by kernel_rfl
theorem ca2_any (x : Int) (w : World) : Calls Tryz.prog 90 #[.int .i64 x] w fun e w' => e = .returned (.bool (wi x 0 1000000)) ∧ w = w' := by
  go_enter Tryz.func90, Tryz.ntmps90
  go_wp2_with (go_at_call 88; refine (d_within_any _ _ _ _).mono ?_; rintro e w' ⟨rfl, rfl⟩)
  go_ret
  exact ⟨rfl, rfl⟩
theorem cf_ca2 (args : Array Value) (w : World) : (callFunc 90 args).run Tryz.prog w = .ok (.enter 90 args) w := by kernel_rfl
theorem sAt_get {l : List Sen} {k : Nat} {s : Sen} (h : l[k]? = some s) : sAt l k = s := by
  unfold sAt; rw [List.getD_eq_getElem?_getD, h]; rfl
set_option maxHeartbeats 1000000 in
set_option maxRecDepth 100000 in
theorem checkArrivals_any (A : Arr) (a : Option Addr) (n c : Nat) (w : World) (hl : SenR w a n A.l) :
    Calls Tryz.prog 16 #[.agg #[.int .i64 A.lo, .int .i64 A.hi, .slice a n c]] w fun e' w' => e' = .returned (.tuple #[.int .i64 (arrE A).1, .int .i64 (arrE A).2]) ∧ Below w.heap.size w w' := by
  have hn := hl.small
  have HL := Lib.hid hl
  have HLN := Lib.hid hl.len
  have HR1 := Lib.hid (fun w' => rangeErr_any _ _ cf_ca1 ca1_any A.lo A.hi w')
  have HU := Lib.hid (fun (b : Bool) (e : Int) w' => d_unless_any b e w')
  have harr : arrE A = if arrH A ≠ 0 then (0, arrH A) else firstAt (senE A.l) n 0 := by unfold arrE; rw [hl.len]
  have hhd : arrH A = firstErr [rngEE (fun n => wi n 1 10000) A.lo A.hi, unl (decide (2 ≤ (n : Int))) 10, unl (decide ((n : Int) ≤ 5)) 8] := by unfold arrH; rw [hl.len]
  rw [harr, hhd]
  clear harr hhd hl
  obtain ⟨lo, hi, l⟩ := A
  simp only at HL HLN HR1 ⊢
  generalize rngEE (fun n => wi n 1 10000) lo hi = E1 at *
  obtain ⟨H, hH⟩ : ∃ H, H = firstErr [E1, unl (decide (2 ≤ (n : Int))) 10, unl (decide ((n : Int) ≤ 5)) 8] := ⟨_, rfl⟩
  rw [← hH]
  have HH := Lib.hid hH
  clear hH
  by_cases h0 : H ≠ 0
  · rw [if_pos h0]
    have h0' : (H != 0) = true := by simpa using h0
    clear h0
    go_enter Tryz.func16, Tryz.ntmps16
    go_wp2
    refine later_of_eq 13 (by kernel_rfl) (by kernel_rfl) ?_; simp only [List.take_succ_cons, List.take_zero, List.drop_succ_cons, List.drop_zero]; repeat go_big_quiet_step (first | (with_reducible exact calls_later (HR1.out _)) | (with_reducible exact calls_later_same (HU.out _ _ _)))
    refine wpQuiet_nil ?_; intro w5 hb5
    have HB5 := Lib.hid (show Below w.heap.size w w5 by (repeat' (first | (with_reducible exact Below.refl _ _) | (with_reducible assumption) | (with_reducible refine Below.drewN ?_ _) | (with_reducible refine Below.alloc ?_ ?_ _) | (with_reducible refine Below.drew ?_) | (with_reducible refine Below.setCell ?_ ?_ _) | (with_reducible refine Below.step (by assumption) ?_ ?_) | (with_reducible exact And.left (by assumption)) | go_size)))
    clear hb5
    go_wp2_with fail
    refine (d_first3 _ _ _ _ _ _ _ (by rfl) (by simp)).mono ?_
    rintro e8 w8 ⟨rfl, hw8⟩
    have HB8 := Lib.hid (show Below w.heap.size w w8 from HB5.out.trans ((show Below w5.heap.size w5 w8 by rw [← hw8]; (repeat' (first | (with_reducible exact Below.refl _ _) | (with_reducible assumption) | (with_reducible refine Below.drewN ?_ _) | (with_reducible refine Below.alloc ?_ ?_ _) | (with_reducible refine Below.drew ?_) | (with_reducible refine Below.setCell ?_ ?_ _) | (with_reducible refine Below.step (by assumption) ?_ ?_) | (with_reducible exact And.left (by assumption)) | go_size))).mono HB5.out.size))
    clear hw8
    rw [← HH.out]
    go_wp2
    go_ret2
    exact ⟨rfl, HB8.out⟩
  · have h1 : H = 0 := Decidable.not_not.1 h0
    rw [if_neg h0]
    subst h1
    clear h0
    go_enter Tryz.func16, Tryz.ntmps16
    go_wp2
    refine later_of_eq 13 (by kernel_rfl) (by kernel_rfl) ?_; simp only [List.take_succ_cons, List.take_zero, List.drop_succ_cons, List.drop_zero]; repeat go_big_quiet_step (first | (with_reducible exact calls_later (HR1.out _)) | (with_reducible exact calls_later_same (HU.out _ _ _)))
    refine wpQuiet_nil ?_; intro w5 hb5
    have hz5 := hb5.size
    simp only [World.size_alloc] at hz5
    have q2 : w5.cell? ⟨w.heap.size, 2, none⟩ = some (.slice a n c) := by { rw [cellB hb5 _ _ (by first | (simp; done) | (simp; omega) | omega)]; all_goals (first | assumption | go_simp) }; have l0 : w.heap.size < w5.heap.size := by { omega }
    have HB5 := Lib.hid (show Below w.heap.size w w5 by (repeat' (first | (with_reducible exact Below.refl _ _) | (with_reducible assumption) | (with_reducible refine Below.drewN ?_ _) | (with_reducible refine Below.alloc ?_ ?_ _) | (with_reducible refine Below.drew ?_) | (with_reducible refine Below.setCell ?_ ?_ _) | (with_reducible refine Below.step (by assumption) ?_ ?_) | (with_reducible exact And.left (by assumption)) | go_size)))
    clear hb5
    go_wp2_with fail
    refine (d_first3 _ _ _ _ _ _ _ (by rfl) (by simp)).mono ?_
    rintro e8 w8 ⟨rfl, hw8⟩
    have hb8 : Below w5.heap.size w5 w8 := by rw [← hw8]; (repeat' (first | (with_reducible exact Below.refl _ _) | (with_reducible assumption) | (with_reducible refine Below.drewN ?_ _) | (with_reducible refine Below.alloc ?_ ?_ _) | (with_reducible refine Below.drew ?_) | (with_reducible refine Below.setCell ?_ ?_ _) | (with_reducible refine Below.step (by assumption) ?_ ?_) | (with_reducible exact And.left (by assumption)) | go_size))
    have q2c : w8.cell? ⟨w.heap.size, 2, none⟩ = some (.slice a n c) := by { rw [cellB hb8 _ _ (by first | (simp; done) | (simp; omega) | omega)]; all_goals (first | assumption | go_simp) }
    have HB8 := Lib.hid (HB5.out.trans (hb8.mono HB5.out.size))
    rw [← HH.out]
    clear hw8 hb8 q2 l0 HR1 HH HB5
    go_wp2_with fail
    go_loopw [30] (fun i wr => ∃ k : Nat, i = .int .i64 k ∧ k ≤ n ∧ Hid (firstAt (senE l) (n - k) k = firstAt (senE l) n 0) ∧ Hid (Below w.heap.size w wr)) (fun i _ => n - (intOf i).toNat)
    case atStart => exact ⟨0, rfl, Nat.zero_le _, Lib.hid rfl, HB8⟩
    case round =>
      obtain ⟨k, rfl, hk, hF, hB⟩ := hrel
      have i0 : (0 : Int) ≤ (k : Int) := by omega
      by_cases hlt : k < n
      · obtain ⟨b, o, rfl, hb, hc⟩ := HL.out.addr (by omega)
        obtain ⟨⟨x, y, z, tl, th⟩, hx⟩ := ER.get HL.out hlt
        obtain ⟨q0, q1, q3, q4, q5⟩ := hc k _ hx
        rw [← cellB hB.out _ _ hb] at q0 q1 q3 q4 q5
        have hF' := hF.out
        have hS := sAt_get hx
        have hE : senE l k = firstErr [unl (plc ⟨x, y, z⟩) 2, rngEE (fun n => wi n 0 1000000) tl th] := by unfold senE; rw [hS]
        rw [firstAt_step hlt] at hF'
        obtain ⟨E, hEE⟩ : ∃ E, E = senE l k := ⟨_, rfl⟩
        rw [← hEE] at hE hF'
        have HF := Lib.hid hF'
        have HE := Lib.hid hE
        have HP := Lib.hid (fun w' => isPlace_any ⟨x, y, z⟩ w')
        have HR := Lib.hid (fun w' => rangeErr_any _ _ cf_ca2 ca2_any tl th w')
        simp only at HP
        generalize plc ⟨x, y, z⟩ = pv at *
        generalize rngEE (fun n => wi n 0 1000000) tl th = rv at *
        have hbw : b < wr.heap.size := by have := hB.out.size; omega
        have i1 : (k : Int) < (n : Int) := by omega
        clear hF' hF hE hS hc hx hEE
        go_wp2_with fail
        refine later_of_eq 8 (by kernel_rfl) (by kernel_rfl) ?_; simp only [List.take_succ_cons, List.take_zero, List.drop_succ_cons, List.drop_zero]; repeat go_big_quiet_step (first | (with_reducible exact calls_later (HP.out _)) | (with_reducible exact calls_later_same (HU.out _ _ _)) | (with_reducible exact calls_later (HR.out _)))
        refine wpQuiet_nil ?_; intro w9 hb9
        have HB9 := Lib.hid (show Below w.heap.size w w9 from hB.out.trans (Below.mono (show Below wr.heap.size wr w9 by (repeat' (first | (with_reducible exact Below.refl _ _) | (with_reducible assumption) | (with_reducible refine Below.drewN ?_ _) | (with_reducible refine Below.alloc ?_ ?_ _) | (with_reducible refine Below.drew ?_) | (with_reducible refine Below.setCell ?_ ?_ _) | (with_reducible refine Below.step (by assumption) ?_ ?_) | (with_reducible exact And.left (by assumption)) | go_size))) hB.out.size))
        clear hb9
        go_wp2_with fail
        refine (d_first2 _ _ _ _ _ _ (by rfl) (by simp)).mono ?_
        rintro e10 w10 ⟨rfl, hw10⟩
        have HB10 := Lib.hid (show Below w.heap.size w w10 from HB9.out.trans ((show Below w9.heap.size w9 w10 by rw [← hw10]; (repeat' (first | (with_reducible exact Below.refl _ _) | (with_reducible assumption) | (with_reducible refine Below.drewN ?_ _) | (with_reducible refine Below.alloc ?_ ?_ _) | (with_reducible refine Below.drew ?_) | (with_reducible refine Below.setCell ?_ ?_ _) | (with_reducible refine Below.step (by assumption) ?_ ?_) | (with_reducible exact And.left (by assumption)) | go_size))).mono HB9.out.size))
        clear hw10
        rw [← HE.out]
        by_cases hE0 : E ≠ 0
        · rw [if_pos hE0] at HF
          have hE1 : (E != 0) = true := by simpa using hE0
          clear hE0 HE
          go_wp2
          go_ret2
          exact ⟨by rw [← HF.out]; rfl, HB10.out⟩
        · rw [if_neg hE0] at HF
          have hE1 : (E != 0) = false := by simpa using hE0
          clear hE0 HE
          go_wp2
          go_roundw
          case rel => exact ⟨k + 1, by go_num, by omega, HF, HB10⟩
          case measure => simp [intOf]; omega
      · have HF := Lib.hid (hF.out.symm.trans (firstAt_end (by omega)))
        clear hF
        go_wp2
        go_ret2
        exact ⟨by rw [HF.out]; rfl, hB.out⟩
end Go.Proofs.YtkphbibonagkfaaGreat
