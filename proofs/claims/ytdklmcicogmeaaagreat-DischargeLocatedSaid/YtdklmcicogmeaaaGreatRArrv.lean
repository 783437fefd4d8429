import Derived.Test.YtdklmcicogmeaaaGreatMRDist
/- The reference of arrivals: which are valid; copies; all sensors. -/
namespace Go.Proofs.YtdklmcicogmeaaaGreat
open Go.RowKit
set_option linter.unusedVariables false

theorem rngEE_cases {p : Int → Bool} {lo hi : Int} : rngEE p lo hi = if p lo = false then 2 else if p hi = false then 2 else if hi < lo then 9 else 0 := by
  unfold rngEE
  cases h1 : p lo <;> cases h2 : p hi <;> by_cases h : lo ≤ hi <;> simp [firstErr, unl, h] <;> omega
theorem arrE_cases (A : Arr) : arrE A = if wi A.lo 1 10000 = false then (0, 2) else if wi A.hi 1 10000 = false then (0, 2) else if A.hi < A.lo then (0, 9) else if (A.l.length : Int) < 2 then (0, 10) else if 5 < (A.l.length : Int) then (0, 8) else firstAt (senE A.l) A.l.length 0 := by
  unfold arrE arrH
  rw [rngEE_cases]
  cases h1 : wi A.lo 1 10000
  · simp [firstErr]
  cases h2 : wi A.hi 1 10000
  · simp [firstErr]
  by_cases h3 : A.hi < A.lo
  · simp [firstErr, h3]
  by_cases h4 : (A.l.length : Int) < 2
  · have : ¬ (2 : Int) ≤ A.l.length := by omega
    simp [firstErr, unl, h3, h4, this]
  have h4' : (2 : Int) ≤ A.l.length := by omega
  by_cases h5 : 5 < (A.l.length : Int)
  · have : ¬ (A.l.length : Int) ≤ 5 := by omega
    simp [firstErr, unl, h3, h4, h4', h5, this]
  have h5' : (A.l.length : Int) ≤ 5 := by omega
  simp [firstErr, unl, h3, h4, h4', h5, h5']
theorem senE_cases (l : List Sen) (k : Nat) : senE l k = if plc ⟨(sAt l k).x, (sAt l k).y, (sAt l k).z⟩ = false then 2 else if wi (sAt l k).lo 0 1000000 = false then 2 else if wi (sAt l k).hi 0 1000000 = false then 2 else if (sAt l k).hi < (sAt l k).lo then 9 else 0 := by
  unfold senE
  rw [rngEE_cases]
  cases plc ⟨(sAt l k).x, (sAt l k).y, (sAt l k).z⟩
  · simp [firstErr, unl]
  cases wi (sAt l k).lo 0 1000000
  · simp [firstErr, unl]
  cases wi (sAt l k).hi 0 1000000
  · simp [firstErr, unl]
  by_cases h3 : (sAt l k).hi < (sAt l k).lo <;> simp [firstErr, unl, h3]
set_option maxHeartbeats 2000000 in
set_option maxRecDepth 100000 in
theorem rCheckArrivals_any (A : Arr) (a : Option Addr) (n c : Nat) (w : World) (hl : SenR w a n A.l) :
    Calls Tryz.prog 59 #[.agg #[.int .i64 A.lo, .int .i64 A.hi, .slice a n c]] w fun e' w' => e' = .returned (.tuple #[.int .i64 (arrE A).1, .int .i64 (arrE A).2]) ∧ Below w.heap.size w w' := by
  have hn := hl.small
  have HL := Lib.hid hl
  have HLN := Lib.hid hl.len
  have hE := arrE_cases A
  rw [hl.len] at hE
  obtain ⟨E, hEE⟩ : ∃ E, E = arrE A := ⟨_, rfl⟩
  rw [← hEE] at hE ⊢
  obtain ⟨lo, hi, l⟩ := A
  simp only at HL HLN hE ⊢
  clear hl hEE
  have HB1 := Lib.hid (fun w' => bwithin_any lo 1 10000 w')
  have HB2 := Lib.hid (fun w' => bwithin_any hi 1 10000 w')
  generalize wi lo 1 10000 = b1 at *
  generalize wi hi 1 10000 = b2 at *
  have HE := Lib.hid hE
  clear hE
  go_enter Tryz.func59, Tryz.ntmps59
  go_wp2_with fail
  generalize hW : World.alloc _ _ = w5
  have hb5 : Below w.heap.size w w5 := by rw [← hW]; (repeat' (first | (with_reducible exact Below.refl _ _) | (with_reducible assumption) | (with_reducible refine Below.drewN ?_ _) | (with_reducible refine Below.alloc ?_ ?_ _) | (with_reducible refine Below.drew ?_) | (with_reducible refine Below.setCell ?_ ?_ _) | (with_reducible refine Below.step (by assumption) ?_ ?_) | (with_reducible exact And.left (by assumption)) | go_size))
  have q0 : w5.cell? ⟨w.heap.size, 0, none⟩ = some (.int .i64 lo) := by { rw [← hW]; clear hW; go_simp }
  have q1 : w5.cell? ⟨w.heap.size, 1, none⟩ = some (.int .i64 hi) := by { rw [← hW]; clear hW; go_simp }
  have q2 : w5.cell? ⟨w.heap.size, 2, none⟩ = some (.slice a n c) := by { rw [← hW]; clear hW; go_simp }
  have z5 : w.heap.size < w5.heap.size := by { rw [← hW]; clear hW; simp }
  have HB5 := Lib.hid hb5
  clear hW hb5
  refine (HB1.out _).mono ?_
  rintro e6 w6 ⟨rfl, rfl⟩
  cases b1
  · have hE := HE.out
    rw [if_pos rfl] at hE
    subst hE
    go_wp2
    go_ret2
    exact ⟨rfl, HB5.out⟩
  go_wp2_with fail
  refine (HB2.out _).mono ?_
  rintro e7 w7 ⟨rfl, rfl⟩
  cases b2
  · have hE := HE.out
    rw [if_neg (by decide), if_pos rfl] at hE
    subst hE
    go_wp2
    go_ret2
    exact ⟨rfl, HB5.out⟩
  have hE := HE.out
  rw [if_neg (by decide), if_neg (by decide)] at hE
  by_cases h3 : hi < lo
  · rw [if_pos h3] at hE
    subst hE
    clear HE
    go_wp2
    go_ret2
    exact ⟨rfl, HB5.out⟩
  rw [if_neg h3] at hE
  by_cases h4 : (n : Int) < 2
  · rw [if_pos h4] at hE
    subst hE
    clear HE
    go_wp2
    go_ret2
    exact ⟨rfl, HB5.out⟩
  rw [if_neg h4] at hE
  by_cases h5 : 5 < (n : Int)
  · rw [if_pos h5] at hE
    subst hE
    clear HE
    go_wp2
    go_ret2
    exact ⟨rfl, HB5.out⟩
  rw [if_neg h5] at hE
  have HE := Lib.hid hE
  clear hE
  go_wp2_with fail
  go_loopw [4] (fun i wr => ∃ k : Nat, i = .int .i64 k ∧ k ≤ n ∧ Hid (firstAt (senE l) (n - k) k = E) ∧ Hid (Below w5.heap.size w5 wr)) (fun i _ => n - (intOf i).toNat)
  case atStart => exact ⟨0, rfl, Nat.zero_le _, Lib.hid HE.out.symm, Lib.hid (Below.refl _ _)⟩
  case round =>
    obtain ⟨k, rfl, hk, hF, hB⟩ := hrel
    have i0 : (0 : Int) ≤ (k : Int) := by omega
    have hBx := hB.out
    have hzr := hBx.size
    have q2r : wr.cell? ⟨w.heap.size, 2, none⟩ = some (.slice a n c) := by { rw [cellB hBx _ _ (by first | (simp; done) | (simp; omega) | omega)]; all_goals (first | assumption | go_simp) }; have zr : w.heap.size < wr.heap.size := by { omega }
    rcases Nat.lt_or_ge k n with hlt | hge
    · have i1 : (k : Int) < (n : Int) := by omega
      obtain ⟨b, o, rfl, hb, hc⟩ := (HL.out.below (HB5.out.trans (hBx.mono HB5.out.size))).addr (by omega)
      obtain ⟨⟨x, y, z, tl, th⟩, hx⟩ := ER.get HL.out hlt
      obtain ⟨p0, p1, p2, p3, p4⟩ := hc k _ hx
      have hF' := hF.out
      have hS := sAt_get hx
      rw [firstAt_step hlt, senE_cases, hS] at hF'
      have HP := Lib.hid (fun w' => rIsPlace_any ⟨x, y, z⟩ w')
      have HB3 := Lib.hid (fun w' => bwithin_any tl 0 1000000 w')
      have HB4 := Lib.hid (fun w' => bwithin_any th 0 1000000 w')
      simp only at hF' HP p0 p1 p2 p3 p4
      generalize plc ⟨x, y, z⟩ = bp at *
      generalize wi tl 0 1000000 = b3 at *
      generalize wi th 0 1000000 = b4 at *
      have HF := Lib.hid hF'
      clear hF' hF hS hx hc
      go_wp2_with fail
      generalize hW : World.alloc _ _ = ws
      have hbs : Below wr.heap.size wr ws := by rw [← hW]; (repeat' (first | (with_reducible exact Below.refl _ _) | (with_reducible assumption) | (with_reducible refine Below.drewN ?_ _) | (with_reducible refine Below.alloc ?_ ?_ _) | (with_reducible refine Below.drew ?_) | (with_reducible refine Below.setCell ?_ ?_ _) | (with_reducible refine Below.step (by assumption) ?_ ?_) | (with_reducible exact And.left (by assumption)) | go_size))
      have s3 : ws.cell? ⟨wr.heap.size, 3, none⟩ = some (.int .i64 tl) := by { rw [← hW]; clear hW; go_simp }
      have s4 : ws.cell? ⟨wr.heap.size, 4, none⟩ = some (.int .i64 th) := by { rw [← hW]; clear hW; go_simp }
      have zs : wr.heap.size < ws.heap.size := by { rw [← hW]; clear hW; simp }
      have HBs := Lib.hid (hBx.trans (hbs.mono hBx.size))
      obtain ⟨X, hX⟩ : ∃ X, X = wr.heap.size := ⟨_, rfl⟩
      rw [← hX] at s3 s4 zs ⊢
      clear hW hbs hBx hX p0 p1 p2 p3 p4 q2r hzr zr hb
      refine (HP.out _).mono ?_
      rintro e6 w6 ⟨rfl, hb6⟩
      have hz6 := hb6.size
      have s3d : w6.cell? ⟨X, 3, none⟩ = some (.int .i64 tl) := by { rw [cellB hb6 _ _ (by first | (simp; done) | (simp; omega) | omega)]; all_goals (first | assumption | go_simp) }; have s4d : w6.cell? ⟨X, 4, none⟩ = some (.int .i64 th) := by { rw [cellB hb6 _ _ (by first | (simp; done) | (simp; omega) | omega)]; all_goals (first | assumption | go_simp) }; have z6 : X < w6.heap.size := by { omega }
      have HB6 := Lib.hid (HB5.out.trans ((HBs.out.trans (hb6.mono HBs.out.size)).mono HB5.out.size))
      have HBx := Lib.hid (HBs.out.trans (hb6.mono HBs.out.size))
      clear hb6 s3 s4 hz6
      cases bp
      · have hF := HF.out
        simp at hF
        subst hF
        clear HF HE
        go_wp2
        go_ret2
        exact ⟨rfl, HB6.out⟩
      go_wp2_with fail
      refine (HB3.out _).mono ?_
      rintro e7 w7 ⟨rfl, rfl⟩
      cases b3
      · have hF := HF.out
        simp at hF
        subst hF
        clear HF HE
        go_wp2
        go_ret2
        exact ⟨rfl, HB6.out⟩
      go_wp2_with fail
      refine (HB4.out _).mono ?_
      rintro e8 w8 ⟨rfl, rfl⟩
      cases b4
      · have hF := HF.out
        simp at hF
        subst hF
        clear HF HE
        go_wp2
        go_ret2
        exact ⟨rfl, HB6.out⟩
      have hF := HF.out
      by_cases h6 : th < tl
      · simp [h6] at hF
        subst hF
        clear HF HE
        go_wp2
        go_ret2
        exact ⟨rfl, HB6.out⟩
      · simp [h6] at hF
        have HF2 := Lib.hid hF
        clear hF HF
        go_wp2
        go_roundw
        case rel => exact ⟨k + 1, by go_num, by omega, HF2, HBx⟩
        case measure => simp [intOf]; omega
    · obtain rfl : k = n := by omega
      have hF' := hF.out
      rw [firstAt_end (Nat.le_refl _)] at hF'
      subst hF'
      clear HE hF
      go_wp2
      go_ret2
      exact ⟨rfl, HB5.out.trans (hB.out.mono HB5.out.size)⟩
end Go.Proofs.YtdklmcicogmeaaaGreat
