import Derived.Test.YtdklmcicogmeaaaGreatMRDist
import Derived.Test.YtdklmcicogmeaaaGreatMRNet
/- The reference of changes: which are valid; all of them; equal networks. -/
namespace Go.Proofs.YtdklmcicogmeaaaGreat
open Go.RowKit
set_option linter.unusedVariables false

theorem devE_cases (n : Nat) (p : T3) : devE n p = if wi p.x 0 ((n : Int) - 1) = false then 6 else if wi p.y 0 2 = false then 15 else if wi p.z (-10) 10 = false then 2 else 0 := by
  unfold devE
  cases wi p.x 0 ((n : Int) - 1)
  · rfl
  cases wi p.y 0 2
  · rfl
  cases wi p.z (-10) 10 <;> rfl
set_option maxHeartbeats 2000000 in
set_option maxRecDepth 100000 in
theorem rDeformationsErr_any (n c m cm : Nat) (a ap : Option Addr) (l : List T3) (w : World) (hn : n ≤ 9223372036854775807) (hl : T3R w ap m l) :
    Calls Tryz.prog 35 #[.agg #[.slice a n c], .slice ap m cm] w fun e' w' => e' = .returned (.int .i64 (defsE n l)) ∧ Below w.heap.size w w' := by
  have hm := hl.small
  have HL := Lib.hid hl
  have HLN := Lib.hid hl.len
  have hE : defsE n l = if 6 < m then 8 else (firstAt (fun k => devE n (pAt l k)) m 0).2 := by unfold defsE; rw [hl.len]
  obtain ⟨E, hEE⟩ : ∃ E, E = defsE n l := ⟨_, rfl⟩
  rw [← hEE] at hE ⊢
  clear hl hEE
  by_cases h6 : 6 < m
  · rw [if_pos h6] at hE
    subst hE
    have e6 : (6 : Int) < (m : Int) := by omega
    go_enter Tryz.func35, Tryz.ntmps35
    go_wp2
    go_ret
    exact ⟨rfl, by (repeat' (first | (with_reducible exact Below.refl _ _) | (with_reducible assumption) | (with_reducible refine Below.drewN ?_ _) | (with_reducible refine Below.alloc ?_ ?_ _) | (with_reducible refine Below.drew ?_) | (with_reducible refine Below.setCell ?_ ?_ _) | (with_reducible refine Below.step (by assumption) ?_ ?_) | (with_reducible exact And.left (by assumption)) | go_size))⟩
  rw [if_neg h6] at hE
  have HE := Lib.hid hE
  have e6 : ¬ (6 : Int) < (m : Int) := by omega
  clear hE
  go_enter Tryz.func35, Tryz.ntmps35
  go_wp2_with fail
  generalize hW : World.alloc _ _ = w5
  have hb5 : Below w.heap.size w w5 := by rw [← hW]; (repeat' (first | (with_reducible exact Below.refl _ _) | (with_reducible assumption) | (with_reducible refine Below.drewN ?_ _) | (with_reducible refine Below.alloc ?_ ?_ _) | (with_reducible refine Below.drew ?_) | (with_reducible refine Below.setCell ?_ ?_ _) | (with_reducible refine Below.step (by assumption) ?_ ?_) | (with_reducible exact And.left (by assumption)) | go_size))
  have q0 : w5.cell? ⟨w.heap.size, 0, none⟩ = some (.slice a n c) := by { rw [← hW]; clear hW; go_simp }
  have z5 : w.heap.size < w5.heap.size := by { rw [← hW]; clear hW; simp }
  have HB5 := Lib.hid hb5
  clear hW hb5
  go_loopw [5] (fun i wr => ∃ k : Nat, i = .int .i64 k ∧ k ≤ m ∧ Hid ((firstAt (fun k => devE n (pAt l k)) (m - k) k).2 = E) ∧ ∃ j, wr = w5.drewN j) (fun i _ => m - (intOf i).toNat)
  case atStart => exact ⟨0, rfl, Nat.zero_le _, Lib.hid HE.out.symm, 0, rfl⟩
  case round =>
    obtain ⟨k, rfl, hk, hF, j, rfl⟩ := hrel
    have i0 : (0 : Int) ≤ (k : Int) := by omega
    rcases Nat.lt_or_ge k m with hlt | hge
    · have i1 : (k : Int) < (m : Int) := by omega
      obtain ⟨b, o, rfl, hb, hc⟩ := (HL.out.below HB5.out).addr (by omega)
      obtain ⟨⟨x, y, z⟩, hx⟩ := ER.get HL.out hlt
      obtain ⟨p0, p1, p2⟩ := hc k _ hx
      have hF' := hF.out
      rw [firstAt_step hlt, pAt_get3 hx, devE_cases] at hF'
      have HB1 := Lib.hid (fun w' => bwithin_any x 0 ((n : Int) - 1) w')
      have HB2 := Lib.hid (fun w' => bwithin_any y 0 2 w')
      have HB3 := Lib.hid (fun w' => bwithin_any z (-10) 10 w')
      simp only at p0 p1 p2 hF'
      generalize wi x 0 ((n : Int) - 1) = b1 at *
      generalize wi y 0 2 = b2 at *
      generalize wi z (-10) 10 = b3 at *
      have HF := Lib.hid hF'
      clear hF' hF hx hc
      go_wp2_with fail
      refine drew_of_eq 9 (by kernel_rfl) (by kernel_rfl) ?_; simp only [List.take_succ_cons, List.take_zero, List.drop_succ_cons, List.drop_zero]; repeat go_big_quiet_step (fail)
      refine wpQuiet_nil ?_; intro m7
      go_wp2_with fail
      refine (HB1.out _).mono ?_
      rintro e6 w6 ⟨rfl, rfl⟩
      cases b1
      · have hF := HF.out
        simp at hF
        subst hF
        clear HF HE
        go_wp2
        go_ret
        exact ⟨rfl, by have := HB5.out; (repeat' (first | (with_reducible exact Below.refl _ _) | (with_reducible assumption) | (with_reducible refine Below.drewN ?_ _) | (with_reducible refine Below.alloc ?_ ?_ _) | (with_reducible refine Below.drew ?_) | (with_reducible refine Below.setCell ?_ ?_ _) | (with_reducible refine Below.step (by assumption) ?_ ?_) | (with_reducible exact And.left (by assumption)) | go_size))⟩
      go_wp2_with fail
      refine (HB2.out _).mono ?_
      rintro e7 w7 ⟨rfl, rfl⟩
      cases b2
      · have hF := HF.out
        simp at hF
        subst hF
        clear HF HE
        go_wp2
        go_ret
        exact ⟨rfl, by have := HB5.out; (repeat' (first | (with_reducible exact Below.refl _ _) | (with_reducible assumption) | (with_reducible refine Below.drewN ?_ _) | (with_reducible refine Below.alloc ?_ ?_ _) | (with_reducible refine Below.drew ?_) | (with_reducible refine Below.setCell ?_ ?_ _) | (with_reducible refine Below.step (by assumption) ?_ ?_) | (with_reducible exact And.left (by assumption)) | go_size))⟩
      go_wp2_with fail
      refine (HB3.out _).mono ?_
      rintro e8 w8 ⟨rfl, rfl⟩
      cases b3
      · have hF := HF.out
        simp at hF
        subst hF
        clear HF HE
        go_wp2
        go_ret
        exact ⟨rfl, by have := HB5.out; (repeat' (first | (with_reducible exact Below.refl _ _) | (with_reducible assumption) | (with_reducible refine Below.drewN ?_ _) | (with_reducible refine Below.alloc ?_ ?_ _) | (with_reducible refine Below.drew ?_) | (with_reducible refine Below.setCell ?_ ?_ _) | (with_reducible refine Below.step (by assumption) ?_ ?_) | (with_reducible exact And.left (by assumption)) | go_size))⟩
      have hF := HF.out
      simp at hF
      have HF2 := Lib.hid hF
      clear hF HF
      go_wp2
      go_roundw
      case rel => exact ⟨k + 1, by go_num, by omega, HF2, _, by first | rfl | exact World.drewN_drewN _ _ _ | simp [World.drewN_drewN]⟩
      case measure => simp [intOf]; omega
    · obtain rfl : k = m := by omega
      have hF := hF.out
      rw [firstAt_end (Nat.le_refl _)] at hF
      subst hF
      clear HE
      go_wp2
      go_ret
      exact ⟨rfl, by have := HB5.out; (repeat' (first | (with_reducible exact Below.refl _ _) | (with_reducible assumption) | (with_reducible refine Below.drewN ?_ _) | (with_reducible refine Below.alloc ?_ ?_ _) | (with_reducible refine Below.drew ?_) | (with_reducible refine Below.setCell ?_ ?_ _) | (with_reducible refine Below.step (by assumption) ?_ ?_) | (with_reducible exact And.left (by assumption)) | go_size))⟩
theorem nats_range9 (k : Nat) : icells (nats (List.range (k + 1))) = icells (nats (List.range k)) ++ [.int .i64 (k : Int)] := by
  unfold nats
  rw [List.range_succ, List.map_append, icells_append]
  rfl
end Go.Proofs.YtdklmcicogmeaaaGreat
