/- The energy of a state. -/
import Derived.Test.YtiellefbndlkkaaRef2
namespace Go.Proofs.Ytiellefbndlkkaa
open Go.RowKit
set_option linter.unusedVariables false

set_option maxRecDepth 100000 in
theorem energyOf_bad (y f b : List Int) (a a1 a2 : Option Addr) (n c n1 c1 n2 c2 : Nat) (e : Bool) (w : World) (hy : IntsR w a n y) (hf : IntsR w a1 n1 f) (hb : IntsR w a2 n2 b) (hn1 : n1 ≤ 100) (hn2 : n2 ≤ 100) (h0 : stErr y f b ≠ 0) :
    Calls Try.prog 17 #[.agg #[.slice a n c, .bool e], .agg #[.slice a1 n1 c1, .slice a2 n2 c2]] w fun e' w' => e' = .returned (.tuple #[.int .i64 0, .int .i64 (stErr y f b)]) ∧ Below w.heap.size w w' := by
  have HS := Lib.hid (fun (w' : World) (hb' : Below w.heap.size w w') => stateErr_any y f b a a1 a2 n c n1 c1 n2 c2 e w' (hy.below hb') (hf.below hb') (hb.below hb') hn1 hn2)
  have hn := hy.small
  clear hy hf hb
  generalize stErr y f b = el at HS h0
  have h1' : (el != 0) = true := by simpa using h0
  clear h0
  go_enter Try.func17, Try.ntmps17
  go_wp2_with fail
  refine (HS.out _ (by (repeat' (first | (with_reducible exact Below.refl _ _) | (with_reducible assumption) | (with_reducible refine Below.drewN ?_ _) | (with_reducible refine Below.alloc ?_ ?_ _) | (with_reducible refine Below.drew ?_) | (with_reducible refine Below.setCell ?_ ?_ _) | (with_reducible refine Below.step (by assumption) ?_ ?_) | (with_reducible exact And.left (by assumption)) | go_size)))).mono ?_
  rintro e5 w5 ⟨rfl, hb5⟩
  have hz5 := hb5.size
  go_wp2
  go_ret2
  exact ⟨rfl, by (repeat' (first | (with_reducible exact Below.refl _ _) | (with_reducible assumption) | (with_reducible refine Below.drewN ?_ _) | (with_reducible refine Below.alloc ?_ ?_ _) | (with_reducible refine Below.drew ?_) | (with_reducible refine Below.setCell ?_ ?_ _) | (with_reducible refine Below.step (by assumption) ?_ ?_) | (with_reducible exact And.left (by assumption)) | go_size))⟩

set_option maxRecDepth 100000 in
theorem energyOf_ok (y f b : List Int) (a a1 a2 : Option Addr) (n c n1 c1 n2 c2 : Nat) (e : Bool) (w : World) (hy : IntsR w a n y) (hf : IntsR w a1 n1 f) (hb : IntsR w a2 n2 b) (h0 : stErr y f b = 0) :
    Calls Try.prog 17 #[.agg #[.slice a n c, .bool e], .agg #[.slice a1 n1 c1, .slice a2 n2 c2]] w fun e' w' => e' = .returned (.tuple #[.int .i64 (enUpto y f b n), .int .i64 0]) ∧ Below w.heap.size w w' := by
  have hz := stErr_zero h0
  have hlz := lineErr_zero hz.1
  rw [hy.len, hf.len, hb.len] at hz
  rw [hy.len] at hlz
  have hn10 := hlz.2.1
  obtain ⟨_, hz1, hz2, hzf, hzb⟩ := hz
  obtain rfl : n = n1 := hz1.symm
  obtain rfl : n = n2 := hz2.symm
  have HZ := Lib.hid (And.intro hlz.2.2 (And.intro hzf hzb))
  have hn0 := hlz.1
  clear hlz hzf hzb
  obtain ⟨by_, oy, rfl, hby, hcy⟩ := hy.addr hn0
  obtain ⟨bf, of, rfl, hbf, hcf⟩ := hf.addr hn0
  obtain ⟨bb, ob, rfl, hbb, hcb⟩ := hb.addr hn0
  have HCY := Lib.hid hcy
  have HCF := Lib.hid hcf
  have HCB := Lib.hid hcb
  have HL := Lib.hid (And.intro hy.len (And.intro hf.len hb.len))
  have HS := Lib.hid (fun (w' : World) (hb' : Below w.heap.size w w') => stateErr_any y f b (some ⟨by_, oy, none⟩) (some ⟨bf, of, none⟩) (some ⟨bb, ob, none⟩) n c n c1 n c2 e w' (hy.below hb') (hf.below hb') (hb.below hb') (by omega) (by omega))
  rw [h0] at HS
  clear hy hf hb h0 hcy hcf hcb
  go_enter Try.func17, Try.ntmps17
  go_wp2_with fail
  refine (HS.out _ (by (repeat' (first | (with_reducible exact Below.refl _ _) | (with_reducible assumption) | (with_reducible refine Below.drewN ?_ _) | (with_reducible refine Below.alloc ?_ ?_ _) | (with_reducible refine Below.drew ?_) | (with_reducible refine Below.setCell ?_ ?_ _) | (with_reducible refine Below.step (by assumption) ?_ ?_) | (with_reducible exact And.left (by assumption)) | go_size)))).mono ?_
  rintro e5 w5 ⟨rfl, hb5⟩
  have hz5 := hb5.size
  simp only [World.size_alloc] at hz5
  have q0 : w5.cell? ⟨w.heap.size, 0, none⟩ = some (.slice (some ⟨by_, oy, none⟩) n c) := by { rw [cellB hb5 _ _ (by first | (simp; done) | (simp; omega) | omega)]; all_goals (first | assumption | go_simp) }; have q2 : w5.cell? ⟨w.heap.size + 1, 0, none⟩ = some (.slice (some ⟨bf, of, none⟩) n c1) := by { rw [cellB hb5 _ _ (by first | (simp; done) | (simp; omega) | omega)]; all_goals (first | assumption | go_simp) }; have q3 : w5.cell? ⟨w.heap.size + 1, 1, none⟩ = some (.slice (some ⟨bb, ob, none⟩) n c2) := by { rw [cellB hb5 _ _ (by first | (simp; done) | (simp; omega) | omega)]; all_goals (first | assumption | go_simp) }
  have hbw : Below w.heap.size w w5 := by (repeat' (first | (with_reducible exact Below.refl _ _) | (with_reducible assumption) | (with_reducible refine Below.drewN ?_ _) | (with_reducible refine Below.alloc ?_ ?_ _) | (with_reducible refine Below.drew ?_) | (with_reducible refine Below.setCell ?_ ?_ _) | (with_reducible refine Below.step (by assumption) ?_ ?_) | (with_reducible exact And.left (by assumption)) | go_size))
  have HBW := Lib.hid hbw
  have HB5 := Lib.hid hb5
  clear HS hb5 hbw
  go_wp2
  go_loopw [7, 19] (fun t i wr => ∃ k : Nat, i = .int .i64 k ∧ k ≤ n ∧ t = .int .i64 (enUpto y f b k) ∧ 0 ≤ enUpto y f b k ∧ enUpto y f b k ≤ k * 40000000000000 ∧ ∃ m, wr = w5.drewN m) (fun _ i _ => n - (intOf i).toNat)
  case atStart => exact ⟨0, rfl, Nat.zero_le _, rfl, by simp [enUpto], by simp [enUpto], 0, rfl⟩
  case round =>
    obtain ⟨k, rfl, hk, rfl, hlo, hhi, m, rfl⟩ := hrel
    by_cases hlt : k < n
    · obtain ⟨Y, hY⟩ : ∃ Y, Y = y.getD k 0 := ⟨_, rfl⟩
      obtain ⟨F, hF⟩ : ∃ F, F = f.getD k 0 := ⟨_, rfl⟩
      obtain ⟨B, hB⟩ : ∃ B, B = b.getD k 0 := ⟨_, rfl⟩
      have cy : w5.cell? ⟨by_, oy + k, none⟩ = some (.int .i64 Y) := by rw [cellB HBW.out _ _ hby, hY]; exact HCY.out k hlt
      have cf : w5.cell? ⟨bf, of + k, none⟩ = some (.int .i64 F) := by rw [cellB HBW.out _ _ hbf, hF]; exact HCF.out k hlt
      have cb : w5.cell? ⟨bb, ob + k, none⟩ = some (.int .i64 B) := by rw [cellB HBW.out _ _ hbb, hB]; exact HCB.out k hlt
      have by1 : 1 ≤ Y ∧ Y ≤ 20 := by rw [hY]; exact HZ.out.1 _ (getD_mem (by rw [HL.out.1]; exact hlt))
      have bf1 : -1000000 ≤ F ∧ F ≤ 1000000 := by rw [hF]; exact HZ.out.2.1 _ (getD_mem (by rw [HL.out.2.1]; exact hlt))
      have bb1 : -1000000 ≤ B ∧ B ≤ 1000000 := by rw [hB]; exact HZ.out.2.2 _ (getD_mem (by rw [HL.out.2.2]; exact hlt))
      have hen : enUpto y f b (k + 1) = enUpto y f b k + Y * (F * F + B * B) := by rw [enUpto, hY, hF, hB]
      have p1 := mulb 1000000 1000000 1000000000000 bf1.1 bf1.2 bf1.1 bf1.2 (by omega)
      have p2 := mulb 1000000 1000000 1000000000000 bb1.1 bb1.2 bb1.1 bb1.2 (by omega)
      have p1' : 0 ≤ F * F := mul_self_nonneg' F
      have p2' : 0 ≤ B * B := mul_self_nonneg' B
      have p3 := mulb (a := Y) (b := F * F + B * B) 20 2000000000000 40000000000000 (by omega) (by omega) (by omega) (by omega) (by omega)
      have p3' : 0 ≤ Y * (F * F + B * B) := Int.mul_nonneg (by omega) (by omega)
      have HEN := Lib.hid hen
      clear hY hF hB hen
      generalize enUpto y f b k = s at hlo hhi HEN
      have hk0 : (0 : Int) ≤ (k : Int) := by omega
      have hk1 : (k : Int) < (n : Int) := by omega
      have hs1 : s ≤ 400000000000000 := by omega
      go_wp2
      go_quiet (fail)
      go_wp2
      go_roundw
      case rel => exact ⟨k + 1, by go_num, by omega, by rw [HEN.out], by rw [HEN.out]; omega, by rw [HEN.out]; omega, _, rfl⟩
      case measure => simp [intOf]; omega
    · obtain rfl : k = n := by omega
      go_wp2
      go_ret2
      have hbw := HBW.out
      exact ⟨rfl, by (repeat' (first | (with_reducible exact Below.refl _ _) | (with_reducible assumption) | (with_reducible refine Below.drewN ?_ _) | (with_reducible refine Below.alloc ?_ ?_ _) | (with_reducible refine Below.drew ?_) | (with_reducible refine Below.setCell ?_ ?_ _) | (with_reducible refine Below.step (by assumption) ?_ ?_) | (with_reducible exact And.left (by assumption)) | go_size))⟩
set_option maxRecDepth 100000 in
theorem renergy_ok (y f b : List Int) (a a1 a2 : Option Addr) (n c n1 c1 n2 c2 : Nat) (e : Bool) (w : World) (hy : IntsR w a n y) (hf : IntsR w a1 n1 f) (hb : IntsR w a2 n2 b) (h0 : stErr y f b = 0) :
    Calls Try.prog 48 #[.agg #[.slice a n c, .bool e], .agg #[.slice a1 n1 c1, .slice a2 n2 c2]] w fun e' w' => e' = .returned (.int .i64 (enUpto y f b n)) ∧ Below w.heap.size w w' := by
  have hz := stErr_zero h0
  have hlz := lineErr_zero hz.1
  rw [hy.len, hf.len, hb.len] at hz
  rw [hy.len] at hlz
  have hn10 := hlz.2.1
  obtain ⟨_, hz1, hz2, hzf, hzb⟩ := hz
  obtain rfl : n = n1 := hz1.symm
  obtain rfl : n = n2 := hz2.symm
  have HZ := Lib.hid (And.intro hlz.2.2 (And.intro hzf hzb))
  have hn0 := hlz.1
  clear hlz hzf hzb
  obtain ⟨by_, oy, rfl, hby, hcy⟩ := hy.addr hn0
  obtain ⟨bf, of, rfl, hbf, hcf⟩ := hf.addr hn0
  obtain ⟨bb, ob, rfl, hbb, hcb⟩ := hb.addr hn0
  have HCY := Lib.hid hcy
  have HCF := Lib.hid hcf
  have HCB := Lib.hid hcb
  have HL := Lib.hid (And.intro hy.len (And.intro hf.len hb.len))
  clear hy hf hb h0 hcy hcf hcb
  go_enter Try.func48, Try.ntmps48
  go_wp2
  go_loopw [5, 6] (fun t i wr => ∃ k : Nat, i = .int .i64 k ∧ k ≤ n ∧ t = .int .i64 (enUpto y f b k) ∧ 0 ≤ enUpto y f b k ∧ enUpto y f b k ≤ k * 40000000000000 ∧ ∃ m, wr = ((w.alloc (.cells #[.slice (some ⟨by_, oy, none⟩) n c, .bool e] 24)).alloc (.cells #[.slice (some ⟨bf, of, none⟩) n c1, .slice (some ⟨bb, ob, none⟩) n c2] 26)).drewN m) (fun _ i _ => n - (intOf i).toNat)
  case atStart => exact ⟨0, rfl, Nat.zero_le _, rfl, by simp [enUpto], by simp [enUpto], 0, rfl⟩
  case round =>
    obtain ⟨k, rfl, hk, rfl, hlo, hhi, m, rfl⟩ := hrel
    by_cases hlt : k < n
    · obtain ⟨Y, hY⟩ : ∃ Y, Y = y.getD k 0 := ⟨_, rfl⟩
      obtain ⟨F, hF⟩ : ∃ F, F = f.getD k 0 := ⟨_, rfl⟩
      obtain ⟨B, hB⟩ : ∃ B, B = b.getD k 0 := ⟨_, rfl⟩
      have cy : w.cell? ⟨by_, oy + k, none⟩ = some (.int .i64 Y) := by rw [hY]; exact HCY.out k hlt
      have cf : w.cell? ⟨bf, of + k, none⟩ = some (.int .i64 F) := by rw [hF]; exact HCF.out k hlt
      have cb : w.cell? ⟨bb, ob + k, none⟩ = some (.int .i64 B) := by rw [hB]; exact HCB.out k hlt
      have by1 : 1 ≤ Y ∧ Y ≤ 20 := by rw [hY]; exact HZ.out.1 _ (getD_mem (by rw [HL.out.1]; exact hlt))
      have bf1 : -1000000 ≤ F ∧ F ≤ 1000000 := by rw [hF]; exact HZ.out.2.1 _ (getD_mem (by rw [HL.out.2.1]; exact hlt))
      have bb1 : -1000000 ≤ B ∧ B ≤ 1000000 := by rw [hB]; exact HZ.out.2.2 _ (getD_mem (by rw [HL.out.2.2]; exact hlt))
      have hen : enUpto y f b (k + 1) = enUpto y f b k + Y * (F * F + B * B) := by rw [enUpto, hY, hF, hB]
      have p1 := mulb 1000000 1000000 1000000000000 bf1.1 bf1.2 bf1.1 bf1.2 (by omega)
      have p2 := mulb 1000000 1000000 1000000000000 bb1.1 bb1.2 bb1.1 bb1.2 (by omega)
      have p1' : 0 ≤ F * F := mul_self_nonneg' F
      have p2' : 0 ≤ B * B := mul_self_nonneg' B
      have p3 := mulb (a := Y) (b := F * F + B * B) 20 2000000000000 40000000000000 (by omega) (by omega) (by omega) (by omega) (by omega)
      have p3' : 0 ≤ Y * (F * F + B * B) := Int.mul_nonneg (by omega) (by omega)
      have HEN := Lib.hid hen
      clear hY hF hB hen
      generalize enUpto y f b k = s at hlo hhi HEN
      have hk0 : (0 : Int) ≤ (k : Int) := by omega
      have hk1 : (k : Int) < (n : Int) := by omega
      have hs1 : s ≤ 400000000000000 := by omega
      go_wp2
      go_quiet (fail)
      go_wp2
      go_roundw
      case rel => exact ⟨k + 1, by go_num, by omega, by rw [HEN.out], by rw [HEN.out]; omega, by rw [HEN.out]; omega, _, rfl⟩
      case measure => simp [intOf]; omega
    · obtain rfl : k = n := by omega
      go_wp2
      go_ret
      exact ⟨rfl, by (repeat' (first | (with_reducible exact Below.refl _ _) | (with_reducible assumption) | (with_reducible refine Below.drewN ?_ _) | (with_reducible refine Below.alloc ?_ ?_ _) | (with_reducible refine Below.drew ?_) | (with_reducible refine Below.setCell ?_ ?_ _) | (with_reducible refine Below.step (by assumption) ?_ ?_) | (with_reducible exact And.left (by assumption)) | go_size))⟩
end Go.Proofs.Ytiellefbndlkkaa
