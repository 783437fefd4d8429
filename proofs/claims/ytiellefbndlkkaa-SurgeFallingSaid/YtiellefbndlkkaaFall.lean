/- The statement SurgeFalling: the walk. -/
import Derived.Test.YtiellefbndlkkaaFallLib2
import Derived.Test.YtiellefbndlkkaaQTail
namespace Go.Proofs.Ytiellefbndlkkaa
open Go.RowKit
set_option linter.unusedVariables false

theorem owns_addr2 {w : World} {base n c sz : Nat} {e : TypeId} {a : Option Addr} {xs : List Value} (h : w.ownsRow base e sz (.slice a (n + 1) c) (n + 1) xs) : ∃ g, a = some ⟨g, 0, none⟩ := by
  rcases h.2 with ⟨h', _⟩ | ⟨g, cap, cur, h', _⟩
  · simp at h'
  · simp only [Value.slice.injEq] at h'
    exact ⟨g, h'.1⟩
theorem pcells_set : ∀ (l : List (Int × Int)) (k : Nat), k < l.length → ∀ {P Q : Int}, ((pcells l).set (k * 2) (.int .i64 P)).set (k * 2 + 1) (.int .i64 Q) = pcells (l.set k (P, Q))
  | [], k, h, _, _ => by simp at h
  | f :: r, 0, _, _, _ => by simp [pcells]
  | f :: r, k + 1, h, P, Q => by
    have := pcells_set r k (by simpa using h) (P := P) (Q := Q)
    simp only [pcells, List.flatMap_cons, List.cons_append, List.nil_append] at *
    rw [show (k + 1) * 2 = k * 2 + 1 + 1 by omega]
    simpa using this
theorem bcmp_big (a1 a2 b1 b2 : Int) (w : World) (h1 : -4000000000000000000 ≤ a1 * b2 ∧ a1 * b2 ≤ 4000000000000000000) (h2 : -4000000000000000000 ≤ b1 * a2 ∧ b1 * a2 ≤ 4000000000000000000) :
    Calls Try.prog 38 #[.agg #[.int .i64 a1, .int .i64 a2], .agg #[.int .i64 b1, .int .i64 b2]] w fun e' w' => e' = .returned (.int .i64 (cmpI (a1 * b2) (b1 * a2))) ∧ Below w.heap.size w w' := by
  obtain ⟨R, hR⟩ : ∃ R, R = cmpI (a1 * b2) (b1 * a2) := ⟨_, rfl⟩
  rw [← hR]
  have HR := Lib.hid hR
  clear hR
  go_enter Try.func38, Try.ntmps38
  go_wp2
  go_quiet (fail)
  go_wp2_with fail
  all_goals
    go_ret
    refine ⟨ret_int (by rw [HR.out]; unfold cmpI; (repeat' split) <;> first | rfl | omega), ?_⟩
    (repeat' (first | (with_reducible exact Below.refl _ _) | (with_reducible assumption) | (with_reducible refine Below.drewN ?_ _) | (with_reducible refine Below.alloc ?_ ?_ _) | (with_reducible refine Below.drew ?_) | (with_reducible refine Below.setCell ?_ ?_ _) | (with_reducible refine Below.step (by assumption) ?_ ?_) | (with_reducible exact And.left (by assumption)) | go_size))
set_option maxRecDepth 100000 in
theorem fall_few (s e t : List Int) (P Q at_ : Int) (a a1 a2 : Option Addr) (n c n1 c1 n2 c2 : Nat) (g : Bool) (w : World) (hs : IntsR w a n s) (he : IntsR w a1 n1 e) (ht : IntsR w a2 n2 t) (h0 : ladErr s e t ≠ 0) :
    Calls Try.prog 12 #[.agg #[.slice a n c, .slice a1 n1 c1, .slice a2 n2 c2, .bool g], .int .i64 at_, .agg #[.int .i64 P, .int .i64 Q]] w fun e' w' => e' = .returned (.bool true) ∧ Below w.heap.size w w' := by
  have HFS := Lib.hid (fun w' => few_any a a1 a2 n c n1 c1 n2 c2 g w' hs.small he.small ht.small)
  have HLE := Lib.hid (fun (v : World) (hv : Below w.heap.size w v) => rladderErr_any s e t a a1 a2 n c n1 c1 n2 c2 g v (hs.below hv) (he.below hv) (ht.below hv))
  generalize ladErr s e t = E at *
  have hE1 : (E != 0) = true := by simpa using h0
  clear hs he ht h0
  generalize (decide ((n : Int) ≤ 8) && decide ((n1 : Int) ≤ 8) && decide ((n2 : Int) ≤ 8)) = x at *
  go_enter Try.func12, Try.ntmps12
  go_wp2_with fail
  refine (awake_any _).mono ?_
  rintro e5 w5 ⟨rfl, hb5⟩
  have hz5 := hb5.size
  simp only [World.size_alloc] at hz5
  have q0 : w5.cell? ⟨w.heap.size, 0, none⟩ = some (.slice a n c) := by { rw [cellB hb5 _ _ (by first | (simp; done) | (simp; omega) | omega)]; all_goals (first | assumption | go_simp) }; have q1 : w5.cell? ⟨w.heap.size, 1, none⟩ = some (.slice a1 n1 c1) := by { rw [cellB hb5 _ _ (by first | (simp; done) | (simp; omega) | omega)]; all_goals (first | assumption | go_simp) }; have q2 : w5.cell? ⟨w.heap.size, 2, none⟩ = some (.slice a2 n2 c2) := by { rw [cellB hb5 _ _ (by first | (simp; done) | (simp; omega) | omega)]; all_goals (first | assumption | go_simp) }; have q3 : w5.cell? ⟨w.heap.size, 3, none⟩ = some (.bool g) := by { rw [cellB hb5 _ _ (by first | (simp; done) | (simp; omega) | omega)]; all_goals (first | assumption | go_simp) }; have l0 : w.heap.size < w5.heap.size := by { omega }
  have HB5 := Lib.hid (show Below w.heap.size w w5 by (repeat' (first | (with_reducible exact Below.refl _ _) | (with_reducible assumption) | (with_reducible refine Below.drewN ?_ _) | (with_reducible refine Below.alloc ?_ ?_ _) | (with_reducible refine Below.drew ?_) | (with_reducible refine Below.setCell ?_ ?_ _) | (with_reducible refine Below.step (by assumption) ?_ ?_) | (with_reducible exact And.left (by assumption)) | go_size)))
  clear hb5
  go_wp2_with fail
  refine (HFS.out _).mono ?_
  rintro e6 w6 ⟨rfl, hb6⟩
  have hz6 := hb6.size
  have q0c : w6.cell? ⟨w.heap.size, 0, none⟩ = some (.slice a n c) := by { rw [cellB hb6 _ _ (by first | (simp; done) | (simp; omega) | omega)]; all_goals (first | assumption | go_simp) }; have q1c : w6.cell? ⟨w.heap.size, 1, none⟩ = some (.slice a1 n1 c1) := by { rw [cellB hb6 _ _ (by first | (simp; done) | (simp; omega) | omega)]; all_goals (first | assumption | go_simp) }; have q2c : w6.cell? ⟨w.heap.size, 2, none⟩ = some (.slice a2 n2 c2) := by { rw [cellB hb6 _ _ (by first | (simp; done) | (simp; omega) | omega)]; all_goals (first | assumption | go_simp) }; have q3c : w6.cell? ⟨w.heap.size, 3, none⟩ = some (.bool g) := by { rw [cellB hb6 _ _ (by first | (simp; done) | (simp; omega) | omega)]; all_goals (first | assumption | go_simp) }; have l0c : w.heap.size < w6.heap.size := by { omega }
  have HB6 := Lib.hid (HB5.out.trans (hb6.mono HB5.out.size))
  clear hb6 HB5 q0 q1 q2 q3 l0
  cases x
  · go_wp2
    go_ret
    exact ⟨rfl, HB6.out⟩
  · go_wp2_with fail
    refine (HLE.out _ HB6.out).mono ?_
    rintro e7 w7 ⟨rfl, hb7⟩
    have HB7 := Lib.hid (HB6.out.trans (hb7.mono HB6.out.size))
    clear hb7
    go_wp2
    go_ret
    exact ⟨rfl, HB7.out⟩
set_option maxHeartbeats 8000000 in
set_option maxRecDepth 100000 in
theorem fall_main (s e t : List Int) (P Q at_ : Int) (a a1 a2 : Option Addr) (n c c1 c2 : Nat) (g : Bool) (w : World) (hs : IntsR w a n s) (he : IntsR w a1 n e) (ht : IntsR w a2 n t) (h0 : ladErr s e t = 0)
    (hP0 : -9223372036854775808 ≤ P) (hP1 : P ≤ 9223372036854775807) (hQ1 : Q ≤ 9223372036854775807) (hA0 : -9223372036854775808 ≤ at_) (hA1 : at_ ≤ 9223372036854775807) :
    Calls Try.prog 12 #[.agg #[.slice a n c, .slice a1 n c1, .slice a2 n c2, .bool g], .int .i64 at_, .agg #[.int .i64 P, .int .i64 Q]] w fun e' w' => e' = .returned (.bool true) ∧ Below w.heap.size w w' := by
  obtain ⟨hl0, hel, htl, h6, bs, be, _⟩ := ladErr_zero h0
  have hsl := hs.len
  rw [hsl] at hl0 h6
  obtain ⟨L, hL⟩ : ∃ L : Nat, lastOf n g = L := by
    unfold lastOf
    split
    · exact ⟨n - 1, by omega⟩
    · exact ⟨n, rfl⟩
  have hlad : Lad s e g n L := ⟨hl0, h6, hsl, he.len, bs, be, hL⟩
  have HFS := Lib.hid (fun w' => few_any a a1 a2 n c n c1 n c2 g w' (by omega) (by omega) (by omega))
  rw [show (decide ((n : Int) ≤ 8) && decide ((n : Int) ≤ 8) && decide ((n : Int) ≤ 8)) = true by simp; omega] at HFS
  have HLE := Lib.hid (fun (v : World) (hv : Below w.heap.size w v) => rladderErr_any s e t a a1 a2 n c n c1 n c2 g v (hs.below hv) (he.below hv) (ht.below hv))
  rw [h0] at HLE
  have HCL := Lib.hid (fun (v : World) (hv : Below w.heap.size w v) => copyLadder_any s e t a a1 a2 n c n c1 n c2 g v (hs.below hv) (he.below hv) (ht.below hv) (by omega) (by omega) (by omega))
  obtain ⟨be1, oe1, rfl, hbe, hce⟩ := he.addr (by omega)
  have HCE := Lib.hid hce
  have HLD := Lib.hid hlad
  have HE0 := Lib.hid (And.intro h0 hL)
  have HBE := Lib.hid he.len
  clear hs he ht h0 bs be hsl hel htl hlad hL hce
  go_enter Try.func12, Try.ntmps12
  go_wp2_with fail
  refine (awake_any _).mono ?_
  rintro e5 w5 ⟨rfl, hb5⟩
  have hz5 := hb5.size
  simp only [World.size_alloc] at hz5
  have q0 : w5.cell? ⟨w.heap.size, 0, none⟩ = some (.slice a n c) := by { rw [cellB hb5 _ _ (by first | (simp; done) | (simp; omega) | omega)]; all_goals (first | assumption | go_simp) }; have q1 : w5.cell? ⟨w.heap.size, 1, none⟩ = some (.slice (some ⟨be1, oe1, none⟩) n c1) := by { rw [cellB hb5 _ _ (by first | (simp; done) | (simp; omega) | omega)]; all_goals (first | assumption | go_simp) }; have q2 : w5.cell? ⟨w.heap.size, 2, none⟩ = some (.slice a2 n c2) := by { rw [cellB hb5 _ _ (by first | (simp; done) | (simp; omega) | omega)]; all_goals (first | assumption | go_simp) }; have q3 : w5.cell? ⟨w.heap.size, 3, none⟩ = some (.bool g) := by { rw [cellB hb5 _ _ (by first | (simp; done) | (simp; omega) | omega)]; all_goals (first | assumption | go_simp) }; have o0 : w5.cell? ⟨w.heap.size + 1, 0, none⟩ = some (.int .i64 P) := by { rw [cellB hb5 _ _ (by first | (simp; done) | (simp; omega) | omega)]; all_goals (first | assumption | go_simp) }; have o1 : w5.cell? ⟨w.heap.size + 1, 1, none⟩ = some (.int .i64 Q) := by { rw [cellB hb5 _ _ (by first | (simp; done) | (simp; omega) | omega)]; all_goals (first | assumption | go_simp) }; have l0 : w.heap.size < w5.heap.size := by { omega }; have l1 : w.heap.size + 1 < w5.heap.size := by { omega }
  have HBv := Lib.hid (show Below w.heap.size w w5 by (repeat' (first | (with_reducible exact Below.refl _ _) | (with_reducible assumption) | (with_reducible refine Below.drewN ?_ _) | (with_reducible refine Below.alloc ?_ ?_ _) | (with_reducible refine Below.drew ?_) | (with_reducible refine Below.setCell ?_ ?_ _) | (with_reducible refine Below.step (by assumption) ?_ ?_) | (with_reducible exact And.left (by assumption)) | go_size)))
  clear hb5 hz5
  go_wp2_with fail
  refine (HFS.out _).mono ?_
  rintro e6 w6 ⟨rfl, hbx⟩
  have hzx := hbx.size
  have q0c : w6.cell? ⟨w.heap.size, 0, none⟩ = some (.slice a n c) := by { rw [cellB hbx _ _ (by first | (simp; done) | (simp; omega) | omega)]; all_goals (first | assumption | go_simp) }; have q1c : w6.cell? ⟨w.heap.size, 1, none⟩ = some (.slice (some ⟨be1, oe1, none⟩) n c1) := by { rw [cellB hbx _ _ (by first | (simp; done) | (simp; omega) | omega)]; all_goals (first | assumption | go_simp) }; have q2c : w6.cell? ⟨w.heap.size, 2, none⟩ = some (.slice a2 n c2) := by { rw [cellB hbx _ _ (by first | (simp; done) | (simp; omega) | omega)]; all_goals (first | assumption | go_simp) }; have q3c : w6.cell? ⟨w.heap.size, 3, none⟩ = some (.bool g) := by { rw [cellB hbx _ _ (by first | (simp; done) | (simp; omega) | omega)]; all_goals (first | assumption | go_simp) }; have o0c : w6.cell? ⟨w.heap.size + 1, 0, none⟩ = some (.int .i64 P) := by { rw [cellB hbx _ _ (by first | (simp; done) | (simp; omega) | omega)]; all_goals (first | assumption | go_simp) }; have o1c : w6.cell? ⟨w.heap.size + 1, 1, none⟩ = some (.int .i64 Q) := by { rw [cellB hbx _ _ (by first | (simp; done) | (simp; omega) | omega)]; all_goals (first | assumption | go_simp) }; have l0c : w.heap.size < w6.heap.size := by { omega }; have l1c : w.heap.size + 1 < w6.heap.size := by { omega }
  have HBv := Lib.hid (HBv.out.trans (hbx.mono HBv.out.size))
  clear hbx hzx q0 q1 q2 q3 o0 o1 l0 l1 
  go_wp2_with fail
  refine (HLE.out _ HBv.out).mono ?_
  rintro e7 w6' ⟨rfl, hbx⟩
  have hzx := hbx.size
  have q0 : w6'.cell? ⟨w.heap.size, 0, none⟩ = some (.slice a n c) := by { rw [cellB hbx _ _ (by first | (simp; done) | (simp; omega) | omega)]; all_goals (first | assumption | go_simp) }; have q1 : w6'.cell? ⟨w.heap.size, 1, none⟩ = some (.slice (some ⟨be1, oe1, none⟩) n c1) := by { rw [cellB hbx _ _ (by first | (simp; done) | (simp; omega) | omega)]; all_goals (first | assumption | go_simp) }; have q2 : w6'.cell? ⟨w.heap.size, 2, none⟩ = some (.slice a2 n c2) := by { rw [cellB hbx _ _ (by first | (simp; done) | (simp; omega) | omega)]; all_goals (first | assumption | go_simp) }; have q3 : w6'.cell? ⟨w.heap.size, 3, none⟩ = some (.bool g) := by { rw [cellB hbx _ _ (by first | (simp; done) | (simp; omega) | omega)]; all_goals (first | assumption | go_simp) }; have o0 : w6'.cell? ⟨w.heap.size + 1, 0, none⟩ = some (.int .i64 P) := by { rw [cellB hbx _ _ (by first | (simp; done) | (simp; omega) | omega)]; all_goals (first | assumption | go_simp) }; have o1 : w6'.cell? ⟨w.heap.size + 1, 1, none⟩ = some (.int .i64 Q) := by { rw [cellB hbx _ _ (by first | (simp; done) | (simp; omega) | omega)]; all_goals (first | assumption | go_simp) }; have l0 : w.heap.size < w6'.heap.size := by { omega }; have l1 : w.heap.size + 1 < w6'.heap.size := by { omega }
  have HBv := Lib.hid (HBv.out.trans (hbx.mono HBv.out.size))
  clear hbx hzx q0c q1c q2c q3c o0c o1c l0c l1c 
  go_wp2_with fail
  refine (HCL.out _ HBv.out).mono ?_
  rintro e8 w7 ⟨a3, c3, a4, c4, a5, c5, rfl, hbx, hi1, hi2, hi3⟩
  have HI := Lib.hid (initialOf_ok s e t a3 a4 a5 n c3 n c4 n c5 L g w7 hi1 hi2 hi3 HE0.out.1 HE0.out.2)
  clear hi1 hi2 hi3
  have hzx := hbx.size
  have q0c : w7.cell? ⟨w.heap.size, 0, none⟩ = some (.slice a n c) := by { rw [cellB hbx _ _ (by first | (simp; done) | (simp; omega) | omega)]; all_goals (first | assumption | go_simp) }; have q1c : w7.cell? ⟨w.heap.size, 1, none⟩ = some (.slice (some ⟨be1, oe1, none⟩) n c1) := by { rw [cellB hbx _ _ (by first | (simp; done) | (simp; omega) | omega)]; all_goals (first | assumption | go_simp) }; have q2c : w7.cell? ⟨w.heap.size, 2, none⟩ = some (.slice a2 n c2) := by { rw [cellB hbx _ _ (by first | (simp; done) | (simp; omega) | omega)]; all_goals (first | assumption | go_simp) }; have q3c : w7.cell? ⟨w.heap.size, 3, none⟩ = some (.bool g) := by { rw [cellB hbx _ _ (by first | (simp; done) | (simp; omega) | omega)]; all_goals (first | assumption | go_simp) }; have o0c : w7.cell? ⟨w.heap.size + 1, 0, none⟩ = some (.int .i64 P) := by { rw [cellB hbx _ _ (by first | (simp; done) | (simp; omega) | omega)]; all_goals (first | assumption | go_simp) }; have o1c : w7.cell? ⟨w.heap.size + 1, 1, none⟩ = some (.int .i64 Q) := by { rw [cellB hbx _ _ (by first | (simp; done) | (simp; omega) | omega)]; all_goals (first | assumption | go_simp) }; have l0c : w.heap.size < w7.heap.size := by { omega }; have l1c : w.heap.size + 1 < w7.heap.size := by { omega }
  have HBv := Lib.hid (HBv.out.trans (hbx.mono HBv.out.size))
  clear hbx hzx q0 q1 q2 q3 o0 o1 l0 l1 
  go_wp2_with fail
  refine HI.out.mono ?_
  rintro e9 w8 ⟨hbx, hfr⟩
  have HFR := Lib.hid hfr
  clear hfr HI
  have hzx := hbx.size
  have q0 : w8.cell? ⟨w.heap.size, 0, none⟩ = some (.slice a n c) := by { rw [cellB hbx _ _ (by first | (simp; done) | (simp; omega) | omega)]; all_goals (first | assumption | go_simp) }; have q1 : w8.cell? ⟨w.heap.size, 1, none⟩ = some (.slice (some ⟨be1, oe1, none⟩) n c1) := by { rw [cellB hbx _ _ (by first | (simp; done) | (simp; omega) | omega)]; all_goals (first | assumption | go_simp) }; have q2 : w8.cell? ⟨w.heap.size, 2, none⟩ = some (.slice a2 n c2) := by { rw [cellB hbx _ _ (by first | (simp; done) | (simp; omega) | omega)]; all_goals (first | assumption | go_simp) }; have q3 : w8.cell? ⟨w.heap.size, 3, none⟩ = some (.bool g) := by { rw [cellB hbx _ _ (by first | (simp; done) | (simp; omega) | omega)]; all_goals (first | assumption | go_simp) }; have o0 : w8.cell? ⟨w.heap.size + 1, 0, none⟩ = some (.int .i64 P) := by { rw [cellB hbx _ _ (by first | (simp; done) | (simp; omega) | omega)]; all_goals (first | assumption | go_simp) }; have o1 : w8.cell? ⟨w.heap.size + 1, 1, none⟩ = some (.int .i64 Q) := by { rw [cellB hbx _ _ (by first | (simp; done) | (simp; omega) | omega)]; all_goals (first | assumption | go_simp) }; have l0 : w.heap.size < w8.heap.size := by { omega }; have l1 : w.heap.size + 1 < w8.heap.size := by { omega }
  have HBv := Lib.hid (HBv.out.trans (hbx.mono HBv.out.size))
  clear hbx hzx q0c q1c q2c q3c o0c o1c l0c l1c 
  rcases HFR.out with ⟨_, rfl⟩ | ⟨hsm, au, cu, rfl, hu⟩
  · go_wp2
    go_ret
    exact ⟨rfl, HBv.out⟩
  ·
    have HF1 := Lib.hid HLD.out.first
    have HOK := Lib.hid (fun (j : Nat) (hj : j < n + 1) => HLD.out.ok hsm hj)
    have HFA := Lib.hid (fun (j : Nat) (hj : j + 1 < n + 1) => HLD.out.fall hj)
    have HHO := Lib.hid (fun (i : Nat) (hi : i < n + 1) => HLD.out.holds hi)
    have HCG := Lib.hid (fun (k : Nat) (hk : k < n + 1) (x : Int × Int) (hx : FrOk x) (hne : x ≠ gp (initOf s e n L) k) => HLD.out.changed (fun i hi => (HLD.out.ok hsm hi).1) hk hx hne)
    have HFE := Lib.hid (fun (hf : frU e g (n + 1) = true) (j : Nat) (hj : j < n + 1) => show gp (initOf s e n L) j = (1, 1) by
      obtain ⟨hg, hee⟩ := frU_true hf
      have hl := HLD.out
      rw [hg] at hl
      exact hl.free (fun i hi => hee i (by omega)) hj)
    have hul : (initOf s e n L).length = n + 1 := init_len s e n L
    clear hsm HFR HLD
    generalize initOf s e n L = U at *
    obtain ⟨bu, ou, rfl, hbu, hcu⟩ := hu.addr (by omega)
    have HCU := Lib.hid hcu
    have HU := Lib.hid hu
    have HB8 := Lib.hid (Below.refl w8.heap.size w8)
    have hf0 := hcu 0 (by omega)
    change _ = some (Value.int .i64 (gp U 0).1) ∧ _ = some (Value.int .i64 (gp U 0).2) at hf0
    rw [HF1.out] at hf0
    simp only [Nat.zero_mul, Nat.add_zero] at hf0
    have hf00 := hf0.1
    have hf01 := hf0.2
    have HUL := Lib.hid hul
    have i0 : (0 : Int) < (n : Int) + 1 := by omega
    have hnn : ((n : Int) + 1 != (n : Int) + 1) = false := by simp
    clear hu hcu hf0 hul
    go_wp2_with fail
    refine later_of_eq 12 (by kernel_rfl) (by kernel_rfl) ?_; simp only [List.take_succ_cons, List.take_zero, List.drop_succ_cons, List.drop_zero]; repeat go_big_quiet_step (exact calls_later (whole_any _ _))
    refine wpQuiet_nil ?_; intro w9 hbx
    have hzx := hbx.size
    have q0c : w9.cell? ⟨w.heap.size, 0, none⟩ = some (.slice a n c) := by { rw [cellB hbx _ _ (by first | (simp; done) | (simp; omega) | omega)]; all_goals (first | assumption | go_simp) }; have q1c : w9.cell? ⟨w.heap.size, 1, none⟩ = some (.slice (some ⟨be1, oe1, none⟩) n c1) := by { rw [cellB hbx _ _ (by first | (simp; done) | (simp; omega) | omega)]; all_goals (first | assumption | go_simp) }; have q2c : w9.cell? ⟨w.heap.size, 2, none⟩ = some (.slice a2 n c2) := by { rw [cellB hbx _ _ (by first | (simp; done) | (simp; omega) | omega)]; all_goals (first | assumption | go_simp) }; have q3c : w9.cell? ⟨w.heap.size, 3, none⟩ = some (.bool g) := by { rw [cellB hbx _ _ (by first | (simp; done) | (simp; omega) | omega)]; all_goals (first | assumption | go_simp) }; have o0c : w9.cell? ⟨w.heap.size + 1, 0, none⟩ = some (.int .i64 P) := by { rw [cellB hbx _ _ (by first | (simp; done) | (simp; omega) | omega)]; all_goals (first | assumption | go_simp) }; have o1c : w9.cell? ⟨w.heap.size + 1, 1, none⟩ = some (.int .i64 Q) := by { rw [cellB hbx _ _ (by first | (simp; done) | (simp; omega) | omega)]; all_goals (first | assumption | go_simp) }; have l0c : w.heap.size < w9.heap.size := by { omega }; have l1c : w.heap.size + 1 < w9.heap.size := by { omega }
    have HBv := Lib.hid (HBv.out.trans (hbx.mono HBv.out.size))
    have HB8 := Lib.hid (HB8.out.trans (hbx.mono HB8.out.size))
    have HU := Lib.hid (HU.out.below hbx)
    clear hbx hzx q0 q1 q2 q3 o0 o1 l0 l1 hf00 hf01
    go_wp2_with fail
    go_loopw [9, 10] (fun v i wr => ∃ k : Nat, v = .bool (frU e g k) ∧ i = .int .i64 k ∧ k ≤ n + 1 ∧ Hid (Below w9.heap.size w9 wr)) (fun _ i _ => n + 1 - (intOf i).toNat)
    case atStart => exact ⟨0, rfl, rfl, Nat.zero_le _, Lib.hid (Below.refl _ _)⟩
    case round =>
      obtain ⟨k, rfl, rfl, hk, hBr⟩ := hrel
      have hbx := hBr.out
      have hzx := hbx.size
      have q0 : wr.cell? ⟨w.heap.size, 0, none⟩ = some (.slice a n c) := by { rw [cellB hbx _ _ (by first | (simp; done) | (simp; omega) | omega)]; all_goals (first | assumption | go_simp) }; have q1 : wr.cell? ⟨w.heap.size, 1, none⟩ = some (.slice (some ⟨be1, oe1, none⟩) n c1) := by { rw [cellB hbx _ _ (by first | (simp; done) | (simp; omega) | omega)]; all_goals (first | assumption | go_simp) }; have q2 : wr.cell? ⟨w.heap.size, 2, none⟩ = some (.slice a2 n c2) := by { rw [cellB hbx _ _ (by first | (simp; done) | (simp; omega) | omega)]; all_goals (first | assumption | go_simp) }; have q3 : wr.cell? ⟨w.heap.size, 3, none⟩ = some (.bool g) := by { rw [cellB hbx _ _ (by first | (simp; done) | (simp; omega) | omega)]; all_goals (first | assumption | go_simp) }; have o0 : wr.cell? ⟨w.heap.size + 1, 0, none⟩ = some (.int .i64 P) := by { rw [cellB hbx _ _ (by first | (simp; done) | (simp; omega) | omega)]; all_goals (first | assumption | go_simp) }; have o1 : wr.cell? ⟨w.heap.size + 1, 1, none⟩ = some (.int .i64 Q) := by { rw [cellB hbx _ _ (by first | (simp; done) | (simp; omega) | omega)]; all_goals (first | assumption | go_simp) }; have l0 : w.heap.size < wr.heap.size := by { omega }; have l1 : w.heap.size + 1 < wr.heap.size := by { omega }
      have HBv := Lib.hid (HBv.out.trans (hbx.mono HBv.out.size))
      have HB8 := Lib.hid (HB8.out.trans (hbx.mono HB8.out.size))
      have HU := Lib.hid (HU.out.below hbx)
      clear hbx hzx q0c q1c q2c q3c o0c o1c l0c l1c 
      rcases Nat.lt_or_ge k (n + 1) with hlt | hge
      ·
        obtain ⟨P1, hP1'⟩ : ∃ P, P = (gp U k).1 := ⟨_, rfl⟩
        obtain ⟨Q1, hQ1'⟩ : ∃ P, P = (gp U k).2 := ⟨_, rfl⟩
        have cP : wr.cell? ⟨bu, ou + k * 2, none⟩ = some (.int .i64 P1) := by rw [cellB HB8.out _ _ hbu, hP1']; exact (HCU.out k hlt).1
        have cQ : wr.cell? ⟨bu, ou + k * 2 + 1, none⟩ = some (.int .i64 Q1) := by rw [cellB HB8.out _ _ hbu, hQ1']; exact (HCU.out k hlt).2
        have hok := HOK.out k hlt
        unfold FrOk at hok
        rw [← hP1', ← hQ1'] at hok
        have hil := fun w' => isLowest_any P1 Q1 w' (by omega) (by omega) (by omega) (by omega)
        rw [hok.1.2.1, show (decide (Q1 > 0) && ((1 : Int) == 1)) = true by simp; omega] at hil
        have his := fun w' => bisSmall_any P1 Q1 w'
        rw [wi_iff.2 ⟨hok.1.2.2.1, hok.1.2.2.2.1⟩, wi_iff.2 ⟨show 1 ≤ Q1 by omega, hok.1.2.2.2.2⟩, Bool.and_self] at his
        have HIL := Lib.hid hil
        have HIS := Lib.hid his
        have hneg : decide (P1 < 0) = false := by simp; omega
        have j0 : (0 : Int) ≤ (k : Int) := by omega
        have j1 : (k : Int) < (n : Int) + 1 := by omega
        have HPQ1 := Lib.hid (And.intro hP1' hQ1')
        have HOK1 := Lib.hid hok
        clear hil his hP1' hQ1' hok
        obtain ⟨F, hF⟩ : ∃ F, F = frU e g k := ⟨_, rfl⟩
        rw [← hF]
        have HFK := Lib.hid hF
        clear hF
        rcases k with _ | j
        ·
          have hFn := Lib.hid (show F = frU e g (0 + 1) by rw [frU, ← HFK.out]; simp)
          simp only [Nat.zero_mul, Nat.add_zero] at cP cQ
          go_wp2_with fail
          refine later_of_eq 35 (by kernel_rfl) (by kernel_rfl) ?_; simp only [List.take_succ_cons, List.take_zero, List.drop_succ_cons, List.drop_zero]; repeat go_big_quiet_step (first | (go_at_call 35; exact calls_later (HIL.out _)) | (go_at_call 36; exact calls_later (HIS.out _)))
          refine wpQuiet_nil ?_; intro wa hbx
          have HWa := Lib.hid hbx
          have hzx := hbx.size
          have q0c : wa.cell? ⟨w.heap.size, 0, none⟩ = some (.slice a n c) := by { rw [cellB hbx _ _ (by first | (simp; done) | (simp; omega) | omega)]; all_goals (first | assumption | go_simp) }; have q1c : wa.cell? ⟨w.heap.size, 1, none⟩ = some (.slice (some ⟨be1, oe1, none⟩) n c1) := by { rw [cellB hbx _ _ (by first | (simp; done) | (simp; omega) | omega)]; all_goals (first | assumption | go_simp) }; have q2c : wa.cell? ⟨w.heap.size, 2, none⟩ = some (.slice a2 n c2) := by { rw [cellB hbx _ _ (by first | (simp; done) | (simp; omega) | omega)]; all_goals (first | assumption | go_simp) }; have q3c : wa.cell? ⟨w.heap.size, 3, none⟩ = some (.bool g) := by { rw [cellB hbx _ _ (by first | (simp; done) | (simp; omega) | omega)]; all_goals (first | assumption | go_simp) }; have o0c : wa.cell? ⟨w.heap.size + 1, 0, none⟩ = some (.int .i64 P) := by { rw [cellB hbx _ _ (by first | (simp; done) | (simp; omega) | omega)]; all_goals (first | assumption | go_simp) }; have o1c : wa.cell? ⟨w.heap.size + 1, 1, none⟩ = some (.int .i64 Q) := by { rw [cellB hbx _ _ (by first | (simp; done) | (simp; omega) | omega)]; all_goals (first | assumption | go_simp) }; have l0c : w.heap.size < wa.heap.size := by { omega }; have l1c : w.heap.size + 1 < wa.heap.size := by { omega }
          have HBv := Lib.hid (HBv.out.trans (hbx.mono HBv.out.size))
          have HB8 := Lib.hid (HB8.out.trans (hbx.mono HB8.out.size))
          have HU := Lib.hid (HU.out.below hbx)
          clear hbx hzx q0 q1 q2 q3 o0 o1 l0 l1 cP cQ
          have HBn := Lib.hid (hBr.out.trans (HWa.out.mono hBr.out.size))
          cases F
          · go_wp2
            go_roundw
            case rel => exact ⟨1, by rw [← hFn.out], by go_num, by omega, HBn⟩
            case measure => simp [intOf] <;> omega
          · go_wp2
            go_roundw
            case rel => exact ⟨1, by rw [← hFn.out], by go_num, by omega, HBn⟩
            case measure => simp [intOf] <;> omega
        ·
          obtain ⟨P0, hP0'⟩ : ∃ P, P = (gp U j).1 := ⟨_, rfl⟩
          obtain ⟨Q0, hQ0'⟩ : ∃ P, P = (gp U j).2 := ⟨_, rfl⟩
          obtain ⟨y, hy⟩ : ∃ y, y = e.getD j 0 := ⟨_, rfl⟩
          have cP0 : wr.cell? ⟨bu, ou + j * 2, none⟩ = some (.int .i64 P0) := by rw [cellB HB8.out _ _ hbu, hP0']; exact (HCU.out j (by omega)).1
          have cQ0 : wr.cell? ⟨bu, ou + j * 2 + 1, none⟩ = some (.int .i64 Q0) := by rw [cellB HB8.out _ _ hbu, hQ0']; exact (HCU.out j (by omega)).2
          have hok := HOK1.out
          have hok0 := HOK.out j (by omega)
          have hfa := HFA.out j hlt
          unfold FrOk at hok0
          rw [← hP0', ← hQ0'] at hok0 hfa
          rw [← HPQ1.out.1, ← HPQ1.out.2] at hfa
          have m1 := mulb (a := P1) (b := Q0) 1000000000 1000000000 1000000000000000000 (by omega) (by omega) (by omega) (by omega) (by omega)
          have m2 := mulb (a := P0) (b := Q1) 1000000000 1000000000 1000000000000000000 (by omega) (by omega) (by omega) (by omega) (by omega)
          have hcm := fun w' => bcmp_big P1 Q1 P0 Q0 w' (by omega) (by omega)
          obtain ⟨R, hR⟩ : ∃ R, R = cmpI (P1 * Q0) (P0 * Q1) := ⟨_, rfl⟩
          have hR0 : R ≤ 0 := by rw [hR]; unfold cmpI; (repeat' split) <;> omega
          rw [← hR] at hcm
          have hRb : decide (R > 0) = false := by simp; omega
          have HCM := Lib.hid hcm
          have j2 : decide ((j : Int) + 1 > 0) = true := by simp <;> omega
          have j3 : ((j : Int) + 1 == 0) = false := by simp; omega
          have j4 : (0 : Int) ≤ (j : Int) := by omega
          have j5 : (j : Int) < (n : Int) + 1 := by omega
          have j6 : (j : Int) < (n : Int) := by omega
          have HY := Lib.hid hy
          have hFn := Lib.hid (show frU e g (j + 1 + 1) = (F && (y == 0)) by rw [frU, ← HFK.out, hy] <;> rfl)
          clear hP0' hQ0' hy hok hok0 hfa m1 m2 hcm hR hR0
          go_wp2_with fail
          refine later_of_eq 35 (by kernel_rfl) (by kernel_rfl) ?_; simp only [List.take_succ_cons, List.take_zero, List.drop_succ_cons, List.drop_zero]; repeat go_big_quiet_step (first | (go_at_call 35; exact calls_later (HIL.out _)) | (go_at_call 36; exact calls_later (HIS.out _)))
          refine wpQuiet_nil ?_; intro wa hbx
          have HWa := Lib.hid hbx
          have hzx := hbx.size
          have q0c : wa.cell? ⟨w.heap.size, 0, none⟩ = some (.slice a n c) := by { rw [cellB hbx _ _ (by first | (simp; done) | (simp; omega) | omega)]; all_goals (first | assumption | go_simp) }; have q1c : wa.cell? ⟨w.heap.size, 1, none⟩ = some (.slice (some ⟨be1, oe1, none⟩) n c1) := by { rw [cellB hbx _ _ (by first | (simp; done) | (simp; omega) | omega)]; all_goals (first | assumption | go_simp) }; have q2c : wa.cell? ⟨w.heap.size, 2, none⟩ = some (.slice a2 n c2) := by { rw [cellB hbx _ _ (by first | (simp; done) | (simp; omega) | omega)]; all_goals (first | assumption | go_simp) }; have q3c : wa.cell? ⟨w.heap.size, 3, none⟩ = some (.bool g) := by { rw [cellB hbx _ _ (by first | (simp; done) | (simp; omega) | omega)]; all_goals (first | assumption | go_simp) }; have o0c : wa.cell? ⟨w.heap.size + 1, 0, none⟩ = some (.int .i64 P) := by { rw [cellB hbx _ _ (by first | (simp; done) | (simp; omega) | omega)]; all_goals (first | assumption | go_simp) }; have o1c : wa.cell? ⟨w.heap.size + 1, 1, none⟩ = some (.int .i64 Q) := by { rw [cellB hbx _ _ (by first | (simp; done) | (simp; omega) | omega)]; all_goals (first | assumption | go_simp) }; have l0c : w.heap.size < wa.heap.size := by { omega }; have l1c : w.heap.size + 1 < wa.heap.size := by { omega }
          have HBv := Lib.hid (HBv.out.trans (hbx.mono HBv.out.size))
          have HB8 := Lib.hid (HB8.out.trans (hbx.mono HB8.out.size))
          have HU := Lib.hid (HU.out.below hbx)
          clear hbx hzx q0 q1 q2 q3 o0 o1 l0 l1 cP cQ cP0 cQ0
          go_wp2_with fail
          refine (HCM.out _).mono ?_
          rintro e30 wa2 ⟨rfl, hbx⟩
          have HWa := Lib.hid (HWa.out.trans (hbx.mono HWa.out.size))
          have hzx := hbx.size
          have q0 : wa2.cell? ⟨w.heap.size, 0, none⟩ = some (.slice a n c) := by { rw [cellB hbx _ _ (by first | (simp; done) | (simp; omega) | omega)]; all_goals (first | assumption | go_simp) }; have q1 : wa2.cell? ⟨w.heap.size, 1, none⟩ = some (.slice (some ⟨be1, oe1, none⟩) n c1) := by { rw [cellB hbx _ _ (by first | (simp; done) | (simp; omega) | omega)]; all_goals (first | assumption | go_simp) }; have q2 : wa2.cell? ⟨w.heap.size, 2, none⟩ = some (.slice a2 n c2) := by { rw [cellB hbx _ _ (by first | (simp; done) | (simp; omega) | omega)]; all_goals (first | assumption | go_simp) }; have q3 : wa2.cell? ⟨w.heap.size, 3, none⟩ = some (.bool g) := by { rw [cellB hbx _ _ (by first | (simp; done) | (simp; omega) | omega)]; all_goals (first | assumption | go_simp) }; have o0 : wa2.cell? ⟨w.heap.size + 1, 0, none⟩ = some (.int .i64 P) := by { rw [cellB hbx _ _ (by first | (simp; done) | (simp; omega) | omega)]; all_goals (first | assumption | go_simp) }; have o1 : wa2.cell? ⟨w.heap.size + 1, 1, none⟩ = some (.int .i64 Q) := by { rw [cellB hbx _ _ (by first | (simp; done) | (simp; omega) | omega)]; all_goals (first | assumption | go_simp) }; have l0 : w.heap.size < wa2.heap.size := by { omega }; have l1 : w.heap.size + 1 < wa2.heap.size := by { omega }
          have HBv := Lib.hid (HBv.out.trans (hbx.mono HBv.out.size))
          have HB8 := Lib.hid (HB8.out.trans (hbx.mono HB8.out.size))
          have HU := Lib.hid (HU.out.below hbx)
          clear hbx hzx q0c q1c q2c q3c o0c o1c l0c l1c 
          have HBn := Lib.hid (hBr.out.trans (HWa.out.mono hBr.out.size))
          have cy : wa2.cell? ⟨be1, oe1 + j, none⟩ = some (.int .i64 y) := by rw [cellB HBv.out _ _ hbe, HY.out]; exact HCE.out j (by omega)
          cases F
          · go_wp2
            go_roundw
            case rel => exact ⟨j + 1 + 1, by rw [hFn.out]; rfl, by go_num, by omega, HBn⟩
            case measure => simp [intOf]; omega
          · cases hyz : (y == 0)
            · rw [hyz] at hFn
              go_wp2
              go_roundw
              case rel => exact ⟨j + 1 + 1, by rw [hFn.out]; rfl, by go_num, by omega, HBn⟩
              case measure => simp [intOf]; omega
            · rw [hyz] at hFn
              go_wp2
              go_roundw
              case rel => exact ⟨j + 1 + 1, by rw [hFn.out]; rfl, by go_num, by omega, HBn⟩
              case measure => simp [intOf]; omega
      · obtain rfl : k = n + 1 := by omega
        obtain ⟨F, hF⟩ : ∃ F, F = frU e g (n + 1) := ⟨_, rfl⟩
        rw [← hF]
        have HFF := Lib.hid hF
        clear hF hBr
        obtain ⟨wb, rfl⟩ : ∃ w', w' = wr := ⟨wr, rfl⟩
        go_wp2_with fail
        go_loopw [11] (fun i wr => ∃ k : Nat, i = .int .i64 k ∧ k ≤ n + 1 ∧ Hid (Below wb.heap.size wb wr)) (fun i _ => n + 1 - (intOf i).toNat)
        case atStart => exact ⟨0, rfl, Nat.zero_le _, Lib.hid (Below.refl _ _)⟩
        case round =>
          obtain ⟨k, rfl, hk, hBr⟩ := hrel
          have hbx := hBr.out
          have hzx := hbx.size
          have q0c : wr.cell? ⟨w.heap.size, 0, none⟩ = some (.slice a n c) := by { rw [cellB hbx _ _ (by first | (simp; done) | (simp; omega) | omega)]; all_goals (first | assumption | go_simp) }; have q1c : wr.cell? ⟨w.heap.size, 1, none⟩ = some (.slice (some ⟨be1, oe1, none⟩) n c1) := by { rw [cellB hbx _ _ (by first | (simp; done) | (simp; omega) | omega)]; all_goals (first | assumption | go_simp) }; have q2c : wr.cell? ⟨w.heap.size, 2, none⟩ = some (.slice a2 n c2) := by { rw [cellB hbx _ _ (by first | (simp; done) | (simp; omega) | omega)]; all_goals (first | assumption | go_simp) }; have q3c : wr.cell? ⟨w.heap.size, 3, none⟩ = some (.bool g) := by { rw [cellB hbx _ _ (by first | (simp; done) | (simp; omega) | omega)]; all_goals (first | assumption | go_simp) }; have o0c : wr.cell? ⟨w.heap.size + 1, 0, none⟩ = some (.int .i64 P) := by { rw [cellB hbx _ _ (by first | (simp; done) | (simp; omega) | omega)]; all_goals (first | assumption | go_simp) }; have o1c : wr.cell? ⟨w.heap.size + 1, 1, none⟩ = some (.int .i64 Q) := by { rw [cellB hbx _ _ (by first | (simp; done) | (simp; omega) | omega)]; all_goals (first | assumption | go_simp) }; have l0c : w.heap.size < wr.heap.size := by { omega }; have l1c : w.heap.size + 1 < wr.heap.size := by { omega }
          have HBv := Lib.hid (HBv.out.trans (hbx.mono HBv.out.size))
          have HB8 := Lib.hid (HB8.out.trans (hbx.mono HB8.out.size))
          have HU := Lib.hid (HU.out.below hbx)
          clear hbx hzx q0 q1 q2 q3 o0 o1 l0 l1 
          rcases Nat.lt_or_ge k (n + 1) with hlt | hge
          · have j0 : (0 : Int) ≤ (k : Int) := by omega
            have j1 : (k : Int) < (n : Int) + 1 := by omega
            cases F
            · go_wp2_with fail
              refine later_of_eq 7 (by kernel_rfl) (by kernel_rfl) ?_; simp only [List.take_succ_cons, List.take_zero, List.drop_succ_cons, List.drop_zero]; repeat go_big_quiet_step (exact calls_later (whole_any _ _))
              refine wpQuiet_nil ?_; intro wa hbx
              have HBn := Lib.hid (hBr.out.trans (hbx.mono hBr.out.size))
              clear hbx
              go_wp2
              go_roundw
              case rel => exact ⟨k + 1, by go_num, by omega, HBn⟩
              case measure => simp [intOf]; omega
            · have hone := HFE.out HFF.out.symm k hlt
              have cP : wr.cell? ⟨bu, ou + k * 2, none⟩ = some (.int .i64 1) := by rw [cellB HB8.out _ _ hbu]; have := (HCU.out k hlt).1; change _ = some (Value.int .i64 (gp U k).1) at this; rw [hone] at this; exact this
              have cQ : wr.cell? ⟨bu, ou + k * 2 + 1, none⟩ = some (.int .i64 1) := by rw [cellB HB8.out _ _ hbu]; have := (HCU.out k hlt).2; change _ = some (Value.int .i64 (gp U k).2) at this; rw [hone] at this; exact this
              clear hone
              go_wp2_with fail
              refine later_of_eq 7 (by kernel_rfl) (by kernel_rfl) ?_; simp only [List.take_succ_cons, List.take_zero, List.drop_succ_cons, List.drop_zero]; repeat go_big_quiet_step (exact calls_later (whole_any _ _))
              refine wpQuiet_nil ?_; intro wa hbx
              have HBn := Lib.hid (hBr.out.trans (hbx.mono hBr.out.size))
              clear hbx
              go_wp2
              go_roundw
              case rel => exact ⟨k + 1, by go_num, by omega, HBn⟩
              case measure => simp [intOf]; omega
          · obtain rfl : k = n + 1 := by omega
            clear hBr
            go_wp2_with fail
            refine (HCL.out _ HBv.out).mono ?_
            rintro e20 wc ⟨a3, c3, a4, c4, a5, c5, rfl, hbx, hi1, hi2, hi3⟩
            have HL3 := Lib.hid (And.intro hi1 (And.intro hi2 hi3))
            clear hi1 hi2 hi3
            have hzx := hbx.size
            have q0 : wc.cell? ⟨w.heap.size, 0, none⟩ = some (.slice a n c) := by { rw [cellB hbx _ _ (by first | (simp; done) | (simp; omega) | omega)]; all_goals (first | assumption | go_simp) }; have q1 : wc.cell? ⟨w.heap.size, 1, none⟩ = some (.slice (some ⟨be1, oe1, none⟩) n c1) := by { rw [cellB hbx _ _ (by first | (simp; done) | (simp; omega) | omega)]; all_goals (first | assumption | go_simp) }; have q2 : wc.cell? ⟨w.heap.size, 2, none⟩ = some (.slice a2 n c2) := by { rw [cellB hbx _ _ (by first | (simp; done) | (simp; omega) | omega)]; all_goals (first | assumption | go_simp) }; have q3 : wc.cell? ⟨w.heap.size, 3, none⟩ = some (.bool g) := by { rw [cellB hbx _ _ (by first | (simp; done) | (simp; omega) | omega)]; all_goals (first | assumption | go_simp) }; have o0 : wc.cell? ⟨w.heap.size + 1, 0, none⟩ = some (.int .i64 P) := by { rw [cellB hbx _ _ (by first | (simp; done) | (simp; omega) | omega)]; all_goals (first | assumption | go_simp) }; have o1 : wc.cell? ⟨w.heap.size + 1, 1, none⟩ = some (.int .i64 Q) := by { rw [cellB hbx _ _ (by first | (simp; done) | (simp; omega) | omega)]; all_goals (first | assumption | go_simp) }; have l0 : w.heap.size < wc.heap.size := by { omega }; have l1 : w.heap.size + 1 < wc.heap.size := by { omega }
            have HBv := Lib.hid (HBv.out.trans (hbx.mono HBv.out.size))
            have HB8 := Lib.hid (HB8.out.trans (hbx.mono HB8.out.size))
            have HU := Lib.hid (HU.out.below hbx)
            clear hbx hzx q0c q1c q2c q3c o0c o1c l0c l1c 
            go_wp2_with fail
            refine (copyFracs_any U _ (n + 1) cu wc HU.out (by omega)).mono ?_
            rintro e21 wd ⟨a6, c6, rfl, hbx, hcp⟩
            have HCP := Lib.hid (show PairsR wd a6 (n + 1) U from SlR.of_owns hcp)
            have HL3 := Lib.hid (And.intro (HL3.out.1.below hbx) (And.intro (HL3.out.2.1.below hbx) (HL3.out.2.2.below hbx)))
            clear hcp
            have hzx := hbx.size
            have q0c : wd.cell? ⟨w.heap.size, 0, none⟩ = some (.slice a n c) := by { rw [cellB hbx _ _ (by first | (simp; done) | (simp; omega) | omega)]; all_goals (first | assumption | go_simp) }; have q1c : wd.cell? ⟨w.heap.size, 1, none⟩ = some (.slice (some ⟨be1, oe1, none⟩) n c1) := by { rw [cellB hbx _ _ (by first | (simp; done) | (simp; omega) | omega)]; all_goals (first | assumption | go_simp) }; have q2c : wd.cell? ⟨w.heap.size, 2, none⟩ = some (.slice a2 n c2) := by { rw [cellB hbx _ _ (by first | (simp; done) | (simp; omega) | omega)]; all_goals (first | assumption | go_simp) }; have q3c : wd.cell? ⟨w.heap.size, 3, none⟩ = some (.bool g) := by { rw [cellB hbx _ _ (by first | (simp; done) | (simp; omega) | omega)]; all_goals (first | assumption | go_simp) }; have o0c : wd.cell? ⟨w.heap.size + 1, 0, none⟩ = some (.int .i64 P) := by { rw [cellB hbx _ _ (by first | (simp; done) | (simp; omega) | omega)]; all_goals (first | assumption | go_simp) }; have o1c : wd.cell? ⟨w.heap.size + 1, 1, none⟩ = some (.int .i64 Q) := by { rw [cellB hbx _ _ (by first | (simp; done) | (simp; omega) | omega)]; all_goals (first | assumption | go_simp) }; have l0c : w.heap.size < wd.heap.size := by { omega }; have l1c : w.heap.size + 1 < wd.heap.size := by { omega }
            have HBv := Lib.hid (HBv.out.trans (hbx.mono HBv.out.size))
            have HB8 := Lib.hid (HB8.out.trans (hbx.mono HB8.out.size))
            have HU := Lib.hid (HU.out.below hbx)
            clear hbx hzx q0 q1 q2 q3 o0 o1 l0 l1 
            go_wp2_with fail
            refine (checkInitial_any s e t U a3 a4 a5 a6 n c3 n c4 n c5 (n + 1) c6 g wd HL3.out.1 HL3.out.2.1 HL3.out.2.2 HCP.out HE0.out.1 rfl (fun i hi => (HOK.out i hi).1)).mono ?_
            rintro e22 we ⟨hgood, _, hbx⟩
            obtain rfl := hgood (fun i hi => HHO.out i hi)
            clear hgood HL3 HCP
            have hzx := hbx.size
            have q0 : we.cell? ⟨w.heap.size, 0, none⟩ = some (.slice a n c) := by { rw [cellB hbx _ _ (by first | (simp; done) | (simp; omega) | omega)]; all_goals (first | assumption | go_simp) }; have q1 : we.cell? ⟨w.heap.size, 1, none⟩ = some (.slice (some ⟨be1, oe1, none⟩) n c1) := by { rw [cellB hbx _ _ (by first | (simp; done) | (simp; omega) | omega)]; all_goals (first | assumption | go_simp) }; have q2 : we.cell? ⟨w.heap.size, 2, none⟩ = some (.slice a2 n c2) := by { rw [cellB hbx _ _ (by first | (simp; done) | (simp; omega) | omega)]; all_goals (first | assumption | go_simp) }; have q3 : we.cell? ⟨w.heap.size, 3, none⟩ = some (.bool g) := by { rw [cellB hbx _ _ (by first | (simp; done) | (simp; omega) | omega)]; all_goals (first | assumption | go_simp) }; have o0 : we.cell? ⟨w.heap.size + 1, 0, none⟩ = some (.int .i64 P) := by { rw [cellB hbx _ _ (by first | (simp; done) | (simp; omega) | omega)]; all_goals (first | assumption | go_simp) }; have o1 : we.cell? ⟨w.heap.size + 1, 1, none⟩ = some (.int .i64 Q) := by { rw [cellB hbx _ _ (by first | (simp; done) | (simp; omega) | omega)]; all_goals (first | assumption | go_simp) }; have l0 : w.heap.size < we.heap.size := by { omega }; have l1 : w.heap.size + 1 < we.heap.size := by { omega }
            have HBv := Lib.hid (HBv.out.trans (hbx.mono HBv.out.size))
            have HB8 := Lib.hid (HB8.out.trans (hbx.mono HB8.out.size))
            have HU := Lib.hid (HU.out.below hbx)
            clear hbx hzx q0c q1c q2c q3c o0c o1c l0c l1c 
            go_wp2_with fail
            refine (mod_any at_ ((n : Int) + 1) _ (by omega) (by omega) hA0 hA1).mono ?_
            rintro e23 _ ⟨rfl, rfl⟩
            have hk0 : 0 ≤ at_ % ((n : Int) + 1) := Int.emod_nonneg _ (by omega)
            have hk1 : at_ % ((n : Int) + 1) < (n : Int) + 1 := Int.emod_lt_of_pos _ (by omega)
            obtain ⟨k, hkk⟩ : ∃ k : Nat, (k : Int) = at_ % ((n : Int) + 1) := ⟨(at_ % ((n : Int) + 1)).toNat, by omega⟩
            rw [← hkk] at hk0 hk1 ⊢
            have hlt : k < n + 1 := by omega
            clear hkk
            obtain ⟨P1, hP1'⟩ : ∃ P, P = (gp U k).1 := ⟨_, rfl⟩
            obtain ⟨Q1, hQ1'⟩ : ∃ P, P = (gp U k).2 := ⟨_, rfl⟩
            have cP : we.cell? ⟨bu, ou + k * 2, none⟩ = some (.int .i64 P1) := by rw [cellB HB8.out _ _ hbu, hP1']; exact (HCU.out k hlt).1
            have cQ : we.cell? ⟨bu, ou + k * 2 + 1, none⟩ = some (.int .i64 Q1) := by rw [cellB HB8.out _ _ hbu, hQ1']; exact (HCU.out k hlt).2
            have HPQ1 := Lib.hid (show gp U k = (P1, Q1) by rw [hP1', hQ1'])
            have HFC := Lib.hid (fun w' => rfracErr_all P Q w' hP0 hP1 hQ1)
            obtain ⟨X, hX⟩ : ∃ X, X = frE P Q := ⟨_, rfl⟩
            rw [← hX] at HFC
            have HXE := Lib.hid hX
            clear hP1' hQ1' hX
            by_cases hX0 : X = 0
            ·
              subst hX0
              have HOX := Lib.hid (frE_ok HXE.out.symm)
              by_cases hsame : P = P1 ∧ Q = Q1
              · obtain ⟨rfl, rfl⟩ := hsame
                have hs1 : (P == P) = true := by simp
                have hs2 : (Q == Q) = true := by simp
                go_wp2_with fail
                refine later_of_eq 9 (by kernel_rfl) (by kernel_rfl) ?_; simp only [List.take_succ_cons, List.take_zero, List.drop_succ_cons, List.drop_zero]; repeat go_big_quiet_step (exact calls_later (HFC.out _))
                refine wpQuiet_nil ?_; intro wf hbx
                have HBz := Lib.hid (HBv.out.trans (hbx.mono HBv.out.size))
                clear hbx
                go_wp2
                go_ret
                exact ⟨rfl, HBz.out⟩
              · have hb : ((P == P1) = false) ∨ ((P == P1) = true ∧ (Q == Q1) = false) := by
                  by_cases h1 : P = P1
                  · exact .inr ⟨by simpa using h1, by simpa using fun h2 => hsame ⟨h1, h2⟩⟩
                  · exact .inl (by simpa using h1)
                have HNE := Lib.hid (show (P, Q) ≠ gp U k by rw [HPQ1.out]; intro h; exact hsame (by simpa using h))
                clear hsame
                have HB_ := Lib.hid hb
                clear hb
                go_upto_region 26 with fail
                go_cut [162] from 152 to 162 (fun v162 wx => v162 = .bool false ∧ Hid (Below we.heap.size we wx))
                case first =>
                  rcases HB_.out with hb | ⟨hb, hb2⟩
                  · refine later_of_eq 9 (by kernel_rfl) (by kernel_rfl) ?_; simp only [List.take_succ_cons, List.take_zero, List.drop_succ_cons, List.drop_zero]; repeat go_big_quiet_step (exact calls_later (HFC.out _))
                    refine wpQuiet_nil ?_; intro wf hbx
                    go_wp2
                    go_meet
                    case rel => exact ⟨rfl, Lib.hid hbx⟩
                  · refine later_of_eq 9 (by kernel_rfl) (by kernel_rfl) ?_; simp only [List.take_succ_cons, List.take_zero, List.drop_succ_cons, List.drop_zero]; repeat go_big_quiet_step (exact calls_later (HFC.out _))
                    refine wpQuiet_nil ?_; intro wf hbx
                    go_wp2
                    go_meet
                    case rel => exact ⟨rfl, Lib.hid hbx⟩
                case rest =>
                  obtain ⟨wf, rfl⟩ : ∃ w', w' = wc := ⟨wc, rfl⟩
                  obtain ⟨rfl, HNc⟩ := hcut
                  have hbx := HNc.out
                  have hzx := hbx.size
                  have q0c : wf.cell? ⟨w.heap.size, 0, none⟩ = some (.slice a n c) := by { rw [cellB hbx _ _ (by first | (simp; done) | (simp; omega) | omega)]; all_goals (first | assumption | go_simp) }; have q1c : wf.cell? ⟨w.heap.size, 1, none⟩ = some (.slice (some ⟨be1, oe1, none⟩) n c1) := by { rw [cellB hbx _ _ (by first | (simp; done) | (simp; omega) | omega)]; all_goals (first | assumption | go_simp) }; have q2c : wf.cell? ⟨w.heap.size, 2, none⟩ = some (.slice a2 n c2) := by { rw [cellB hbx _ _ (by first | (simp; done) | (simp; omega) | omega)]; all_goals (first | assumption | go_simp) }; have q3c : wf.cell? ⟨w.heap.size, 3, none⟩ = some (.bool g) := by { rw [cellB hbx _ _ (by first | (simp; done) | (simp; omega) | omega)]; all_goals (first | assumption | go_simp) }; have o0c : wf.cell? ⟨w.heap.size + 1, 0, none⟩ = some (.int .i64 P) := by { rw [cellB hbx _ _ (by first | (simp; done) | (simp; omega) | omega)]; all_goals (first | assumption | go_simp) }; have o1c : wf.cell? ⟨w.heap.size + 1, 1, none⟩ = some (.int .i64 Q) := by { rw [cellB hbx _ _ (by first | (simp; done) | (simp; omega) | omega)]; all_goals (first | assumption | go_simp) }; have l0c : w.heap.size < wf.heap.size := by { omega }; have l1c : w.heap.size + 1 < wf.heap.size := by { omega }
                  have HBv := Lib.hid (HBv.out.trans (hbx.mono HBv.out.size))
                  have HB8 := Lib.hid (HB8.out.trans (hbx.mono HB8.out.size))
                  have HU := Lib.hid (HU.out.below hbx)
                  clear hbx hzx q0 q1 q2 q3 o0 o1 l0 l1 HNc cP cQ
                  have hlf := l0c
                  go_wp2_with fail
                  refine (copyFracs_any U _ (n + 1) cu wf HU.out (by omega)).mono ?_
                  rintro e24 wg ⟨a6, c6, rfl, hbx, hcp⟩
                  obtain ⟨g6, rfl⟩ := owns_addr2 hcp
                  have HCP := Lib.hid hcp
                  have hg6 := hcp.lt g6 rfl
                  clear hcp
                  have hzx := hbx.size
                  have q0 : wg.cell? ⟨w.heap.size, 0, none⟩ = some (.slice a n c) := by { rw [cellB hbx _ _ (by first | (simp; done) | (simp; omega) | omega)]; all_goals (first | assumption | go_simp) }; have q1 : wg.cell? ⟨w.heap.size, 1, none⟩ = some (.slice (some ⟨be1, oe1, none⟩) n c1) := by { rw [cellB hbx _ _ (by first | (simp; done) | (simp; omega) | omega)]; all_goals (first | assumption | go_simp) }; have q2 : wg.cell? ⟨w.heap.size, 2, none⟩ = some (.slice a2 n c2) := by { rw [cellB hbx _ _ (by first | (simp; done) | (simp; omega) | omega)]; all_goals (first | assumption | go_simp) }; have q3 : wg.cell? ⟨w.heap.size, 3, none⟩ = some (.bool g) := by { rw [cellB hbx _ _ (by first | (simp; done) | (simp; omega) | omega)]; all_goals (first | assumption | go_simp) }; have o0 : wg.cell? ⟨w.heap.size + 1, 0, none⟩ = some (.int .i64 P) := by { rw [cellB hbx _ _ (by first | (simp; done) | (simp; omega) | omega)]; all_goals (first | assumption | go_simp) }; have o1 : wg.cell? ⟨w.heap.size + 1, 1, none⟩ = some (.int .i64 Q) := by { rw [cellB hbx _ _ (by first | (simp; done) | (simp; omega) | omega)]; all_goals (first | assumption | go_simp) }; have l0 : w.heap.size < wg.heap.size := by { omega }; have l1 : w.heap.size + 1 < wg.heap.size := by { omega }
                  have HBv := Lib.hid (HBv.out.trans (hbx.mono HBv.out.size))
                  have HB8 := Lib.hid (HB8.out.trans (hbx.mono HB8.out.size))
                  have HU := Lib.hid (HU.out.below hbx)
                  have hw6 : wf.heap.size ≤ g6 := hg6.1
                  have hvz := HBv.out.size
                  clear hbx hzx q0c q1c q2c q3c o0c o1c l0c l1c
                  have fK0 := HCP.out.frozenAt (k * 2)
                  have fK1 := HCP.out.frozenAt (k * 2 + 1)
                  have dK0 := HCP.out.cellAt (k * 2) (by omega)
                  have dK1 := HCP.out.cellAt (k * 2 + 1) (by omega)
                  have hpg := pcells_get U k (by rw [HUL.out]; exact hlt)
                  rw [hpg.1] at dK0
                  rw [hpg.2] at dK1
                  clear hpg
                  have hrow := ((HCP.out.stored (k * 2) (.int .i64 P)).1.stored (k * 2 + 1) (.int .i64 Q)).1
                  rw [pcells_set U k (by rw [HUL.out]; exact hlt)] at hrow
                  have hwg6 : w.heap.size ≤ g6 := by omega
                  have hbs : Below w.heap.size w ((wg.setCell ⟨g6, k * 2, none⟩ (.int .i64 P)).setCell ⟨g6, k * 2 + 1, none⟩ (.int .i64 Q)) := Below.setCell (Below.setCell HBv.out hwg6 _) hwg6 _
                  have HRW := Lib.hid (show PairsR _ (some ⟨g6, 0, none⟩) (n + 1) (U.set k (P, Q)) from SlR.of_owns hrow)
                  have HBS := Lib.hid hbs
                  have hq0 : ((wg.setCell ⟨g6, k * 2, none⟩ (.int .i64 P)).setCell ⟨g6, k * 2 + 1, none⟩ (.int .i64 Q)).cell? ⟨w.heap.size, 0, none⟩ = some (.slice a n c) := by rw [World.cell?_setCell_other _ ⟨g6, k * 2 + 1, none⟩ ⟨w.heap.size, 0, none⟩ _ (by simp <;> omega), World.cell?_setCell_other _ ⟨g6, k * 2, none⟩ ⟨w.heap.size, 0, none⟩ _ (by simp <;> omega)]; exact q0
                  have hq1 : ((wg.setCell ⟨g6, k * 2, none⟩ (.int .i64 P)).setCell ⟨g6, k * 2 + 1, none⟩ (.int .i64 Q)).cell? ⟨w.heap.size, 1, none⟩ = some (.slice (some ⟨be1, oe1, none⟩) n c1) := by rw [World.cell?_setCell_other _ ⟨g6, k * 2 + 1, none⟩ ⟨w.heap.size, 1, none⟩ _ (by simp <;> omega), World.cell?_setCell_other _ ⟨g6, k * 2, none⟩ ⟨w.heap.size, 1, none⟩ _ (by simp <;> omega)]; exact q1
                  have hq2 : ((wg.setCell ⟨g6, k * 2, none⟩ (.int .i64 P)).setCell ⟨g6, k * 2 + 1, none⟩ (.int .i64 Q)).cell? ⟨w.heap.size, 2, none⟩ = some (.slice a2 n c2) := by rw [World.cell?_setCell_other _ ⟨g6, k * 2 + 1, none⟩ ⟨w.heap.size, 2, none⟩ _ (by simp <;> omega), World.cell?_setCell_other _ ⟨g6, k * 2, none⟩ ⟨w.heap.size, 2, none⟩ _ (by simp <;> omega)]; exact q2
                  have hq3 : ((wg.setCell ⟨g6, k * 2, none⟩ (.int .i64 P)).setCell ⟨g6, k * 2 + 1, none⟩ (.int .i64 Q)).cell? ⟨w.heap.size, 3, none⟩ = some (.bool g) := by rw [World.cell?_setCell_other _ ⟨g6, k * 2 + 1, none⟩ ⟨w.heap.size, 3, none⟩ _ (by simp <;> omega), World.cell?_setCell_other _ ⟨g6, k * 2, none⟩ ⟨w.heap.size, 3, none⟩ _ (by simp <;> omega)]; exact q3
                  clear hrow hbs
                  have k0 : (0 : Int) ≤ (k : Int) := hk0
                  go_wp2_with fail
                  generalize (wg.setCell ⟨g6, k * 2, none⟩ (.int .i64 P)).setCell ⟨g6, k * 2 + 1, none⟩ (.int .i64 Q) = wh at *
                  refine (HCL.out _ HBS.out).mono ?_
                  rintro e30 wi0 ⟨a7, c7, a8, c8, a9, c9, rfl, hbx, hi1, hi2, hi3⟩
                  have HRW := Lib.hid (HRW.out.below hbx)
                  have HBz := Lib.hid (HBS.out.trans (hbx.mono HBS.out.size))
                  have HL3 := Lib.hid (And.intro hi1 (And.intro hi2 hi3))
                  clear hi1 hi2 hi3 hbx
                  go_wp2_with fail
                  refine (checkInitial_any s e t (U.set k (P, Q)) a7 a8 a9 (some ⟨g6, 0, none⟩) n c7 n c8 n c9 (n + 1) c6 g wi0 HL3.out.1 HL3.out.2.1 HL3.out.2.2 HRW.out HE0.out.1 rfl (fun i hi => by
                    rw [gp_set (by rw [HUL.out]; exact hlt)]
                    split
                    · exact HOX.out
                    · exact (HOK.out i hi).1)).mono ?_
                  rintro e31 wj ⟨_, hbad, hbx⟩
                  obtain ⟨j, rfl⟩ := hbad (HCG.out k hlt (P, Q) HOX.out HNE.out)
                  have HBy := Lib.hid (HBz.out.trans (hbx.mono HBz.out.size))
                  clear hbx hbad
                  go_wp2
                  go_ret
                  exact ⟨rfl, HBy.out⟩
            · have hX1 : (X != 0) = true := by simpa using hX0
              clear hX0
              go_wp2_with fail
              refine later_of_eq 9 (by kernel_rfl) (by kernel_rfl) ?_; simp only [List.take_succ_cons, List.take_zero, List.drop_succ_cons, List.drop_zero]; repeat go_big_quiet_step (exact calls_later (HFC.out _))
              refine wpQuiet_nil ?_; intro wf hbx
              have HBz := Lib.hid (HBv.out.trans (hbx.mono HBv.out.size))
              clear hbx
              go_wp2
              go_ret
              exact ⟨rfl, HBz.out⟩
            end Go.Proofs.Ytiellefbndlkkaa
