/- Whether a node has its voltage, or its equation. -/
import Derived.Test.YtiellefbndlkkaaZero
import Derived.Test.YtiellefbndlkkaaInitial
import Derived.Test.YtiellefbndlkkaaImpulse
import Derived.Test.YtiellefbndlkkaaSched
namespace Go.Proofs.Ytiellefbndlkkaa
open Go.RowKit
set_option linter.unusedVariables false

theorem infoTerm : (Try.prog.info? 200).map (fun i => (i.zero, i.size, i.bytes)) = some (some (.agg #[.int .i64 0, .int .i64 0, .int .i64 0]), 3, 24) := by kernel_rfl
abbrev g0' (l : List Int) (i : Nat) : Int := l.getD i 0
/-- The terms of a node's equation. -/
def tms (s e : List Int) (u : List (Int × Int)) (n j : Nat) : List (Int × Int × Int) :=
  [(ownOf s e (j - 1), gp u j), (-(g0' s (j - 1)), gp u (j - 1))] ++ if j < n then [(-(g0' s j), gp u (j + 1))] else []
def hold (s e : List Int) (u : List (Int × Int)) (g : Bool) (n j : Nat) : Bool :=
  if j = 0 then ((gp u 0).1 == 1 && (gp u 0).2 == 1) else if lastOf n g < j then ((gp u j).1 == 0 && (gp u j).2 == 1) else zUpto (tms s e u n j) 4
set_option maxRecDepth 100000 in
theorem holds_zero (s e : List Int) (u : List (Int × Int)) (a a1 a2 : Option Addr) (n c n1 c1 m c2 : Nat) (g : Bool) (w : World) (hu : PairsR w a2 m u) (hm : 0 < m) :
    Calls Try.prog 130 #[.agg #[.slice a n c, .slice a1 n1 c1, .bool g], .slice a2 m c2, .int .i64 0] w fun e' w' => e' = .returned (.bool (hold s e u g n 0)) ∧ Below w.heap.size w w' := by
  obtain ⟨b, o, rfl, hb, hc⟩ := hu.addr hm
  have c0 := (hc 0 hm).1
  have c1' := (hc 0 hm).2
  have hms := hu.small
  obtain ⟨P, hP⟩ : ∃ P, P = (gp u 0).1 := ⟨_, rfl⟩
  obtain ⟨Q, hQ⟩ : ∃ P, P = (gp u 0).2 := ⟨_, rfl⟩
  have hh : hold s e u g n 0 = (P == 1 && Q == 1) := by unfold hold; rw [if_pos rfl, hP, hQ]
  rw [hh]
  change _ = some (Value.int .i64 (gp u 0).1) at c0
  change _ = some (Value.int .i64 (gp u 0).2) at c1'
  rw [← hP] at c0
  rw [← hQ] at c1'
  simp only [Nat.zero_mul, Nat.add_zero] at c0 c1'
  have i0 : (0 : Int) < (m : Int) := by omega
  clear hc hu hP hQ hh
  by_cases h1 : P = 1
  · have hb1 : (P == 1) = true := by simpa using h1
    clear h1
    rw [hb1, Bool.true_and]
    by_cases h2 : Q = 1
    · have hb2 : (Q == 1) = true := by simpa using h2
      clear h2
      rw [hb2]
      go_enter Try.func130, Try.ntmps130
      go_wp2
      go_ret
      exact ⟨rfl, by (repeat' (first | (with_reducible exact Below.refl _ _) | (with_reducible assumption) | (with_reducible refine Below.drewN ?_ _) | (with_reducible refine Below.alloc ?_ ?_ _) | (with_reducible refine Below.drew ?_) | (with_reducible refine Below.setCell ?_ ?_ _) | (with_reducible refine Below.step (by assumption) ?_ ?_) | (with_reducible exact And.left (by assumption)) | go_size))⟩
    · have hb2 : (Q == 1) = false := by simpa using h2
      clear h2
      rw [hb2]
      go_enter Try.func130, Try.ntmps130
      go_wp2
      go_ret
      exact ⟨rfl, by (repeat' (first | (with_reducible exact Below.refl _ _) | (with_reducible assumption) | (with_reducible refine Below.drewN ?_ _) | (with_reducible refine Below.alloc ?_ ?_ _) | (with_reducible refine Below.drew ?_) | (with_reducible refine Below.setCell ?_ ?_ _) | (with_reducible refine Below.step (by assumption) ?_ ?_) | (with_reducible exact And.left (by assumption)) | go_size))⟩
  · have hb1 : (P == 1) = false := by simpa using h1
    clear h1
    rw [hb1, Bool.false_and]
    go_enter Try.func130, Try.ntmps130
    go_wp2
    go_ret
    exact ⟨rfl, by (repeat' (first | (with_reducible exact Below.refl _ _) | (with_reducible assumption) | (with_reducible refine Below.drewN ?_ _) | (with_reducible refine Below.alloc ?_ ?_ _) | (with_reducible refine Below.drew ?_) | (with_reducible refine Below.setCell ?_ ?_ _) | (with_reducible refine Below.step (by assumption) ?_ ?_) | (with_reducible exact And.left (by assumption)) | go_size))⟩
set_option maxHeartbeats 2000000 in
set_option maxRecDepth 100000 in
theorem holds_pos (s e : List Int) (u : List (Int × Int)) (a a1 a2 : Option Addr) (n c c1 m c2 k : Nat) (g : Bool) (w : World) (hs : IntsR w a n s) (he : IntsR w a1 n e) (hu : PairsR w a2 m u) (hm : m = n + 1) (hk : k < n) (hn : n ≤ 6)
    (bs : ∀ x ∈ s, 1 ≤ x ∧ x ≤ 100) (be : ∀ x ∈ e, 0 ≤ x ∧ x ≤ 100) (bu : ∀ i, i < m → -1000000000 ≤ (gp u i).1 ∧ (gp u i).1 ≤ 1000000000 ∧ 1 ≤ (gp u i).2 ∧ (gp u i).2 ≤ 1000000000) :
    Calls Try.prog 130 #[.agg #[.slice a n c, .slice a1 n c1, .bool g], .slice a2 m c2, .int .i64 ((k : Int) + 1)] w fun e' w' => e' = .returned (.bool (hold s e u g n (k + 1))) ∧ Below w.heap.size w w' := by
  subst hm
  obtain ⟨b, o, rfl, hb, hc⟩ := hu.addr (by omega)
  obtain ⟨b1, o1, rfl, hb1, hc1⟩ := hs.addr (by omega)
  obtain ⟨P, hP⟩ : ∃ P, P = (gp u (k + 1)).1 := ⟨_, rfl⟩
  obtain ⟨Q, hQ⟩ : ∃ P, P = (gp u (k + 1)).2 := ⟨_, rfl⟩
  have cP : w.cell? ⟨b, o + (k + 1) * 2, none⟩ = some (.int .i64 P) := by rw [hP]; exact (hc (k + 1) (by omega)).1
  have cQ : w.cell? ⟨b, o + (k + 1) * 2 + 1, none⟩ = some (.int .i64 Q) := by rw [hQ]; exact (hc (k + 1) (by omega)).2
  have HCL := Lib.hid (fun w' => clast_any (some ⟨b1, o1, none⟩) a1 n c n c1 g w' (by omega))
  have HOW := Lib.hid (fun (w' : World) (hb' : Below w.heap.size w w') => own_any s e (some ⟨b1, o1, none⟩) a1 n c n c1 k g w' (hs.below hb') (he.below hb') rfl (by omega) hk (fun x hx => by have := bs x hx; omega) (fun x hx => by have := be x hx; omega))
  have hob := own_bd s e k (fun x hx => by have := bs x hx; omega) be
  have hsl := hs.len
  obtain ⟨L, hL⟩ : ∃ L, L = lastOf n g := ⟨_, rfl⟩
  rw [← hL] at HCL
  have HL := Lib.hid hL
  have j0 : (0 : Int) ≤ (k : Int) := by omega
  have j1 : ((k : Int) + 1 == 0) = false := by simp; omega
  have j2 : (k : Int) + 1 < (n : Int) + 1 := by omega
  have j3 : (k : Int) < (n : Int) := by omega
  have j4 : (k : Int) < (n : Int) + 1 := by omega
  by_cases hlast : L < (k : Int) + 1
  · have hh : hold s e u g n (k + 1) = (P == 0 && Q == 1) := by unfold hold; rw [if_neg (by omega), if_pos (by rw [← HL.out]; simpa using hlast), hP, hQ]
    rw [hh]
    have hlb : decide ((k : Int) + 1 > L) = true := by simpa using hlast
    clear hh hP hQ hc hc1 hs he hu bs be bu hL HL hlast hob hsl HOW
    have hz : ∀ x y : Bool, (P == 0) = x → (Q == 1) = y → Calls Try.prog 130 #[.agg #[.slice (some ⟨b1, o1, none⟩) n c, .slice a1 n c1, .bool g], .slice (some ⟨b, o, none⟩) (n + 1) c2, .int .i64 ((k : Int) + 1)] w fun e' w' => e' = .returned (.bool (x && y)) ∧ Below w.heap.size w w' := by
      intro x y hx hy
      go_enter Try.func130, Try.ntmps130
      go_wp2_with fail
      refine (HCL.out _).mono ?_
      rintro e5 w5 ⟨rfl, hb5⟩
      have hz5 := hb5.size
      simp only [World.size_alloc] at hz5
      have hb5' : Below w.heap.size w w5 := by (repeat' (first | (with_reducible exact Below.refl _ _) | (with_reducible assumption) | (with_reducible refine Below.drewN ?_ _) | (with_reducible refine Below.alloc ?_ ?_ _) | (with_reducible refine Below.drew ?_) | (with_reducible refine Below.setCell ?_ ?_ _) | (with_reducible refine Below.step (by assumption) ?_ ?_) | (with_reducible exact And.left (by assumption)) | go_size))
      have cP' : w5.cell? ⟨b, o + (k + 1) * 2, none⟩ = some (.int .i64 P) := by rw [cellB hb5' _ _ hb]; exact cP
      have cQ' : w5.cell? ⟨b, o + (k + 1) * 2 + 1, none⟩ = some (.int .i64 Q) := by rw [cellB hb5' _ _ hb]; exact cQ
      have HB5 := Lib.hid hb5'
      clear hb5 hb5' cP cQ
      cases x <;> cases y
      all_goals
        go_wp2
        go_ret
        exact ⟨rfl, HB5.out⟩
    exact hz _ _ rfl rfl
  · have hh : hold s e u g n (k + 1) = zUpto (tms s e u n (k + 1)) 4 := by unfold hold; rw [if_neg (by omega), if_neg (by rw [← HL.out]; simpa using hlast)]
    rw [hh]
    have hlb : decide ((k : Int) + 1 > L) = false := by simpa using hlast
    obtain ⟨P0, hP0⟩ : ∃ P, P = (gp u k).1 := ⟨_, rfl⟩
    obtain ⟨Q0, hQ0⟩ : ∃ P, P = (gp u k).2 := ⟨_, rfl⟩
    obtain ⟨S0, hS0⟩ : ∃ P, P = g0' s k := ⟨_, rfl⟩
    obtain ⟨O, hO⟩ : ∃ P, P = ownOf s e k := ⟨_, rfl⟩
    have cP0 : w.cell? ⟨b, o + k * 2, none⟩ = some (.int .i64 P0) := by rw [hP0]; exact (hc k (by omega)).1
    have cQ0 : w.cell? ⟨b, o + k * 2 + 1, none⟩ = some (.int .i64 Q0) := by rw [hQ0]; exact (hc k (by omega)).2
    have cS0 : w.cell? ⟨b1, o1 + k, none⟩ = some (.int .i64 S0) := by rw [hS0]; exact hc1 k hk
    have bS0 := bs _ (getD_mem (show k < s.length by omega))
    change 1 ≤ g0' s k ∧ g0' s k ≤ 100 at bS0
    rw [← hS0] at bS0
    have bP := bu (k + 1) (by omega)
    rw [← hP, ← hQ] at bP
    have bP0 := bu k (by omega)
    rw [← hP0, ← hQ0] at bP0
    rw [← hO] at HOW hob
    have HC := Lib.hid hc
    have HC1 := Lib.hid hc1
    have HBU := Lib.hid bu
    have HBS := Lib.hid bs
    have HT := Lib.hid (show tms s e u n (k + 1) = [(O, P, Q), (-S0, P0, Q0)] ++ (if k + 1 < n then [(-(g0' s (k + 1)), gp u (k + 1 + 1))] else []) by
      unfold tms; rw [Nat.add_sub_cancel, ← hO, ← hS0, hP, hQ, hP0, hQ0])
    clear hh hP hQ hP0 hQ0 hS0 hO hc hc1 hs he hu bs be bu hL HL hlast
    go_enter Try.func130, Try.ntmps130
    go_wp2_with fail
    refine (HCL.out _).mono ?_
    rintro e5 w5 ⟨rfl, hb5⟩
    have hz5 := hb5.size
    simp only [World.size_alloc] at hz5
    have hb5' : Below w.heap.size w w5 := by (repeat' (first | (with_reducible exact Below.refl _ _) | (with_reducible assumption) | (with_reducible refine Below.drewN ?_ _) | (with_reducible refine Below.alloc ?_ ?_ _) | (with_reducible refine Below.drew ?_) | (with_reducible refine Below.setCell ?_ ?_ _) | (with_reducible refine Below.step (by assumption) ?_ ?_) | (with_reducible exact And.left (by assumption)) | go_size))
    have q0 : w5.cell? ⟨w.heap.size, 0, none⟩ = some (.slice (some ⟨b1, o1, none⟩) n c) := by { rw [cellB hb5 _ _ (by first | (simp; done) | (simp; omega) | omega)]; all_goals (first | assumption | go_simp) }; have q1 : w5.cell? ⟨w.heap.size, 1, none⟩ = some (.slice a1 n c1) := by { rw [cellB hb5 _ _ (by first | (simp; done) | (simp; omega) | omega)]; all_goals (first | assumption | go_simp) }; have q2 : w5.cell? ⟨w.heap.size, 2, none⟩ = some (.bool g) := by { rw [cellB hb5 _ _ (by first | (simp; done) | (simp; omega) | omega)]; all_goals (first | assumption | go_simp) }; have l0 : w.heap.size < w5.heap.size := by { omega }
    have cP' : w5.cell? ⟨b, o + (k + 1) * 2, none⟩ = some (.int .i64 P) := by { rw [cellB hb5' _ _ (by first | (simp; done) | (simp; omega) | omega)]; all_goals (first | assumption | go_simp) }; have cQ' : w5.cell? ⟨b, o + (k + 1) * 2 + 1, none⟩ = some (.int .i64 Q) := by { rw [cellB hb5' _ _ (by first | (simp; done) | (simp; omega) | omega)]; all_goals (first | assumption | go_simp) }; have cP0' : w5.cell? ⟨b, o + k * 2, none⟩ = some (.int .i64 P0) := by { rw [cellB hb5' _ _ (by first | (simp; done) | (simp; omega) | omega)]; all_goals (first | assumption | go_simp) }; have cQ0' : w5.cell? ⟨b, o + k * 2 + 1, none⟩ = some (.int .i64 Q0) := by { rw [cellB hb5' _ _ (by first | (simp; done) | (simp; omega) | omega)]; all_goals (first | assumption | go_simp) }; have cS0' : w5.cell? ⟨b1, o1 + k, none⟩ = some (.int .i64 S0) := by { rw [cellB hb5' _ _ (by first | (simp; done) | (simp; omega) | omega)]; all_goals (first | assumption | go_simp) }
    have HB5 := Lib.hid hb5'
    clear hb5 hb5' cP cQ cP0 cQ0 cS0
    go_wp2_with fail
    refine later_of_eq 21 (by kernel_rfl) (by kernel_rfl) ?_; simp only [List.take_succ_cons, List.take_zero, List.drop_succ_cons, List.drop_zero]; repeat go_big_quiet_step (exact calls_later (HOW.out _ (HB5.out.trans (Below.mono (Later.below _) (HB5.out.size)))))
    refine wpQuiet_nil ?_; intro w6 hb6
    have hz6 := hb6.size
    have q0' : w6.cell? ⟨w.heap.size, 0, none⟩ = some (.slice (some ⟨b1, o1, none⟩) n c) := by { rw [cellB hb6 _ _ (by first | (simp; done) | (simp; omega) | omega)]; all_goals (first | assumption | go_simp) }; have q1' : w6.cell? ⟨w.heap.size, 1, none⟩ = some (.slice a1 n c1) := by { rw [cellB hb6 _ _ (by first | (simp; done) | (simp; omega) | omega)]; all_goals (first | assumption | go_simp) }; have q2' : w6.cell? ⟨w.heap.size, 2, none⟩ = some (.bool g) := by { rw [cellB hb6 _ _ (by first | (simp; done) | (simp; omega) | omega)]; all_goals (first | assumption | go_simp) }; have l0' : w.heap.size < w6.heap.size := by { omega }
    have HB6 := Lib.hid (HB5.out.trans (hb6.mono HB5.out.size))
    clear hb6 q0 q1 q2 l0 cP' cQ' cP0' cQ0' cS0' HB5
    have hlit : (w6.alloc (Obj.cells #[.int .i64 O, .int .i64 P, .int .i64 Q, .int .i64 (-S0), .int .i64 P0, .int .i64 Q0] 200)).ownsRow w6.heap.size 200 3 (.slice (some ⟨w6.heap.size, 0, none⟩) 2 2) 2 (tcells [(O, P, Q), (-S0, P0, Q0)]) :=
      owns_lit (cs := #[.int .i64 O, .int .i64 P, .int .i64 Q, .int .i64 (-S0), .int .i64 P0, .int .i64 Q0]) rfl (Nat.le_refl _) (by omega) rfl
    have hb7 : Below w6.heap.size w6 (w6.alloc (Obj.cells #[.int .i64 O, .int .i64 P, .int .i64 Q, .int .i64 (-S0), .int .i64 P0, .int .i64 Q0] 200)) := by (repeat' (first | (with_reducible exact Below.refl _ _) | (with_reducible assumption) | (with_reducible refine Below.drewN ?_ _) | (with_reducible refine Below.alloc ?_ ?_ _) | (with_reducible refine Below.drew ?_) | (with_reducible refine Below.setCell ?_ ?_ _) | (with_reducible refine Below.step (by assumption) ?_ ?_) | (with_reducible exact And.left (by assumption)) | go_size))
    have HLIT := Lib.hid (And.intro hlit hb7)
    clear hlit hb7
    by_cases hk1 : k + 1 < n
    · have i5 : (k : Int) + 1 < (n : Int) := by omega
      have HT2 := HT.out
      rw [if_pos hk1] at HT2
      obtain ⟨P2, hP2⟩ : ∃ P, P = (gp u (k + 1 + 1)).1 := ⟨_, rfl⟩
      obtain ⟨Q2, hQ2⟩ : ∃ P, P = (gp u (k + 1 + 1)).2 := ⟨_, rfl⟩
      obtain ⟨S1, hS1⟩ : ∃ P, P = g0' s (k + 1) := ⟨_, rfl⟩
      have bS1 := HBS.out _ (getD_mem (show k + 1 < s.length by omega))
      change 1 ≤ g0' s (k + 1) ∧ g0' s (k + 1) ≤ 100 at bS1
      rw [← hS1] at bS1
      have bP2 := HBU.out (k + 1 + 1) (by omega)
      rw [← hP2, ← hQ2] at bP2
      have HT2 := Lib.hid (show tms s e u n (k + 1) = [(O, P, Q), (-S0, P0, Q0), (-S1, P2, Q2)] by rw [HT2, hS1, hP2, hQ2]; rfl)
      have hbd : ∀ i, i < 3 → -1000000000000 ≤ (gt [(O, P, Q), (-S0, P0, Q0), (-S1, P2, Q2)] i).1 ∧ (gt [(O, P, Q), (-S0, P0, Q0), (-S1, P2, Q2)] i).1 ≤ 1000000000000 ∧ -1000000000000 ≤ (gt [(O, P, Q), (-S0, P0, Q0), (-S1, P2, Q2)] i).2.1 ∧ (gt [(O, P, Q), (-S0, P0, Q0), (-S1, P2, Q2)] i).2.1 ≤ 1000000000000 ∧ 0 ≤ (gt [(O, P, Q), (-S0, P0, Q0), (-S1, P2, Q2)] i).2.2 ∧ (gt [(O, P, Q), (-S0, P0, Q0), (-S1, P2, Q2)] i).2.2 < 4294967296 := by
        intro i hi
        rcases i with _ | _ | _ | i
        · show _ ≤ O ∧ O ≤ _ ∧ _ ≤ P ∧ P ≤ _ ∧ _ ≤ Q ∧ Q < _
          omega
        · show _ ≤ -S0 ∧ -S0 ≤ _ ∧ _ ≤ P0 ∧ P0 ≤ _ ∧ _ ≤ Q0 ∧ Q0 < _
          omega
        · show _ ≤ -S1 ∧ -S1 ≤ _ ∧ _ ≤ P2 ∧ P2 ≤ _ ∧ _ ≤ Q2 ∧ Q2 < _
          omega
        · omega
      have HBD := Lib.hid hbd
      clear hbd
      go_wp2_with fail
      generalize hW : w6.alloc _ = w7 at *
      have hb7 := HLIT.out.2
      have hz7 := hb7.size
      have hb7' := HB6.out.trans (hb7.mono HB6.out.size)
      have q0 : w7.cell? ⟨w.heap.size, 0, none⟩ = some (.slice (some ⟨b1, o1, none⟩) n c) := by { rw [cellB hb7 _ _ (by first | (simp; done) | (simp; omega) | omega)]; all_goals (first | assumption | go_simp) }; have q1 : w7.cell? ⟨w.heap.size, 1, none⟩ = some (.slice a1 n c1) := by { rw [cellB hb7 _ _ (by first | (simp; done) | (simp; omega) | omega)]; all_goals (first | assumption | go_simp) }; have q2 : w7.cell? ⟨w.heap.size, 2, none⟩ = some (.bool g) := by { rw [cellB hb7 _ _ (by first | (simp; done) | (simp; omega) | omega)]; all_goals (first | assumption | go_simp) }; have l0 : w.heap.size < w7.heap.size := by { omega }
      have cP2 : w7.cell? ⟨b, o + (k + 1 + 1) * 2, none⟩ = some (.int .i64 P2) := by rw [cellB hb7' _ _ hb, hP2]; exact (HC.out (k + 1 + 1) (by omega)).1
      have cQ2 : w7.cell? ⟨b, o + (k + 1 + 1) * 2 + 1, none⟩ = some (.int .i64 Q2) := by rw [cellB hb7' _ _ hb, hQ2]; exact (HC.out (k + 1 + 1) (by omega)).2
      have cS1 : w7.cell? ⟨b1, o1 + (k + 1), none⟩ = some (.int .i64 S1) := by rw [cellB hb7' _ _ hb1, hS1]; exact HC1.out (k + 1) hk1
      have HB7 := Lib.hid hb7'
      have hlo : w6.heap.size ≤ w7.heap.size := by omega
      have j6 : (0 : Int) ≤ (k : Int) + 1 := by omega
      have j7 : (k : Int) + 1 + 1 < (n : Int) + 1 := by omega
      clear hW hb7 hb7' q0' q1' q2' l0' hP2 hQ2 hS1
      have hzw := HB6.out.size
      have jj0 : w.heap.size < w6.heap.size := by omega
      have jj1 : b < w6.heap.size := by omega
      have jj2 : b1 < w6.heap.size := by omega
      refine wp_region_laterB (B := w6.heap.size) [0, 1, 2, 3, 4, 5, 6, 7, 8, 9, 10, 11, 12] [13, 14, 15] (by kernel_rfl) (by kernel_rfl) ?_; simp only [List.filterMap_cons, List.filterMap_nil, List.getElem?_cons_zero, List.getElem?_cons_succ]; repeat (show wpQuiet _ _ _ _ (_ :: _) _; go_big_quiet_step (fail))
      refine wpQuiet_nil ?_
      refine wpTail_cons ?_
      go_wp2_with fail
      have HNb := Lib.hid (show Below w6.heap.size w7 (w7.alloc (Obj.cells #[.int .i64 (-S1), .int .i64 P2, .int .i64 Q2] 200)).drew by (repeat' (first | (with_reducible exact Below.refl _ _) | (with_reducible assumption) | (with_reducible refine Below.drewN ?_ _) | (with_reducible refine Below.alloc ?_ ?_ _) | (with_reducible refine Below.drew ?_) | (with_reducible refine Below.setCell ?_ ?_ _) | (with_reducible refine Below.step (by assumption) ?_ ?_) | (with_reducible exact And.left (by assumption)) | go_size)))
      refine tailL_mk HNb.out ?_
      refine wpTail_cons ?_
      go_wp2_with (at_builtin; refine wpList_append_sl _ rfl _ _ 201 rfl w6.heap.size 200 _ 3 24 Try.underlying201 infoTerm rfl (by omega) (.slice (some ⟨w6.heap.size, 0, none⟩) 2 2) 2 _ rfl ((HLIT.out.1.alloc _).drew) _ 1 1 [.int .i64 (-S1), .int .i64 P2, .int .i64 Q2] rfl (SlR.lit _ _ _ _ _ 1 3 (by rfl) (by simp) rfl (by omega)) (by simp [Value.oneCell']) (by omega) (by omega) (by simp; omega) ?_)
      intro v2 wz hownz _ hbz
      obtain ⟨av2, cv2, rfl, _, _⟩ := owns_slice hownz
      have hbz' : Below w6.heap.size w7 wz := HNb.out.trans hbz
      have HBY := Lib.hid hbz'
      have HBZ := Lib.hid (HB7.out.trans (hbz'.mono (by have := HB6.out.size; omega)))
      have HO := Lib.hid (show TermsR wz av2 3 [(O, P, Q), (-S0, P0, Q0), (-S1, P2, Q2)] from SlR.of_owns hownz)
      clear hownz hbz hbz' q0 q1 q2 l0 cP2 cQ2 cS1
      go_wp2_with fail
      refine tailL_mk HBY.out ?_
      refine wpTail_cons ?_
      go_wp2_with fail
      refine tailL_mk HBY.out ?_
      refine wpTail_nil ?_
      go_wp2_with fail
      refine (isZero_any _ _ 3 cv2 wz HO.out (by omega) HBD.out).mono ?_
      rintro e8 w8 ⟨rfl, hb8⟩
      have HB8 := Lib.hid (HBZ.out.trans (hb8.mono HBZ.out.size))
      clear hb8
      go_wp2
      go_ret
      exact ⟨ret_bool (by rw [HT2.out]), HB8.out⟩
    · have i5 : ¬ ((k : Int) + 1 < (n : Int)) := by omega
      have HT2 := HT.out
      rw [if_neg hk1, List.append_nil] at HT2
      have HT2 := Lib.hid HT2
      have hbd : ∀ i, i < 2 → -1000000000000 ≤ (gt [(O, P, Q), (-S0, P0, Q0)] i).1 ∧ (gt [(O, P, Q), (-S0, P0, Q0)] i).1 ≤ 1000000000000 ∧ -1000000000000 ≤ (gt [(O, P, Q), (-S0, P0, Q0)] i).2.1 ∧ (gt [(O, P, Q), (-S0, P0, Q0)] i).2.1 ≤ 1000000000000 ∧ 0 ≤ (gt [(O, P, Q), (-S0, P0, Q0)] i).2.2 ∧ (gt [(O, P, Q), (-S0, P0, Q0)] i).2.2 < 4294967296 := by
        intro i hi
        rcases i with _ | _ | i
        · show _ ≤ O ∧ O ≤ _ ∧ _ ≤ P ∧ P ≤ _ ∧ _ ≤ Q ∧ Q < _
          omega
        · show _ ≤ -S0 ∧ -S0 ≤ _ ∧ _ ≤ P0 ∧ P0 ≤ _ ∧ _ ≤ Q0 ∧ Q0 < _
          omega
        · omega
      have HBD := Lib.hid hbd
      clear hbd
      go_wp2_with fail
      generalize w6.alloc _ = w7 at *
      have hb7 := HLIT.out.2
      have hz7 := hb7.size
      have HB7 := Lib.hid (HB6.out.trans (hb7.mono HB6.out.size))
      clear hb7
      go_wp2_with fail
      refine (isZero_any _ _ 2 2 w7 (SlR.of_owns HLIT.out.1) (by omega) HBD.out).mono ?_
      rintro e8 w8 ⟨rfl, hb8⟩
      have HB8 := Lib.hid (HB7.out.trans (hb8.mono HB7.out.size))
      clear hb8
      go_wp2
      go_ret
      exact ⟨ret_bool (by rw [HT2.out]), HB8.out⟩
end Go.Proofs.Ytiellefbndlkkaa
