import Derived.Test.YtidboecjllaofaaGreatMRat2
import Derived.Test.YtidboecjllaofaaGreatMRoundTr
import Derived.Test.YtidboecjllaofaaGreatMSched
import Derived.Test.YtidboecjllaofaaGreatMTCur
import Derived.Test.YtidboecjllaofaaGreatTCurr
/- Quotients in memory: RatioFrac. -/
namespace Go.Proofs.YtidboecjllaofaaGreat
open Go.RowKit
set_option linter.unusedVariables false
def smallQ (q : Rat) : Bool := wi q.num (-1000000000) 1000000000 && wi (q.den : Int) 1 1000000000
set_option maxHeartbeats 1000000 in
set_option maxRecDepth 100000 in
theorem ratioFrac_any (p : Nat → Prop) (v : Value) (q : Rat) (w : World) (h : RatioR p w v q) :
    Calls Tryz.prog 118 #[v] w fun e' w' => e' = .returned (if smallQ q = true then .tuple #[.agg #[.int .i64 q.num, .int .i64 q.den], .bool true] else .tuple #[.agg #[.int .i64 0, .int .i64 0], .bool false]) ∧ Below w.heap.size w w' := by
 have HR := Lib.hid h
 obtain ⟨s, a, n, c, t, a2, n2, c2, rfl, _, _⟩ := h
 have HI1 := Lib.hid (fun (w' : World) (hb : Below w.heap.size w w') => wideInt_any p _ q.num w' (HR.out.below hb).parts.1)
 have HI2 := Lib.hid (fun (w' : World) (hb : Below w.heap.size w w') => wideInt_any p _ (q.den : Int) w' (HR.out.below hb).parts.2)
 clear HR
 obtain ⟨x, hx⟩ : ∃ x, x = q.num := ⟨_, rfl⟩
 obtain ⟨y, hy⟩ : ∃ y : Int, y = (q.den : Int) := ⟨_, rfl⟩
 obtain ⟨b1, hb1⟩ : ∃ b, b = decide ((x.natAbs : Int) < 1000000000000000000) := ⟨_, rfl⟩
 obtain ⟨b2, hb2⟩ : ∃ b, b = decide ((y.natAbs : Int) < 1000000000000000000) := ⟨_, rfl⟩
 obtain ⟨b3, hb3⟩ : ∃ b, b = (wi x (-1000000000) 1000000000 && wi y 1 1000000000) := ⟨_, rfl⟩
 have hS : smallQ q = b3 := by rw [hb3]; unfold smallQ; rw [hx, hy]
 rw [← hx] at HI1
 rw [← hy] at HI2
 rw [hS, ← hx, ← hy]
 have hbd1 : b1 = true → -999999999999999999 ≤ x ∧ x ≤ 999999999999999999 := fun h => by rw [h] at hb1; have := of_decide_eq_true hb1.symm; omega
 have hi1 : ∀ w', (if (x.natAbs : Int) < 1000000000000000000 then Value.tuple #[.int .i64 x, .bool true] else .tuple #[.int .i64 0, .bool false]) = (if b1 = true then Value.tuple #[.int .i64 x, .bool true] else .tuple #[.int .i64 0, .bool false]) ∧ (w' : World) = w' := fun w' => ⟨by rw [hb1]; simp, rfl⟩
 have hi2 : (if (y.natAbs : Int) < 1000000000000000000 then Value.tuple #[.int .i64 y, .bool true] else .tuple #[.int .i64 0, .bool false]) = (if b2 = true then Value.tuple #[.int .i64 y, .bool true] else .tuple #[.int .i64 0, .bool false]) := by rw [hb2]; simp
 rw [(hi1 w).1] at HI1
 rw [hi2] at HI2
 have HSM := Lib.hid (fun w' => bisSmall_any x y w')
 rw [← hb3] at HSM
 have hq1 : b1 = false → b3 = false := fun h => by
  rw [h] at hb1
  have h1 := of_decide_eq_false hb1.symm
  rw [hb3]
  have : wi x (-1000000000) 1000000000 = false := wi_false.2 (by omega)
  rw [this]; rfl
 have hq2 : b2 = false → b3 = false := fun h => by
  rw [h] at hb2
  have h1 := of_decide_eq_false hb2.symm
  rw [hb3]
  have : wi y 1 1000000000 = false := wi_false.2 (by omega)
  rw [this, Bool.and_false]
 clear hi1 hi2 hbd1 hb1 hb2 hb3 hS hx hy
 go_enter Tryz.func118, Tryz.ntmps118
 go_wp2_with fail
 refine (HI1.out _ (by (repeat' first | (with_reducible first | exact bw1 | assumption | refine bw2 ?_ _ | refine bw3 ?_ ?_ _ | refine bw4 ?_ | refine bw5 ?_ ?_ _ | refine bw6 (by assumption) ?_ ?_ | exact And.left (by assumption)) | go_size))).mono ?_
 rintro e5 w5 ⟨rfl, hb5⟩
 have hz5 := hb5.size
 simp only [World.size_alloc] at hz5
 have q0 : w5.cell? ⟨w.heap.size, 0, none⟩ = some (.int .i64 s) := by { rw [cellB hb5 _ _ (by first | (simp; done) | (simp; omega) | omega)]; all_goals (first | assumption | go_simp) }; have q1 : w5.cell? ⟨w.heap.size, 1, none⟩ = some (.slice a n c) := by { rw [cellB hb5 _ _ (by first | (simp; done) | (simp; omega) | omega)]; all_goals (first | assumption | go_simp) }; have q2 : w5.cell? ⟨w.heap.size, 2, none⟩ = some (.int .i64 t) := by { rw [cellB hb5 _ _ (by first | (simp; done) | (simp; omega) | omega)]; all_goals (first | assumption | go_simp) }; have q3 : w5.cell? ⟨w.heap.size, 3, none⟩ = some (.slice a2 n2 c2) := by { rw [cellB hb5 _ _ (by first | (simp; done) | (simp; omega) | omega)]; all_goals (first | assumption | go_simp) }; have z0 : w5.cell? ⟨w.heap.size + 1, 0, none⟩ = some (.int .i64 0) := by { rw [cellB hb5 _ _ (by first | (simp; done) | (simp; omega) | omega)]; all_goals (first | assumption | go_simp) }; have z1 : w5.cell? ⟨w.heap.size + 1, 1, none⟩ = some (.int .i64 0) := by { rw [cellB hb5 _ _ (by first | (simp; done) | (simp; omega) | omega)]; all_goals (first | assumption | go_simp) }; have f0 : w5.frozen? ⟨w.heap.size + 1, 0, none⟩ = false := by { rw [frozenB hb5 _ _ (by first | (simp; done) | (simp; omega) | omega)]; all_goals (first | assumption | go_simp) }; have f1 : w5.frozen? ⟨w.heap.size + 1, 1, none⟩ = false := by { rw [frozenB hb5 _ _ (by first | (simp; done) | (simp; omega) | omega)]; all_goals (first | assumption | go_simp) }
 have HBv := Lib.hid (show Below w.heap.size w w5 by (repeat' first | (with_reducible first | exact bw1 | assumption | refine bw2 ?_ _ | refine bw3 ?_ ?_ _ | refine bw4 ?_ | refine bw5 ?_ ?_ _ | refine bw6 (by assumption) ?_ ?_ | exact And.left (by assumption)) | go_size))
 clear hb5
 cases b1
 all_goals
  go_wp2_with fail
  refine (HI2.out _ HBv.out).mono ?_
  rintro e6 w6 ⟨rfl, hb6⟩
  have hz6 := hb6.size
  have z0' : w6.cell? ⟨w.heap.size + 1, 0, none⟩ = some (.int .i64 0) := by { rw [cellB hb6 _ _ (by first | (simp; done) | (simp; omega) | omega)]; all_goals (first | assumption | go_simp) }; have z1' : w6.cell? ⟨w.heap.size + 1, 1, none⟩ = some (.int .i64 0) := by { rw [cellB hb6 _ _ (by first | (simp; done) | (simp; omega) | omega)]; all_goals (first | assumption | go_simp) }; have f0' : w6.frozen? ⟨w.heap.size + 1, 0, none⟩ = false := by { rw [frozenB hb6 _ _ (by first | (simp; done) | (simp; omega) | omega)]; all_goals (first | assumption | go_simp) }; have f1' : w6.frozen? ⟨w.heap.size + 1, 1, none⟩ = false := by { rw [frozenB hb6 _ _ (by first | (simp; done) | (simp; omega) | omega)]; all_goals (first | assumption | go_simp) }; have l' : w.heap.size + 1 < w6.heap.size := by { omega }
  have HBv := Lib.hid (HBv.out.trans (hb6.mono (by omega)))
  clear hb6 q0 q1 q2 q3 z0 z1 f0 f1
 ·obtain rfl : b3 = false := hq1 (by first | rfl | trivial)
  clear hq1 hq2
  cases b2
  ·skip
   go_wp2
   refine bodyPost_ret (v := .tuple #[.agg #[.int .i64 0, .int .i64 0], .bool false]) (by simp [results, Tryz.results118, go_sem, *]) rfl ⟨by first | rfl | simp, ?_⟩
   have := HBv.out
   (repeat' first | (with_reducible first | exact bw1 | assumption | refine bw2 ?_ _ | refine bw3 ?_ ?_ _ | refine bw4 ?_ | refine bw5 ?_ ?_ _ | refine bw6 (by assumption) ?_ ?_ | exact And.left (by assumption)) | go_size)
  ·skip
   go_wp2
   refine bodyPost_ret (v := .tuple #[.agg #[.int .i64 0, .int .i64 0], .bool false]) (by simp [results, Tryz.results118, go_sem, *]) rfl ⟨by first | rfl | simp, ?_⟩
   have := HBv.out
   (repeat' first | (with_reducible first | exact bw1 | assumption | refine bw2 ?_ _ | refine bw3 ?_ ?_ _ | refine bw4 ?_ | refine bw5 ?_ ?_ _ | refine bw6 (by assumption) ?_ ?_ | exact And.left (by assumption)) | go_size)
 ·cases b2
  ·obtain rfl : b3 = false := hq2 (by first | rfl | trivial)
   clear hq1 hq2
   go_wp2
   refine bodyPost_ret (v := .tuple #[.agg #[.int .i64 0, .int .i64 0], .bool false]) (by simp [results, Tryz.results118, go_sem, *]) rfl ⟨by first | rfl | simp, ?_⟩
   have := HBv.out
   (repeat' first | (with_reducible first | exact bw1 | assumption | refine bw2 ?_ _ | refine bw3 ?_ ?_ _ | refine bw4 ?_ | refine bw5 ?_ ?_ _ | refine bw6 (by assumption) ?_ ?_ | exact And.left (by assumption)) | go_size)
  ·clear hq1 hq2
   go_wp2_with fail
   refine (HSM.out _).mono ?_
   rintro e7 w7 ⟨rfl, hb7⟩
   have hz7 := hb7.size
   simp only [World.size_alloc] at hz7
   have z0 : w7.cell? ⟨w.heap.size + 1, 0, none⟩ = some (.int .i64 0) := by { rw [cellB hb7 _ _ (by first | (simp; done) | (simp; omega) | omega)]; all_goals (first | assumption | go_simp) }; have z1 : w7.cell? ⟨w.heap.size + 1, 1, none⟩ = some (.int .i64 0) := by { rw [cellB hb7 _ _ (by first | (simp; done) | (simp; omega) | omega)]; all_goals (first | assumption | go_simp) }; have f0 : w7.frozen? ⟨w.heap.size + 1, 0, none⟩ = false := by { rw [frozenB hb7 _ _ (by first | (simp; done) | (simp; omega) | omega)]; all_goals (first | assumption | go_simp) }; have f1 : w7.frozen? ⟨w.heap.size + 1, 1, none⟩ = false := by { rw [frozenB hb7 _ _ (by first | (simp; done) | (simp; omega) | omega)]; all_goals (first | assumption | go_simp) }; have l : w.heap.size + 1 < w7.heap.size := by { omega }; have x0 : w7.cell? ⟨w6.heap.size, 0, none⟩ = some (.int .i64 x) := by { rw [cellB hb7 _ _ (by first | (simp; done) | (simp; omega) | omega)]; all_goals (first | assumption | go_simp) }; have x1 : w7.cell? ⟨w6.heap.size, 1, none⟩ = some (.int .i64 y) := by { rw [cellB hb7 _ _ (by first | (simp; done) | (simp; omega) | omega)]; all_goals (first | assumption | go_simp) }
   have HBv := Lib.hid (Below.trans (show Below w.heap.size w (w6.alloc _) from HBv.out.alloc (by omega) _) (hb7.mono (by simp; omega)))
   clear hb7 z0' z1' f0' f1' l'
   cases b3
   ·go_wp2
    refine bodyPost_ret (v := .tuple #[.agg #[.int .i64 0, .int .i64 0], .bool false]) (by simp [results, Tryz.results118, go_sem, *]) rfl ⟨rfl, ?_⟩
    have := HBv.out
    (repeat' first | (with_reducible first | exact bw1 | assumption | refine bw2 ?_ _ | refine bw3 ?_ ?_ _ | refine bw4 ?_ | refine bw5 ?_ ?_ _ | refine bw6 (by assumption) ?_ ?_ | exact And.left (by assumption)) | go_size)
   ·go_wp2
    refine bodyPost_ret (v := .tuple #[.agg #[.int .i64 x, .int .i64 y], .bool true]) (by simp [results, Tryz.results118, go_sem, *]) rfl ⟨rfl, ?_⟩
    have := HBv.out
    (repeat' first | (with_reducible first | exact bw1 | assumption | refine bw2 ?_ _ | refine bw3 ?_ ?_ _ | refine bw4 ?_ | refine bw5 ?_ ?_ _ | refine bw6 (by assumption) ?_ ?_ | exact And.left (by assumption)) | go_size)
end Go.Proofs.YtidboecjllaofaaGreat

/- The size of a quotient of small parts. No program in sight. -/
namespace Go.Proofs.YtidboecjllaofaaGreat
theorem sz_parts {p q : Int} (h1 : -9000000000 ≤ p ∧ p ≤ 9000000000) (h2 : 1 ≤ q ∧ q ≤ 9000000000) : Sz 2 (Rat.divInt p q) := sz_frac (by simp only [pw]; omega) (by omega) (by simp only [pw]; omega)
end Go.Proofs.YtidboecjllaofaaGreat

/- Quotients in memory: contracts in one form, without the solver. -/
namespace Go.Proofs.YtidboecjllaofaaGreat
open Go.RowKit
set_option linter.unusedVariables false
def RB (w : World) (v : Value) (q : Rat) : Prop := RatioR (fun b => b < w.heap.size) w v q
theorem RB.of {p : Nat → Prop} {w : World} {v : Value} {q : Rat} (h : RatioR p w v q) : RB w v q := h.here.mono (fun b hb => hb.2)
def RBPost (w : World) (q : Rat) (e' : Ending) (w' : World) : Prop :=
 ∃ (s : Int) (a : Option Addr) (n c : Nat) (t : Int) (b : Option Addr) (m d : Nat), e' = .returned (.agg #[.int .i64 s, .slice a n c, .int .i64 t, .slice b m d]) ∧ Below w.heap.size w w' ∧ RB w' (.agg #[.int .i64 s, .slice a n c, .int .i64 t, .slice b m d]) q ∧ Hid (RatioR (fun b => w.heap.size ≤ b) w' (.agg #[.int .i64 s, .slice a n c, .int .i64 t, .slice b m d]) q)
theorem RBPost.mk {w w' : World} {q : Rat} {e' : Ending} {v : Value} (he : e' = .returned v) (hb : Below w.heap.size w w') (h : RatioR (fun b => w.heap.size ≤ b) w' v q) : RBPost w q e' w' := by
 have H := h
 obtain ⟨s, a, n, c, t, b, m, d, rfl, _, _⟩ := h
 exact ⟨s, a, n, c, t, b, m, d, he, hb, RB.of H, Lib.hid H⟩
theorem rb_int (x : Int) (w : World) (h0 : -9223372036854775807 ≤ x) (h1 : x ≤ 9223372036854775807) : Calls Tryz.prog 31 #[.int .i64 x] w (RBPost w (x : Rat)) :=
 (ratioInt_any x w h0 h1).mono (fun _ _ ⟨_, he, hb, h⟩ => RBPost.mk he hb h)
theorem rb_sub (va vb : Value) (a b : Rat) (K M : Nat) (w : World) (h : RB w va a) (h' : RB w vb b) (ha : Sz K a) (hb : Sz M b) (hK : K + M + 1 ≤ 800000) : Calls Tryz.prog 36 #[va, vb] w (RBPost w (a - b)) :=
 (ratioSub_any _ va vb a b K M w h h' (fun _ hb => hb) ha hb hK).mono (fun _ _ ⟨_, he, hb, h⟩ => RBPost.mk he hb (h.mono (fun b hb => by omega)))
theorem rb_add (va vb : Value) (a b : Rat) (K M : Nat) (w : World) (h : RB w va a) (h' : RB w vb b) (ha : Sz K a) (hb : Sz M b) (hK : K + M + 1 ≤ 800000) : Calls Tryz.prog 33 #[va, vb] w (RBPost w (a + b)) :=
 (ratioAdd_any _ va vb a b K M w h h' ha hb hK).mono (fun _ _ ⟨_, he, hb, h⟩ => RBPost.mk he hb (h.mono (fun b hb => by omega)))
theorem rb_div (va vb : Value) (a b : Rat) (K M : Nat) (w : World) (h : RB w va a) (h' : RB w vb b) (hb0 : b ≠ 0) (ha : Sz K a) (hb : Sz M b) (hK : K + M ≤ 800000) : Calls Tryz.prog 173 #[va, vb] w (RBPost w (a / b)) :=
 (ratioDiv_any _ va vb a b K M w h h' hb0 ha hb hK).mono (fun _ _ ⟨_, he, hb, h⟩ => RBPost.mk he hb (h.mono (fun b hb => by omega)))
theorem rb_sign (v : Value) (q : Rat) (w : World) (h : RB w v q) : Calls Tryz.prog 174 #[v] w fun e' w' => e' = .returned (.int .i64 q.num.sign) ∧ Below w.heap.size w w' := ratioSign_any _ v q w h
theorem rb_frac (v : Value) (q : Rat) (w : World) (h : RB w v q) :
    Calls Tryz.prog 118 #[v] w fun e' w' => e' = .returned (.tuple #[.agg #[.int .i64 (if smallQ q = true then q.num else 0), .int .i64 (if smallQ q = true then (q.den : Int) else 0)], .bool (smallQ q)]) ∧ Below w.heap.size w w' := by
 refine (ratioFrac_any _ v q w h).mono ?_
 rintro e' w' ⟨rfl, hb⟩
 refine ⟨?_, hb⟩
 cases smallQ q <;> rfl
end Go.Proofs.YtidboecjllaofaaGreat

/- Quotients in memory whose digits lie outside the caller's own cells. -/
namespace Go.Proofs.YtidboecjllaofaaGreat
open Go.RowKit
set_option linter.unusedVariables false
theorem rb_of (x y : Int) (w : World) (hy : y ≠ 0) (h0 : -9223372036854775807 ≤ x) (h1 : x ≤ 9223372036854775807) (h2 : -9223372036854775807 ≤ y) (h3 : y ≤ 9223372036854775807) : Calls Tryz.prog 103 #[.int .i64 x, .int .i64 y] w (RBPost w (Rat.divInt x y)) :=
 (ratioOf_any x y w hy h0 h1 h2 h3).mono (fun _ _ ⟨_, he, hb, h⟩ => RBPost.mk he hb h)
def RA (A : Nat → Prop) (w : World) (v : Value) (q : Rat) : Prop := RatioR (fun b => ¬ A b ∧ b < w.heap.size) w v q
theorem RA.below {A : Nat → Prop} {w w' : World} {v : Value} {q : Rat} (h : RA A w v q) (hb : Below w.heap.size w w') : RA A w' v q :=
 (RatioR.below h hb).mono (fun b hlt => ⟨hlt.1, Nat.lt_of_lt_of_le hlt.2 hb.size⟩)
theorem RA.rb {A : Nat → Prop} {w : World} {v : Value} {q : Rat} (h : RA A w v q) : RB w v q := RatioR.mono h (fun b hb => hb.2)
theorem RA.new {A : Nat → Prop} {w0 w : World} {v : Value} {q : Rat} (h : RatioR (fun b => w0.heap.size ≤ b) w v q) (hA : ∀ b, A b → b < w0.heap.size) : RA A w v q :=
 RatioR.mono (RatioR.here h) (fun b hb => ⟨fun h => by have := hA b h; have := hb.1; omega, hb.2⟩)
theorem RA.kept {A : Nat → Prop} {w w' : World} {v : Value} {q : Rat} (h : RA A w v q) (hs : w.heap.size ≤ w'.heap.size) (hb : ∀ b, ¬ A b → b < w.heap.size → w'.heap[b]? = w.heap[b]?) : RA A w' v q :=
 RatioR.mono (RatioR.kept (w := w) h hs (fun b hp => hb b hp.1 hp.2)) (fun b hb => ⟨hb.1, by omega⟩)
abbrev set4 (w : World) (X : Nat) (v0 v1 v2 v3 : Value) : World := (((w.setCell ⟨X, 0, none⟩ v0).setCell ⟨X, 1, none⟩ v1).setCell ⟨X, 2, none⟩ v2).setCell ⟨X, 3, none⟩ v3
theorem set4_size (w : World) (X : Nat) (v0 v1 v2 v3 : Value) : (set4 w X v0 v1 v2 v3).heap.size = w.heap.size := by simp [set4]
theorem set4_other (w : World) (X b : Nat) (v0 v1 v2 v3 : Value) (h : b ≠ X) : (set4 w X v0 v1 v2 v3).heap[b]? = w.heap[b]? := by
 unfold set4
 rw [Go.Deep.blk_setCell_other _ _ _ _ (by simpa using h), Go.Deep.blk_setCell_other _ _ _ _ (by simpa using h), Go.Deep.blk_setCell_other _ _ _ _ (by simpa using h), Go.Deep.blk_setCell_other _ _ _ _ (by simpa using h)]
theorem set4_same {w : World} {X t : Nat} {x0 x1 x2 x3 : Value} (h : w.heap[X]? = some (.cells #[x0, x1, x2, x3] t)) (v0 v1 v2 v3 : Value) : (set4 w X v0 v1 v2 v3).heap[X]? = some (.cells #[v0, v1, v2, v3] t) := by
 have h0 : (w.setCell ⟨X, 0, none⟩ v0).heap[X]? = some (.cells #[v0, x1, x2, x3] t) := by rw [blk_set h 0 v0]; rfl
 have h1 : ((w.setCell ⟨X, 0, none⟩ v0).setCell ⟨X, 1, none⟩ v1).heap[X]? = some (.cells #[v0, v1, x2, x3] t) := by rw [blk_set h0 1 v1]; rfl
 have h2 : (((w.setCell ⟨X, 0, none⟩ v0).setCell ⟨X, 1, none⟩ v1).setCell ⟨X, 2, none⟩ v2).heap[X]? = some (.cells #[v0, v1, v2, x3] t) := by rw [blk_set h1 2 v2]; rfl
 have h3 : ((((w.setCell ⟨X, 0, none⟩ v0).setCell ⟨X, 1, none⟩ v1).setCell ⟨X, 2, none⟩ v2).setCell ⟨X, 3, none⟩ v3).heap[X]? = some (.cells #[v0, v1, v2, v3] t) := by rw [blk_set h2 3 v3]; rfl
 exact h3
theorem set4_below {w0 w : World} {B X : Nat} (h : Below B w0 w) (hX : B ≤ X) (v0 v1 v2 v3 : Value) : Below B w0 (set4 w X v0 v1 v2 v3) := (((h.setCell hX _).setCell hX _).setCell hX _).setCell hX _
theorem RA.put {A : Nat → Prop} {w : World} {v : Value} {q : Rat} (h : RA A w v q) {X : Nat} (hX : A X) (v0 v1 v2 v3 : Value) : RA A (set4 w X v0 v1 v2 v3) v q :=
 RA.kept h (by rw [set4_size]; exact Nat.le_refl _) (fun b hb _ => set4_other w X b v0 v1 v2 v3 (fun e => hb (e ▸ hX)))
structure Qv where
 s : Int
 a : Option Addr
 n : Nat
 c : Nat
 t : Int
 b : Option Addr
 m : Nat
 d : Nat
def Qv.val (x : Qv) : Value := .agg #[.int .i64 x.s, .slice x.a x.n x.c, .int .i64 x.t, .slice x.b x.m x.d]
def Qv.row (x : Qv) : Array Value := #[.int .i64 x.s, .slice x.a x.n x.c, .int .i64 x.t, .slice x.b x.m x.d]
theorem put4_new {w0 w7 w : World} {X : Nat} {v : Value} {q : Rat} (h : RatioR (fun b => w7.heap.size ≤ b) w v q) (h0 : w0.heap.size ≤ w7.heap.size) (hX : X < w7.heap.size) (v0 v1 v2 v3 : Value) : RatioR (fun b => w0.heap.size ≤ b) (set4 w X v0 v1 v2 v3) v q :=
 RatioR.mono (RatioR.kept (w := w) h.here (by rw [set4_size]; exact Nat.le_refl _) (fun b hb => set4_other w X b v0 v1 v2 v3 (by have := hb.1; omega))) (fun b hb => by have := hb.1; omega)
def own3 (x y z b : Nat) : Prop := b = x ∨ b = y ∨ b = z
theorem alc2 (w : World) (o1 o2 : Obj) : Below w.heap.size w ((w.alloc o1).alloc o2) ∧ BlkR ((w.alloc o1).alloc o2) w.heap.size o1 ∧ BlkR ((w.alloc o1).alloc o2) (w.heap.size + 1) o2 := by
 refine ⟨by (repeat' first | (with_reducible first | exact bw1 | assumption | refine bw2 ?_ _ | refine bw3 ?_ ?_ _ | refine bw4 ?_ | refine bw5 ?_ ?_ _ | refine bw6 (by assumption) ?_ ?_ | exact And.left (by assumption)) | go_size), ?_, ?_⟩
 ·show _ = _
  rw [Below.heap_alloc _ _ _ (by simp)]
  exact heap_alloc_new _ _
 ·have := heap_alloc_new (w.alloc o1) o2
  show _ = _
  simpa using this
end Go.Proofs.YtidboecjllaofaaGreat
