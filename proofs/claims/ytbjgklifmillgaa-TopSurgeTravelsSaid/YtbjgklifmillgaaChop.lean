import Derived.Test.YtbjgklifmillgaaMImp
import Derived.Test.YtbjgklifmillgaaMSch
/- Chopped impulses of the program. -/
namespace Go.Proofs.Ytbjgklifmillgaa
open Go.RowKit
set_option linter.unusedVariables false

def chF (l : List (Int × Int)) (t : Int) : List (Int × Int) := l.filter (fun p => decide (p.1 < t))
theorem chF_step (l : List (Int × Int)) (t : Int) (k : Nat) (hk : k < l.length) : chF (l.take (k + 1)) t = chF (l.take k) t ++ (if (gp l k).1 < t then [((gp l k).1, (gp l k).2)] else []) := by
  rw [List.take_add_one, List.getElem?_eq_getElem hk]
  unfold chF
  rw [List.filter_append]
  have h1 : l[k] = gp l k := by simp [gp, List.getD, hk]
  rw [h1]
  congr 1
  by_cases h : (gp l k).1 < t
  · rw [if_pos h]; simp only [Option.toList_some, List.filter_cons, h, decide_true, if_true, List.filter_nil]
  · rw [if_neg h]; simp only [Option.toList_some, List.filter_cons, h, decide_false, List.filter_nil]; rfl
def chAll (l : List (Int × Int)) (t f : Int) : List (Int × Int) := chF l t ++ [(t, (valOf l t).1 / (valOf l t).2), (t + f, 0)]
def chOk (l : List (Int × Int)) (t f : Int) : Bool := wi t ((gp l 0).1 + 1) (gp l (l.length - 1)).1 && wi f 1 100000
def chE (l : List (Int × Int)) (t f : Int) : Int :=
  if (impErr l).2 = 0 then (if chOk l t f = true then (if t + f > 1000000 ∨ (chAll l t f).length > 12 then 8 else 0) else 2) else (impErr l).2
def chL (l : List (Int × Int)) (t f : Int) : List (Int × Int) := if chE l t f = 0 then chAll l t f else []
def CPost (l : List (Int × Int)) (t f : Int) (w : World) (e' : Ending) (w' : World) : Prop :=
  ∃ a n c, e' = .returned (.tuple #[.agg #[.slice a n c], .int .i64 (chE l t f)]) ∧ Below w.heap.size w w' ∧ PairsR w' a n (chL l t f)
theorem cpost_err {l : List (Int × Int)} {t f E : Int} {w w' : World} (hE : chE l t f = E) (h0 : E ≠ 0) (hb : Below w.heap.size w w') : CPost l t f w (.returned (.tuple #[.agg #[.slice none 0 0], .int .i64 E])) w' :=
  ⟨none, 0, 0, by rw [hE], hb, by unfold chL; rw [if_neg (by rw [hE]; exact h0)]; exact PairsR.nil _ _⟩
theorem field0 (x y : Int) (w : World) : (Instr.field 135 (.agg #[.int .i64 x, .int .i64 y]) 0).run Try.prog w = .ok (.int .i64 x) w := by kernel_rfl
set_option maxRecDepth 100000 in
theorem chopped_bad (l : List (Int × Int)) (t f : Int) (a : Option Addr) (n c : Nat) (w : World) (hl : PairsR w a n l) (h0 : (impErr l).2 ≠ 0) :
    Calls Try.prog 19 #[.agg #[.slice a n c], .int .i64 t, .int .i64 f] w (CPost l t f w) := by
  have HC := Lib.hid (fun (w' : World) (hb : Below w.heap.size w w') => open_any l a n c w' (hl.below hb))
  have hE : ∀ w', Below w.heap.size w w' → CPost l t f w (.returned (.tuple #[.agg #[.slice none 0 0], .int .i64 (impErr l).2])) w' := fun w' hb => cpost_err (show chE l t f = (impErr l).2 by unfold chE; rw [if_neg h0]) h0 hb
  have hn := hl.small
  clear hl
  generalize (impErr l).2 = E at *
  have HE := Lib.hid hE
  have h1 : (E != 0) = true := by simpa using h0
  clear hE h0
  go_enter Try.func19, Try.ntmps19
  go_wp2_with fail
  refine (HC.out _ (by (repeat' (first | (with_reducible exact Below.refl _ _) | (with_reducible assumption) | (with_reducible refine Below.drewN ?_ _) | (with_reducible refine Below.alloc ?_ ?_ _) | (with_reducible refine Below.drew ?_) | (with_reducible refine Below.setCell ?_ ?_ _) | (with_reducible refine Below.step (by assumption) ?_ ?_) | (with_reducible exact And.left (by assumption)) | go_size)))).mono ?_
  rintro e5 w5 ⟨rfl, hb5⟩
  have hz5 := hb5.size
  simp only [World.size_alloc] at hz5
  have p0 : w5.cell? ⟨w.heap.size + 1, 0, none⟩ = some (.slice none 0 0) := by { rw [cellB hb5 _ _ (by first | (simp; done) | (simp; omega) | omega)]; all_goals (first | assumption | go_simp) }; have f0 : w5.frozen? ⟨w.heap.size + 1, 0, none⟩ = false := by { rw [frozenB hb5 _ _ (by first | (simp; done) | (simp; omega) | omega)]; all_goals (first | assumption | go_simp) }; have l1 : w.heap.size + 1 < w5.heap.size := by { omega }
  have HB5 := Lib.hid (show Below w.heap.size w w5 by (repeat' (first | (with_reducible exact Below.refl _ _) | (with_reducible assumption) | (with_reducible refine Below.drewN ?_ _) | (with_reducible refine Below.alloc ?_ ?_ _) | (with_reducible refine Below.drew ?_) | (with_reducible refine Below.setCell ?_ ?_ _) | (with_reducible refine Below.step (by assumption) ?_ ?_) | (with_reducible exact And.left (by assumption)) | go_size)))
  clear hb5 HC
  go_wp2_with fail
  refine bodyPost_ret (v := .tuple #[.agg #[.slice none 0 0], .int .i64 E]) (by simp [results, Try.results19, go_sem, p0, l1]) rfl (HE.out _ ?_)
  have := HB5.out
  (repeat' (first | (with_reducible exact Below.refl _ _) | (with_reducible assumption) | (with_reducible refine Below.drewN ?_ _) | (with_reducible refine Below.alloc ?_ ?_ _) | (with_reducible refine Below.drew ?_) | (with_reducible refine Below.setCell ?_ ?_ _) | (with_reducible refine Below.step (by assumption) ?_ ?_) | (with_reducible exact And.left (by assumption)) | go_size))
set_option maxHeartbeats 4000000 in
set_option maxRecDepth 100000 in
theorem chopped_main (l : List (Int × Int)) (t f : Int) (a : Option Addr) (n c : Nat) (w : World) (hl : PairsR w a n l) (h0 : (impErr l).2 = 0) :
    Calls Try.prog 19 #[.agg #[.slice a n c], .int .i64 t, .int .i64 f] w (CPost l t f w) := by
  have hz := impErr_zero h0
  have hlen := hl.len
  have hn := hl.small
  have HC := Lib.hid (fun (w' : World) (hb : Below w.heap.size w w') => open_any l a n c w' (hl.below hb))
  rw [h0] at HC
  rw [hlen] at hz
  obtain ⟨q, rfl⟩ : ∃ q, n = q + 2 := ⟨n - 2, by omega⟩
  have hq : q ≤ 10 := by omega
  have HEN := Lib.hid (fun (w' : World) (hb : Below w.heap.size w w') => end_any l a (q + 2) c w' (hl.below hb) (by omega))
  rw [show q + 2 - 1 = q + 1 by omega] at HEN
  obtain ⟨x0, hx0⟩ : ∃ x, x = (gp l 0).1 := ⟨_, rfl⟩
  obtain ⟨xl, hxl⟩ : ∃ x, x = (gp l (q + 1)).1 := ⟨_, rfl⟩
  obtain ⟨yl, hyl⟩ : ∃ x, x = (gp l (q + 1)).2 := ⟨_, rfl⟩
  rw [← hxl, ← hyl] at HEN
  obtain ⟨b0, o0, rfl, hb0, hc0⟩ := hl.addr (by omega)
  have c0 : w.cell? ⟨b0, o0, none⟩ = some (.int .i64 x0) := by have := (hc0 0 (by omega)).1; rw [hx0]; simpa using this
  have HCC := Lib.hid hc0
  have bx0 := imp_bd h0 0 (by omega)
  have bxl := imp_bd h0 (q + 1) (by omega)
  rw [← hx0] at bx0
  rw [← hxl, ← hyl] at bxl
  obtain ⟨g1, hg1⟩ : ∃ b, b = wi t (x0 + 1) xl := ⟨_, rfl⟩
  obtain ⟨g2, hg2⟩ : ∃ b, b = wi f 1 100000 := ⟨_, rfl⟩
  have HOK := Lib.hid (show chOk l t f = (g1 && g2) by unfold chOk; rw [hlen, hg1, hg2, hx0, hxl]; rfl)
  have HW := Lib.hid (fun w' => within_any t (x0 + 1) xl w')
  rw [← hg1] at HW
  have HT := Lib.hid (fun w' => isTail_any f w')
  rw [← hg2] at HT
  have HH := Lib.hid h0
  have HL := Lib.hid hl
  have HG := Lib.hid (And.intro hg1 hg2)
  have HX := Lib.hid (And.intro hx0 (And.intro hxl hyl))
  have hfd := field0 xl yl
  clear hz hl hc0 hlen h0 hx0 hxl hyl hg1 hg2
  cases g1
  ·
    go_enter Try.func19, Try.ntmps19
    go_wp2_with fail
    refine (HC.out _ (by (repeat' (first | (with_reducible exact Below.refl _ _) | (with_reducible assumption) | (with_reducible refine Below.drewN ?_ _) | (with_reducible refine Below.alloc ?_ ?_ _) | (with_reducible refine Below.drew ?_) | (with_reducible refine Below.setCell ?_ ?_ _) | (with_reducible refine Below.step (by assumption) ?_ ?_) | (with_reducible exact And.left (by assumption)) | go_size)))).mono ?_
    rintro e5 w5 ⟨rfl, hb5⟩
    have hz5 := hb5.size
    simp only [World.size_alloc] at hz5
    have q0 : w5.cell? ⟨w.heap.size, 0, none⟩ = some (.slice (some ⟨b0, o0, none⟩) (q + 2) c) := by { rw [cellB hb5 _ _ (by first | (simp; done) | (simp; omega) | omega)]; all_goals (first | assumption | go_simp) }; have p0 : w5.cell? ⟨w.heap.size + 1, 0, none⟩ = some (.slice none 0 0) := by { rw [cellB hb5 _ _ (by first | (simp; done) | (simp; omega) | omega)]; all_goals (first | assumption | go_simp) }; have f0 : w5.frozen? ⟨w.heap.size + 1, 0, none⟩ = false := by { rw [frozenB hb5 _ _ (by first | (simp; done) | (simp; omega) | omega)]; all_goals (first | assumption | go_simp) }; have l1 : w.heap.size + 1 < w5.heap.size := by { omega }; have l0 : w.heap.size < w5.heap.size := by { omega }
    have HB5 := Lib.hid (show Below w.heap.size w w5 by (repeat' (first | (with_reducible exact Below.refl _ _) | (with_reducible assumption) | (with_reducible refine Below.drewN ?_ _) | (with_reducible refine Below.alloc ?_ ?_ _) | (with_reducible refine Below.drew ?_) | (with_reducible refine Below.setCell ?_ ?_ _) | (with_reducible refine Below.step (by assumption) ?_ ?_) | (with_reducible exact And.left (by assumption)) | go_size)))
    have c05 : w5.cell? ⟨b0, o0, none⟩ = some (.int .i64 x0) := by rw [cellB HB5.out _ _ hb0]; exact c0
    have lb5 : b0 < w5.heap.size := by omega
    clear hb5 HC c0
    go_wp2_with fail
    generalize hW : w5.alloc (Obj.cells #[.slice (some ⟨b0, o0, none⟩) (q + 2) c] 138) = w6
    have hb6 : Below w5.heap.size w5 w6 := by rw [← hW]; (repeat' (first | (with_reducible exact Below.refl _ _) | (with_reducible assumption) | (with_reducible refine Below.drewN ?_ _) | (with_reducible refine Below.alloc ?_ ?_ _) | (with_reducible refine Below.drew ?_) | (with_reducible refine Below.setCell ?_ ?_ _) | (with_reducible refine Below.step (by assumption) ?_ ?_) | (with_reducible exact And.left (by assumption)) | go_size))
    have ci : w6.cell? ⟨w5.heap.size, 0, none⟩ = some (.slice (some ⟨b0, o0, none⟩) (q + 2) c) := by { rw [← hW]; clear hW; go_simp }
    have li : w5.heap.size < w6.heap.size := by { rw [← hW]; simp }
    have hz6 := hb6.size
    have q0' : w6.cell? ⟨w.heap.size, 0, none⟩ = some (.slice (some ⟨b0, o0, none⟩) (q + 2) c) := by { rw [cellB hb6 _ _ (by first | (simp; done) | (simp; omega) | omega)]; all_goals (first | assumption | go_simp) }; have p0' : w6.cell? ⟨w.heap.size + 1, 0, none⟩ = some (.slice none 0 0) := by { rw [cellB hb6 _ _ (by first | (simp; done) | (simp; omega) | omega)]; all_goals (first | assumption | go_simp) }; have f0' : w6.frozen? ⟨w.heap.size + 1, 0, none⟩ = false := by { rw [frozenB hb6 _ _ (by first | (simp; done) | (simp; omega) | omega)]; all_goals (first | assumption | go_simp) }; have c06 : w6.cell? ⟨b0, o0, none⟩ = some (.int .i64 x0) := by { rw [cellB hb6 _ _ (by first | (simp; done) | (simp; omega) | omega)]; all_goals (first | assumption | go_simp) }
    have l0' : w.heap.size < w6.heap.size := by omega
    have l1' : w.heap.size + 1 < w6.heap.size := by omega
    have lb6 : b0 < w6.heap.size := by omega
    have HB6 := Lib.hid (HB5.out.trans (hb6.mono HB5.out.size))
    have hX8 : w.heap.size + 1 < w5.heap.size := l1
    clear hW hb6 q0 p0 f0 c05 l0 l1 lb5 HB5
    generalize w5.heap.size = X8 at *
    refine later_all (by kernel_rfl) (by kernel_rfl) ?_; repeat go_big_quiet_step(first | exact calls_later (HEN.out _ (HB6.out.trans (Below.mono (Later.below _) (HB6.out.size)))) | exact calls_later_same (HW.out _) | exact calls_later_same (HT.out _))
    refine wpQuiet_nil ?_; intro w7 hb7
    have hz7 := hb7.size
    have q0 : w7.cell? ⟨w.heap.size, 0, none⟩ = some (.slice (some ⟨b0, o0, none⟩) (q + 2) c) := by { rw [cellB hb7 _ _ (by first | (simp; done) | (simp; omega) | omega)]; all_goals (first | assumption | go_simp) }; have p0 : w7.cell? ⟨w.heap.size + 1, 0, none⟩ = some (.slice none 0 0) := by { rw [cellB hb7 _ _ (by first | (simp; done) | (simp; omega) | omega)]; all_goals (first | assumption | go_simp) }; have f0 : w7.frozen? ⟨w.heap.size + 1, 0, none⟩ = false := by { rw [frozenB hb7 _ _ (by first | (simp; done) | (simp; omega) | omega)]; all_goals (first | assumption | go_simp) }; have ci' : w7.cell? ⟨X8, 0, none⟩ = some (.slice (some ⟨b0, o0, none⟩) (q + 2) c) := by { rw [cellB hb7 _ _ (by first | (simp; done) | (simp; omega) | omega)]; all_goals (first | assumption | go_simp) }
    have l0 : w.heap.size < w7.heap.size := by omega
    have l1 : w.heap.size + 1 < w7.heap.size := by omega
    have l8 : X8 < w7.heap.size := by omega
    have HB7 := Lib.hid (HB6.out.trans (hb7.mono HB6.out.size))
    clear hb7 q0' p0' f0' ci c06 l0' l1' lb6 li HB6
    have HE := Lib.hid (show chE l t f = 2 by unfold chE; rw [if_pos HH.out, if_neg (by rw [HOK.out]; simp)])
    go_wp2
    refine bodyPost_ret (v := .tuple #[.agg #[.slice none 0 0], .int .i64 2]) (by simp [results, Try.results19, go_sem, p0]) rfl (cpost_err HE.out (by omega) ?_)
    have := HB7.out
    (repeat' (first | (with_reducible exact Below.refl _ _) | (with_reducible assumption) | (with_reducible refine Below.drewN ?_ _) | (with_reducible refine Below.alloc ?_ ?_ _) | (with_reducible refine Below.drew ?_) | (with_reducible refine Below.setCell ?_ ?_ _) | (with_reducible refine Below.step (by assumption) ?_ ?_) | (with_reducible exact And.left (by assumption)) | go_size))
  · cases g2
    ·
      go_enter Try.func19, Try.ntmps19
      go_wp2_with fail
      refine (HC.out _ (by (repeat' (first | (with_reducible exact Below.refl _ _) | (with_reducible assumption) | (with_reducible refine Below.drewN ?_ _) | (with_reducible refine Below.alloc ?_ ?_ _) | (with_reducible refine Below.drew ?_) | (with_reducible refine Below.setCell ?_ ?_ _) | (with_reducible refine Below.step (by assumption) ?_ ?_) | (with_reducible exact And.left (by assumption)) | go_size)))).mono ?_
      rintro e5 w5 ⟨rfl, hb5⟩
      have hz5 := hb5.size
      simp only [World.size_alloc] at hz5
      have q0 : w5.cell? ⟨w.heap.size, 0, none⟩ = some (.slice (some ⟨b0, o0, none⟩) (q + 2) c) := by { rw [cellB hb5 _ _ (by first | (simp; done) | (simp; omega) | omega)]; all_goals (first | assumption | go_simp) }; have p0 : w5.cell? ⟨w.heap.size + 1, 0, none⟩ = some (.slice none 0 0) := by { rw [cellB hb5 _ _ (by first | (simp; done) | (simp; omega) | omega)]; all_goals (first | assumption | go_simp) }; have f0 : w5.frozen? ⟨w.heap.size + 1, 0, none⟩ = false := by { rw [frozenB hb5 _ _ (by first | (simp; done) | (simp; omega) | omega)]; all_goals (first | assumption | go_simp) }; have l1 : w.heap.size + 1 < w5.heap.size := by { omega }; have l0 : w.heap.size < w5.heap.size := by { omega }
      have HB5 := Lib.hid (show Below w.heap.size w w5 by (repeat' (first | (with_reducible exact Below.refl _ _) | (with_reducible assumption) | (with_reducible refine Below.drewN ?_ _) | (with_reducible refine Below.alloc ?_ ?_ _) | (with_reducible refine Below.drew ?_) | (with_reducible refine Below.setCell ?_ ?_ _) | (with_reducible refine Below.step (by assumption) ?_ ?_) | (with_reducible exact And.left (by assumption)) | go_size)))
      have c05 : w5.cell? ⟨b0, o0, none⟩ = some (.int .i64 x0) := by rw [cellB HB5.out _ _ hb0]; exact c0
      have lb5 : b0 < w5.heap.size := by omega
      clear hb5 HC c0
      go_wp2_with fail
      generalize hW : w5.alloc (Obj.cells #[.slice (some ⟨b0, o0, none⟩) (q + 2) c] 138) = w6
      have hb6 : Below w5.heap.size w5 w6 := by rw [← hW]; (repeat' (first | (with_reducible exact Below.refl _ _) | (with_reducible assumption) | (with_reducible refine Below.drewN ?_ _) | (with_reducible refine Below.alloc ?_ ?_ _) | (with_reducible refine Below.drew ?_) | (with_reducible refine Below.setCell ?_ ?_ _) | (with_reducible refine Below.step (by assumption) ?_ ?_) | (with_reducible exact And.left (by assumption)) | go_size))
      have ci : w6.cell? ⟨w5.heap.size, 0, none⟩ = some (.slice (some ⟨b0, o0, none⟩) (q + 2) c) := by { rw [← hW]; clear hW; go_simp }
      have li : w5.heap.size < w6.heap.size := by { rw [← hW]; simp }
      have hz6 := hb6.size
      have q0' : w6.cell? ⟨w.heap.size, 0, none⟩ = some (.slice (some ⟨b0, o0, none⟩) (q + 2) c) := by { rw [cellB hb6 _ _ (by first | (simp; done) | (simp; omega) | omega)]; all_goals (first | assumption | go_simp) }; have p0' : w6.cell? ⟨w.heap.size + 1, 0, none⟩ = some (.slice none 0 0) := by { rw [cellB hb6 _ _ (by first | (simp; done) | (simp; omega) | omega)]; all_goals (first | assumption | go_simp) }; have f0' : w6.frozen? ⟨w.heap.size + 1, 0, none⟩ = false := by { rw [frozenB hb6 _ _ (by first | (simp; done) | (simp; omega) | omega)]; all_goals (first | assumption | go_simp) }; have c06 : w6.cell? ⟨b0, o0, none⟩ = some (.int .i64 x0) := by { rw [cellB hb6 _ _ (by first | (simp; done) | (simp; omega) | omega)]; all_goals (first | assumption | go_simp) }
      have l0' : w.heap.size < w6.heap.size := by omega
      have l1' : w.heap.size + 1 < w6.heap.size := by omega
      have lb6 : b0 < w6.heap.size := by omega
      have HB6 := Lib.hid (HB5.out.trans (hb6.mono HB5.out.size))
      have hX8 : w.heap.size + 1 < w5.heap.size := l1
      clear hW hb6 q0 p0 f0 c05 l0 l1 lb5 HB5
      generalize w5.heap.size = X8 at *
      refine later_all (by kernel_rfl) (by kernel_rfl) ?_; repeat go_big_quiet_step(first | exact calls_later (HEN.out _ (HB6.out.trans (Below.mono (Later.below _) (HB6.out.size)))) | exact calls_later_same (HW.out _) | exact calls_later_same (HT.out _))
      refine wpQuiet_nil ?_; intro w7 hb7
      have hz7 := hb7.size
      have q0 : w7.cell? ⟨w.heap.size, 0, none⟩ = some (.slice (some ⟨b0, o0, none⟩) (q + 2) c) := by { rw [cellB hb7 _ _ (by first | (simp; done) | (simp; omega) | omega)]; all_goals (first | assumption | go_simp) }; have p0 : w7.cell? ⟨w.heap.size + 1, 0, none⟩ = some (.slice none 0 0) := by { rw [cellB hb7 _ _ (by first | (simp; done) | (simp; omega) | omega)]; all_goals (first | assumption | go_simp) }; have f0 : w7.frozen? ⟨w.heap.size + 1, 0, none⟩ = false := by { rw [frozenB hb7 _ _ (by first | (simp; done) | (simp; omega) | omega)]; all_goals (first | assumption | go_simp) }; have ci' : w7.cell? ⟨X8, 0, none⟩ = some (.slice (some ⟨b0, o0, none⟩) (q + 2) c) := by { rw [cellB hb7 _ _ (by first | (simp; done) | (simp; omega) | omega)]; all_goals (first | assumption | go_simp) }
      have l0 : w.heap.size < w7.heap.size := by omega
      have l1 : w.heap.size + 1 < w7.heap.size := by omega
      have l8 : X8 < w7.heap.size := by omega
      have HB7 := Lib.hid (HB6.out.trans (hb7.mono HB6.out.size))
      clear hb7 q0' p0' f0' ci c06 l0' l1' lb6 li HB6
      have HE := Lib.hid (show chE l t f = 2 by unfold chE; rw [if_pos HH.out, if_neg (by rw [HOK.out]; simp)])
      go_wp2
      refine bodyPost_ret (v := .tuple #[.agg #[.slice none 0 0], .int .i64 2]) (by simp [results, Try.results19, go_sem, p0]) rfl (cpost_err HE.out (by omega) ?_)
      have := HB7.out
      (repeat' (first | (with_reducible exact Below.refl _ _) | (with_reducible assumption) | (with_reducible refine Below.drewN ?_ _) | (with_reducible refine Below.alloc ?_ ?_ _) | (with_reducible refine Below.drew ?_) | (with_reducible refine Below.setCell ?_ ?_ _) | (with_reducible refine Below.step (by assumption) ?_ ?_) | (with_reducible exact And.left (by assumption)) | go_size))
    ·
      go_enter Try.func19, Try.ntmps19
      go_wp2_with fail
      refine (HC.out _ (by (repeat' (first | (with_reducible exact Below.refl _ _) | (with_reducible assumption) | (with_reducible refine Below.drewN ?_ _) | (with_reducible refine Below.alloc ?_ ?_ _) | (with_reducible refine Below.drew ?_) | (with_reducible refine Below.setCell ?_ ?_ _) | (with_reducible refine Below.step (by assumption) ?_ ?_) | (with_reducible exact And.left (by assumption)) | go_size)))).mono ?_
      rintro e5 w5 ⟨rfl, hb5⟩
      have hz5 := hb5.size
      simp only [World.size_alloc] at hz5
      have q0 : w5.cell? ⟨w.heap.size, 0, none⟩ = some (.slice (some ⟨b0, o0, none⟩) (q + 2) c) := by { rw [cellB hb5 _ _ (by first | (simp; done) | (simp; omega) | omega)]; all_goals (first | assumption | go_simp) }; have p0 : w5.cell? ⟨w.heap.size + 1, 0, none⟩ = some (.slice none 0 0) := by { rw [cellB hb5 _ _ (by first | (simp; done) | (simp; omega) | omega)]; all_goals (first | assumption | go_simp) }; have f0 : w5.frozen? ⟨w.heap.size + 1, 0, none⟩ = false := by { rw [frozenB hb5 _ _ (by first | (simp; done) | (simp; omega) | omega)]; all_goals (first | assumption | go_simp) }; have l1 : w.heap.size + 1 < w5.heap.size := by { omega }; have l0 : w.heap.size < w5.heap.size := by { omega }
      have HB5 := Lib.hid (show Below w.heap.size w w5 by (repeat' (first | (with_reducible exact Below.refl _ _) | (with_reducible assumption) | (with_reducible refine Below.drewN ?_ _) | (with_reducible refine Below.alloc ?_ ?_ _) | (with_reducible refine Below.drew ?_) | (with_reducible refine Below.setCell ?_ ?_ _) | (with_reducible refine Below.step (by assumption) ?_ ?_) | (with_reducible exact And.left (by assumption)) | go_size)))
      have c05 : w5.cell? ⟨b0, o0, none⟩ = some (.int .i64 x0) := by rw [cellB HB5.out _ _ hb0]; exact c0
      have lb5 : b0 < w5.heap.size := by omega
      clear hb5 HC c0
      go_wp2_with fail
      generalize hW : w5.alloc (Obj.cells #[.slice (some ⟨b0, o0, none⟩) (q + 2) c] 138) = w6
      have hb6 : Below w5.heap.size w5 w6 := by rw [← hW]; (repeat' (first | (with_reducible exact Below.refl _ _) | (with_reducible assumption) | (with_reducible refine Below.drewN ?_ _) | (with_reducible refine Below.alloc ?_ ?_ _) | (with_reducible refine Below.drew ?_) | (with_reducible refine Below.setCell ?_ ?_ _) | (with_reducible refine Below.step (by assumption) ?_ ?_) | (with_reducible exact And.left (by assumption)) | go_size))
      have ci : w6.cell? ⟨w5.heap.size, 0, none⟩ = some (.slice (some ⟨b0, o0, none⟩) (q + 2) c) := by { rw [← hW]; clear hW; go_simp }
      have li : w5.heap.size < w6.heap.size := by { rw [← hW]; simp }
      have hz6 := hb6.size
      have q0' : w6.cell? ⟨w.heap.size, 0, none⟩ = some (.slice (some ⟨b0, o0, none⟩) (q + 2) c) := by { rw [cellB hb6 _ _ (by first | (simp; done) | (simp; omega) | omega)]; all_goals (first | assumption | go_simp) }; have p0' : w6.cell? ⟨w.heap.size + 1, 0, none⟩ = some (.slice none 0 0) := by { rw [cellB hb6 _ _ (by first | (simp; done) | (simp; omega) | omega)]; all_goals (first | assumption | go_simp) }; have f0' : w6.frozen? ⟨w.heap.size + 1, 0, none⟩ = false := by { rw [frozenB hb6 _ _ (by first | (simp; done) | (simp; omega) | omega)]; all_goals (first | assumption | go_simp) }; have c06 : w6.cell? ⟨b0, o0, none⟩ = some (.int .i64 x0) := by { rw [cellB hb6 _ _ (by first | (simp; done) | (simp; omega) | omega)]; all_goals (first | assumption | go_simp) }
      have l0' : w.heap.size < w6.heap.size := by omega
      have l1' : w.heap.size + 1 < w6.heap.size := by omega
      have lb6 : b0 < w6.heap.size := by omega
      have HB6 := Lib.hid (HB5.out.trans (hb6.mono HB5.out.size))
      have hX8 : w.heap.size + 1 < w5.heap.size := l1
      clear hW hb6 q0 p0 f0 c05 l0 l1 lb5 HB5
      generalize w5.heap.size = X8 at *
      refine later_all (by kernel_rfl) (by kernel_rfl) ?_; repeat go_big_quiet_step(first | exact calls_later (HEN.out _ (HB6.out.trans (Below.mono (Later.below _) (HB6.out.size)))) | exact calls_later_same (HW.out _) | exact calls_later_same (HT.out _))
      refine wpQuiet_nil ?_; intro w7 hb7
      have hz7 := hb7.size
      have q0 : w7.cell? ⟨w.heap.size, 0, none⟩ = some (.slice (some ⟨b0, o0, none⟩) (q + 2) c) := by { rw [cellB hb7 _ _ (by first | (simp; done) | (simp; omega) | omega)]; all_goals (first | assumption | go_simp) }; have p0 : w7.cell? ⟨w.heap.size + 1, 0, none⟩ = some (.slice none 0 0) := by { rw [cellB hb7 _ _ (by first | (simp; done) | (simp; omega) | omega)]; all_goals (first | assumption | go_simp) }; have f0 : w7.frozen? ⟨w.heap.size + 1, 0, none⟩ = false := by { rw [frozenB hb7 _ _ (by first | (simp; done) | (simp; omega) | omega)]; all_goals (first | assumption | go_simp) }; have ci' : w7.cell? ⟨X8, 0, none⟩ = some (.slice (some ⟨b0, o0, none⟩) (q + 2) c) := by { rw [cellB hb7 _ _ (by first | (simp; done) | (simp; omega) | omega)]; all_goals (first | assumption | go_simp) }
      have l0 : w.heap.size < w7.heap.size := by omega
      have l1 : w.heap.size + 1 < w7.heap.size := by omega
      have l8 : X8 < w7.heap.size := by omega
      have HB7 := Lib.hid (HB6.out.trans (hb7.mono HB6.out.size))
      clear hb7 q0' p0' f0' ci c06 l0' l1' lb6 li HB6
      go_wp2_with fail
      have btx := wi_iff.1 HG.out.1.symm
      have btf := wi_iff.1 HG.out.2.symm
      have bt0 : 0 ≤ t ∧ t ≤ 1000000 := by omega
      generalize hW : w7.alloc (Obj.cells #[.slice none 0 0] 53) = w8
      have hb8 : Below w7.heap.size w7 w8 := by rw [← hW]; (repeat' (first | (with_reducible exact Below.refl _ _) | (with_reducible assumption) | (with_reducible refine Below.drewN ?_ _) | (with_reducible refine Below.alloc ?_ ?_ _) | (with_reducible refine Below.drew ?_) | (with_reducible refine Below.setCell ?_ ?_ _) | (with_reducible refine Below.step (by assumption) ?_ ?_) | (with_reducible exact And.left (by assumption)) | go_size))
      have co : w8.cell? ⟨w7.heap.size, 0, none⟩ = some (.slice none 0 0) := by { rw [← hW]; clear hW; go_simp }
      have fo : w8.frozen? ⟨w7.heap.size, 0, none⟩ = false := by { rw [← hW]; clear hW; go_simp }
      have lo : w7.heap.size < w8.heap.size := by { rw [← hW]; simp }
      have HB8 := Lib.hid (HB7.out.trans (hb8.mono HB7.out.size))
      have q0' : w8.cell? ⟨w.heap.size, 0, none⟩ = some (.slice (some ⟨b0, o0, none⟩) (q + 2) c) := by { rw [cellB hb8 _ _ (by first | (simp; done) | (simp; omega) | omega)]; all_goals (first | assumption | go_simp) }; have p0' : w8.cell? ⟨w.heap.size + 1, 0, none⟩ = some (.slice none 0 0) := by { rw [cellB hb8 _ _ (by first | (simp; done) | (simp; omega) | omega)]; all_goals (first | assumption | go_simp) }; have f0' : w8.frozen? ⟨w.heap.size + 1, 0, none⟩ = false := by { rw [frozenB hb8 _ _ (by first | (simp; done) | (simp; omega) | omega)]; all_goals (first | assumption | go_simp) }; have ci : w8.cell? ⟨X8, 0, none⟩ = some (.slice (some ⟨b0, o0, none⟩) (q + 2) c) := by { rw [cellB hb8 _ _ (by first | (simp; done) | (simp; omega) | omega)]; all_goals (first | assumption | go_simp) }
      clear hW hb8 q0 p0 f0 ci' HB7
      generalize w7.heap.size = BO at *
      go_loopw [43] (fun i wr => ∃ k : Nat, i = .int .i64 k ∧ k ≤ q + 2 ∧ (∃ av cv m, Hid (m = (chF (l.take k) t).length) ∧ wr.cell? ⟨BO, 0, none⟩ = some (.slice av m cv) ∧ Hid (wr.ownsRow (BO + 1) 135 2 (.slice av m cv) m (pcells (chF (l.take k) t)))) ∧ wr.frozen? ⟨BO, 0, none⟩ = false ∧ BO < wr.heap.size ∧ Hid (Below BO w8 wr)) (fun i _ => q + 2 - (intOf i).toNat)
      case atStart => exact ⟨0, rfl, Nat.zero_le _, ⟨none, 0, 0, Lib.hid rfl, co, Lib.hid (World.ownsRow_nil _ _ _ _)⟩, fo, lo, Lib.hid (Below.refl _ _)⟩
      case round =>
        clear co fo lo
        obtain ⟨k, rfl, hk, ⟨av, cv, m, hm, co, hO⟩, fo, lo, hB⟩ := hrel
        have hbr := hB.out
        have q0 : wr.cell? ⟨w.heap.size, 0, none⟩ = some (.slice (some ⟨b0, o0, none⟩) (q + 2) c) := by { rw [cellB hbr _ _ (by first | (simp; done) | (simp; omega) | omega)]; all_goals (first | assumption | go_simp) }; have p0 : wr.cell? ⟨w.heap.size + 1, 0, none⟩ = some (.slice none 0 0) := by { rw [cellB hbr _ _ (by first | (simp; done) | (simp; omega) | omega)]; all_goals (first | assumption | go_simp) }; have f0 : wr.frozen? ⟨w.heap.size + 1, 0, none⟩ = false := by { rw [frozenB hbr _ _ (by first | (simp; done) | (simp; omega) | omega)]; all_goals (first | assumption | go_simp) }; have ci' : wr.cell? ⟨X8, 0, none⟩ = some (.slice (some ⟨b0, o0, none⟩) (q + 2) c) := by { rw [cellB hbr _ _ (by first | (simp; done) | (simp; omega) | omega)]; all_goals (first | assumption | go_simp) }
        have HBW := Lib.hid (HB8.out.trans (hbr.mono (by omega)))
        have hm12 : m ≤ q + 2 := by
          rw [hm.out]
          have h1 := List.length_filter_le (fun p : Int × Int => decide (p.1 < t)) (l.take k)
          rw [List.length_take] at h1
          unfold chF
          omega
        clear hbr
        rcases Nat.lt_or_ge k (q + 2) with hlt | hge
        · obtain ⟨x, hx⟩ : ∃ x, x = (gp l k).1 := ⟨_, rfl⟩
          obtain ⟨y, hy⟩ : ∃ x, x = (gp l k).2 := ⟨_, rfl⟩
          have cx : wr.cell? ⟨b0, o0 + k * 2, none⟩ = some (.int .i64 x) := by rw [cellB HBW.out _ _ hb0, hx]; exact (HCC.out k hlt).1
          have cy : wr.cell? ⟨b0, o0 + k * 2 + 1, none⟩ = some (.int .i64 y) := by rw [cellB HBW.out _ _ hb0, hy]; exact (HCC.out k hlt).2
          have i0 : (0 : Int) ≤ (k : Int) := by omega
          have i1 : (k : Int) < (q : Int) + 2 := by omega
          have HTK := Lib.hid (show chF (l.take (k + 1)) t = chF (l.take k) t ++ (if x < t then [(x, y)] else []) by
            rw [chF_step l t k (by rw [HL.out.len]; omega), hx, hy])
          clear hx hy
          by_cases hxt : x < t
          · rw [if_pos hxt] at HTK
            go_wp2_with (at_builtin; refine wpList_append_sl _ rfl _ _ 51 rfl (BO + 1) 135 _ 2 16 Try.underlying51 infoPoint rfl (by omega) (.slice av m cv) m _ rfl ((hO.out.alloc _).alloc _) _ 1 1 [.int .i64 x, .int .i64 y] rfl (SlR.lit _ _ _ _ _ 1 2 (by rfl) (by simp) rfl (by omega)) (by simp [Value.oneCell']) (by omega) (by omega) (by simp; omega) ?_)
            intro v2 wz hownz _ hbz
            obtain ⟨av2, cv2, rfl, _, _⟩ := owns_slice hownz
            have hbz' : Below (BO + 1) wr wz := Below.trans (b := (wr.alloc (Obj.cells #[.int .i64 x, .int .i64 y] 135)).alloc (Obj.cells #[.int .i64 x, .int .i64 y] 135)) (by (repeat' (first | (with_reducible exact Below.refl _ _) | (with_reducible assumption) | (with_reducible refine Below.drewN ?_ _) | (with_reducible refine Below.alloc ?_ ?_ _) | (with_reducible refine Below.drew ?_) | (with_reducible refine Below.setCell ?_ ?_ _) | (with_reducible refine Below.step (by assumption) ?_ ?_) | (with_reducible exact And.left (by assumption)) | go_size))) hbz
            have hzz := hbz'.size
            have coz : wz.cell? ⟨BO, 0, none⟩ = some (.slice av m cv) := by { rw [cellB hbz' _ _ (by first | (simp; done) | (simp; omega) | omega)]; all_goals (first | assumption | go_simp) }; have foz : wz.frozen? ⟨BO, 0, none⟩ = false := by { rw [frozenB hbz' _ _ (by first | (simp; done) | (simp; omega) | omega)]; all_goals (first | assumption | go_simp) }
            have loz : BO < wz.heap.size := by omega
            have HOZ := Lib.hid (show wz.ownsRow (BO + 1) 135 2 (.slice av2 (m + 1) cv2) (m + 1) (pcells (chF (l.take (k + 1)) t)) by rw [HTK.out, pcells_append]; exact hownz)
            have HBZ := Lib.hid (hbz'.mono (Nat.le_succ BO))
            clear hownz hbz hbz' co fo lo
            go_wp2
            go_roundw
            case rel =>
              refine ⟨k + 1, by go_num, by omega, ⟨av2, cv2, m + 1, Lib.hid (by rw [HTK.out, List.length_append, hm.out]; rfl), by go_simp, Lib.hid (ownsRow_setCell_below HOZ.out (a := ⟨BO, 0, none⟩) (by simp) _)⟩, by go_simp, by simp; omega, ?_⟩
              exact Lib.hid (Below.setCell (hB.out.trans HBZ.out) (by simp) _)
            case measure => simp [intOf]; omega
          · rw [if_neg hxt, List.append_nil] at HTK
            go_wp2
            go_roundw
            case rel =>
              refine ⟨k + 1, by go_num, by omega, ⟨av, cv, m, Lib.hid (by rw [HTK.out]; exact hm.out), by go_simp, Lib.hid (by rw [HTK.out]; exact hO.out.alloc _)⟩, by go_simp, by simp; omega, ?_⟩
              have := hB.out
              exact Lib.hid (by (repeat' (first | (with_reducible exact Below.refl _ _) | (with_reducible assumption) | (with_reducible refine Below.drewN ?_ _) | (with_reducible refine Below.alloc ?_ ?_ _) | (with_reducible refine Below.drew ?_) | (with_reducible refine Below.setCell ?_ ?_ _) | (with_reducible refine Below.step (by assumption) ?_ ?_) | (with_reducible exact And.left (by assumption)) | go_size)))
            case measure => simp [intOf]; omega
        · obtain rfl : k = q + 2 := by omega
          have HTK := Lib.hid (show chF (l.take (q + 2)) t = chF l t by rw [List.take_of_length_le (by rw [HL.out.len]; omega)])
          have HV := Lib.hid (fun (v : World) (hv : Below w.heap.size w v) => value_any l t (some ⟨b0, o0, none⟩) (q + 2) c v (HL.out.below hv) (by omega) (imp_mem_bd HH.out) bt0.1 bt0.2)
          have hvb := valOf_bd HH.out bt0.1 bt0.2
          obtain ⟨v1, hv1⟩ : ∃ x, x = (valOf l t).1 := ⟨_, rfl⟩
          obtain ⟨v2, hv2⟩ : ∃ x, x = (valOf l t).2 := ⟨_, rfl⟩
          rw [← hv1, ← hv2] at HV hvb
          have HVV := Lib.hid (And.intro hv1 hv2)
          clear hv1 hv2
          have j0 : w.heap.size < BO + 1 := by omega
          have j1 : w.heap.size + 1 < BO + 1 := by omega
          have j8 : X8 < BO + 1 := by omega
          have jo : BO < BO + 1 := by omega
          have HBw := Lib.hid (HB8.out.trans (hB.out.mono (by omega)))
          go_wp2_with fail
          refine wp_region_mixZ (B := BO + 1) [(true, 0), (true, 1), (true, 2), (true, 3), (true, 4), (true, 10), (true, 11), (true, 12), (true, 13), (false, 5), (true, 6), (true, 7), (false, 8), (true, 9), (false, 14), (false, 15), (true, 16), (false, 17)] 17 (by kernel_rfl) (by kernel_rfl) ?_; simp only [opsOf, List.filterMap_cons, List.filterMap_nil, List.getElem?_toArray, List.getElem?_cons_zero, List.getElem?_cons_succ, Option.map_some]
          repeat (refine mixz_head ?_; (show wpQuiet _ _ _ _ (_ :: _) _; go_big_quiet_step (fail)); refine wpQuiet_nil ?_)
          refine mixz_tail ?_; go_wp2_with fail
          refine (HV.out _ HBw.out.drew).mono ?_
          rintro e9 wa ⟨rfl, hba⟩
          have hba' : Below wr.heap.size wr wa := (Below.refl wr.heap.size wr).drew.trans hba
          have HNa := Lib.hid (hba'.mono (show BO + 1 ≤ wr.heap.size by omega))
          have hza := hba'.size
          have HOa := Lib.hid (owns_below hO.out hba' (fun z hz => (hO.out.lt z hz).2))
          clear hba hba'
          go_wp2_with fail
          refine tailL_mk HNa.out ?_
          repeat (refine mixz_head ?_; (show wpQuiet _ _ _ _ (_ :: _) _; go_big_quiet_step (fail)); refine wpQuiet_nil ?_)
          refine mixz_tail ?_; go_wp2_with fail
          refine (sfloor_pos v1 v2 _ (by omega) (by omega) (by omega) (by omega)).mono ?_
          rintro e10 wb ⟨rfl, rfl⟩
          go_wp2_with fail
          refine tailL_mk HNa.out ?_
          repeat (refine mixz_head ?_; (show wpQuiet _ _ _ _ (_ :: _) _; go_big_quiet_step (fail)); refine wpQuiet_nil ?_)
          refine mixz_tail ?_; go_wp2_with fail
          have HNb := Lib.hid (show Below (BO + 1) wr (wa.alloc (Obj.cells #[.int .i64 t, .int .i64 (v1 / v2), .int .i64 (t + f), .int .i64 0] 135)) from Below.alloc HNa.out (by omega) _)
          refine tailL_mk HNb.out ?_
          refine mixz_tail ?_
          go_wp2_with (at_builtin; refine wpList_append_sl _ rfl _ _ 51 rfl (BO + 1) 135 _ 2 16 Try.underlying51 infoPoint rfl (by omega) (.slice av m cv) m _ rfl (HOa.out.alloc _) _ 2 2 [.int .i64 t, .int .i64 (v1 / v2), .int .i64 (t + f), .int .i64 0] rfl (SlR.lit _ _ _ _ _ 2 2 (by rfl) (by simp) rfl (by omega)) (by simp [Value.oneCell']) (by omega) (by omega) (by simp; omega) ?_)
          intro v9 wz hownz _ hbz
          obtain ⟨av2, cv2, rfl, _, _⟩ := owns_slice hownz
          have hbz' : Below (BO + 1) wr wz := HNb.out.trans hbz
          have hzz := hbz'.size
          have coz : wz.cell? ⟨BO, 0, none⟩ = some (.slice av m cv) := by { rw [cellB hbz' _ _ (by first | (simp; done) | (simp; omega) | omega)]; all_goals (first | assumption | go_simp) }; have foz : wz.frozen? ⟨BO, 0, none⟩ = false := by { rw [frozenB hbz' _ _ (by first | (simp; done) | (simp; omega) | omega)]; all_goals (first | assumption | go_simp) }; have q9 : wz.cell? ⟨w.heap.size, 0, none⟩ = some (.slice (some ⟨b0, o0, none⟩) (q + 2) c) := by { rw [cellB hbz' _ _ (by first | (simp; done) | (simp; omega) | omega)]; all_goals (first | assumption | go_simp) }; have p9 : wz.cell? ⟨w.heap.size + 1, 0, none⟩ = some (.slice none 0 0) := by { rw [cellB hbz' _ _ (by first | (simp; done) | (simp; omega) | omega)]; all_goals (first | assumption | go_simp) }; have f9 : wz.frozen? ⟨w.heap.size + 1, 0, none⟩ = false := by { rw [frozenB hbz' _ _ (by first | (simp; done) | (simp; omega) | omega)]; all_goals (first | assumption | go_simp) }
          have loz : BO < wz.heap.size := by omega
          have HOZ := Lib.hid (show wz.ownsRow (BO + 1) 135 2 (.slice av2 (m + 2) cv2) (m + 2) (pcells (chAll l t f)) by unfold chAll; rw [← HTK.out, ← HVV.out.1, ← HVV.out.2, pcells_append]; exact hownz)
          have HBZ := Lib.hid hbz'
          have hlz : wr.heap.size ≤ wz.heap.size := hzz
          clear hownz hbz hbz' co fo
          go_wp2_with fail
          refine tailL_mk HBZ.out ?_
          repeat (refine mixz_head ?_; (show wpQuiet _ _ _ _ (_ :: _) _; go_big_quiet_step (fail)); refine wpQuiet_nil ?_)
          refine mixz_last ?_; go_wp2_with fail
          refine tailZ_end ?_
          have HO9 := Lib.hid (ownsRow_setCell_below HOZ.out (a := ⟨BO, 0, none⟩) (by simp) (.slice av2 (m + 2) cv2))
          have hb9 : Below BO wr (wz.setCell ⟨BO, 0, none⟩ (.slice av2 (m + 2) cv2)) := Below.setCell (HBZ.out.mono (Nat.le_succ BO)) (by simp) _
          have c9 : (wz.setCell ⟨BO, 0, none⟩ (.slice av2 (m + 2) cv2)).cell? ⟨BO, 0, none⟩ = some (.slice av2 (m + 2) cv2) := by go_simp
          have l9 : BO < (wz.setCell ⟨BO, 0, none⟩ (.slice av2 (m + 2) cv2)).heap.size := by simpa using loz
          generalize wz.setCell ⟨BO, 0, none⟩ (.slice av2 (m + 2) cv2) = wy at *
          have p8 : wy.cell? ⟨w.heap.size + 1, 0, none⟩ = some (.slice none 0 0) := by { rw [cellB hb9 _ _ (by first | (simp; done) | (simp; omega) | omega)]; all_goals (first | assumption | go_simp) }; have f8 : wy.frozen? ⟨w.heap.size + 1, 0, none⟩ = false := by { rw [frozenB hb9 _ _ (by first | (simp; done) | (simp; omega) | omega)]; all_goals (first | assumption | go_simp) }
          have l8' : w.heap.size + 1 < wy.heap.size := by omega
          have HBy := Lib.hid (HBw.out.trans (hb9.mono (by omega)))
          have hlen2 : (chAll l t f).length = m + 2 := by unfold chAll; rw [List.length_append, ← HTK.out, ← hm.out]; rfl
          have HLN := Lib.hid hlen2
          clear hb9 hlen2 coz foz q9 p9 f9
          by_cases hA : t + f > 1000000
          · have hAd : decide (t + f > 1000000) = true := by simpa using hA
            have HE := Lib.hid (show chE l t f = 8 by unfold chE; rw [if_pos HH.out, if_pos (by rw [HOK.out]; rfl), if_pos (.inl hA)])
            go_wp2
            refine bodyPost_ret (v := .tuple #[.agg #[.slice none 0 0], .int .i64 8]) (by simp [results, Try.results19, go_sem, p8]) rfl (cpost_err HE.out (by omega) ?_)
            have := HBy.out
            (repeat' (first | (with_reducible exact Below.refl _ _) | (with_reducible assumption) | (with_reducible refine Below.drewN ?_ _) | (with_reducible refine Below.alloc ?_ ?_ _) | (with_reducible refine Below.drew ?_) | (with_reducible refine Below.setCell ?_ ?_ _) | (with_reducible refine Below.step (by assumption) ?_ ?_) | (with_reducible exact And.left (by assumption)) | go_size))
          · have hAd : decide (t + f > 1000000) = false := by simpa using hA
            by_cases hC : m + 2 > 12
            · have hCd : decide ((m : Int) + 2 > 12) = true := by simp; omega
              have HE := Lib.hid (show chE l t f = 8 by unfold chE; rw [if_pos HH.out, if_pos (by rw [HOK.out]; rfl), if_pos (.inr (by rw [HLN.out]; exact hC))])
              go_wp2
              refine bodyPost_ret (v := .tuple #[.agg #[.slice none 0 0], .int .i64 8]) (by simp [results, Try.results19, go_sem, p8]) rfl (cpost_err HE.out (by omega) ?_)
              have := HBy.out
              (repeat' (first | (with_reducible exact Below.refl _ _) | (with_reducible assumption) | (with_reducible refine Below.drewN ?_ _) | (with_reducible refine Below.alloc ?_ ?_ _) | (with_reducible refine Below.drew ?_) | (with_reducible refine Below.setCell ?_ ?_ _) | (with_reducible refine Below.step (by assumption) ?_ ?_) | (with_reducible exact And.left (by assumption)) | go_size))
            · have hCd : decide ((m : Int) + 2 > 12) = false := by simp; omega
              have HE := Lib.hid (show chE l t f = 0 by unfold chE; rw [if_pos HH.out, if_pos (by rw [HOK.out]; rfl), if_neg (by rw [HLN.out]; omega)])
              go_wp2
              refine bodyPost_ret (v := .tuple #[.agg #[.slice av2 (m + 2) cv2], .int .i64 0]) (by simp [results, Try.results19, go_sem, p8]) rfl ⟨av2, m + 2, cv2, by rw [HE.out], ?_, ?_⟩
              · have := HBy.out
                (repeat' (first | (with_reducible exact Below.refl _ _) | (with_reducible assumption) | (with_reducible refine Below.drewN ?_ _) | (with_reducible refine Below.alloc ?_ ?_ _) | (with_reducible refine Below.drew ?_) | (with_reducible refine Below.setCell ?_ ?_ _) | (with_reducible refine Below.step (by assumption) ?_ ?_) | (with_reducible exact And.left (by assumption)) | go_size))
              · unfold chL
                rw [if_pos HE.out]
                exact SlR.of_owns (ownsRow_setCell_below HO9.out (a := ⟨w.heap.size + 1, 0, none⟩) (by simp; omega) _)
end Go.Proofs.Ytbjgklifmillgaa
