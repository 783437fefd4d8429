/- A step of the reference. -/
import Derived.Test.YtiellefbndlkkaaStepLib
namespace Go.Proofs.Ytiellefbndlkkaa
open Go.RowKit
set_option linter.unusedVariables false

/-- The voltages after k junctions, m + 1 sections. -/
def rvAt (y f b : List Int) (s : Int) (m k : Nat) : List Int := s :: ((List.range k).map (sV y f b) ++ List.replicate (m + 1 - k) 0)
theorem rv_len (y f b : List Int) (s : Int) (m k : Nat) (h : k ≤ m + 1) : (rvAt y f b s m k).length = m + 2 := by simp [rvAt]; omega
theorem rv_set (y f b : List Int) (s : Int) (m k : Nat) (h : k < m + 1) : (rvAt y f b s m k).set (k + 1) (sV y f b k) = rvAt y f b s m (k + 1) := by
  unfold rvAt
  rw [show m + 1 - k = (m + 1 - (k + 1)) + 1 by omega, List.replicate_succ, List.set_cons_succ, set_mid _ _ _ _ k (by simp), List.range_succ, List.map_append, List.append_assoc]
  rfl
theorem rv_end (y f b : List Int) (s : Int) (m : Nat) (x : Int) : (rvAt y f b s m m).set (m + 1) x = s :: ((List.range m).map (sV y f b) ++ [x]) := by
  unfold rvAt
  rw [show m + 1 - m = 0 + 1 by omega, List.replicate_succ, List.set_cons_succ, set_mid _ _ _ _ m (by simp)]
  rfl
theorem rv_zero (y f b : List Int) (s : Int) (m : Nat) : rvAt y f b s m m = s :: ((List.range m).map (sV y f b) ++ [0]) := by
  unfold rvAt
  rw [show m + 1 - m = 0 + 1 by omega]
  rfl

theorem made_zeros (n : Nat) : madeCells #[Value.int .i64 0] (n + 1) = (Value.int .i64 0 :: List.replicate n (Value.int .i64 0)).toArray := by
  apply Array.toList_inj.1
  rw [toList_madeCells_one]
  rfl
theorem three_new (w7 : World) (a b : Value) (s : Int) (n : Nat) (rl : List Value) (hrl : List.replicate n (Value.int .i64 0) = rl) (hn : n ≤ 100000) (t t2 : TypeId) : ∃ w8, w8 = (w7.alloc (.cells #[a, b] t)).alloc (.cells (Value.int .i64 s :: rl).toArray t2) ∧ w8.cell? ⟨w7.heap.size, 0, none⟩ = some a ∧ w8.cell? ⟨w7.heap.size, 1, none⟩ = some b ∧ Below w7.heap.size w7 w8 ∧ w7.heap.size + 1 < w8.heap.size ∧
    w8.ownsRow (w7.heap.size + 1) t2 1 (.slice (some ⟨w7.heap.size + 1, 0, none⟩) (n + 1) (n + 1)) (n + 1) (icells (s :: List.replicate n 0)) := by
  subst hrl
  refine ⟨_, rfl, by go_simp, by go_simp, by (repeat' (first | (with_reducible exact Below.refl _ _) | (with_reducible assumption) | (with_reducible refine Below.drewN ?_ _) | (with_reducible refine Below.alloc ?_ ?_ _) | (with_reducible refine Below.drew ?_) | (with_reducible refine Below.setCell ?_ ?_ _) | (with_reducible refine Below.step (by assumption) ?_ ?_) | (with_reducible exact And.left (by assumption)) | go_size)), by simp, ?_⟩
  have h := owns_lit (w0 := w7.alloc (.cells #[a, b] t)) (base := w7.heap.size + 1) (B := w7.heap.size + 1) (n := n + 1) (sz := 1) (e := t2) (cs := (Value.int .i64 s :: List.replicate n (Value.int .i64 0)).toArray) (by simp) (Nat.le_refl _) (by omega) (by simp)
  simpa [icells] using h

set_option maxHeartbeats 8000000 in
set_option maxRecDepth 100000 in
theorem rstep_main2 (y f b : List Int) (s : Int) (a a1 a2 : Option Addr) (n c n1 c1 n2 c2 : Nat) (e : Bool) (w : World) (hy : IntsR w a n y) (hf : IntsR w a1 n1 f) (hb : IntsR w a2 n2 b)
    (h0 : stErr y f b = 0) (hs : wi s (-1000000) 1000000 = true) :
    Calls Try.prog 46 #[.agg #[.slice a n c, .bool e], .agg #[.slice a1 n1 c1, .slice a2 n2 c2], .int .i64 s] w (StepPost2 y f b s e n w) := by
  have hz := stErr_zero h0
  have hlz := lineErr_zero hz.1
  rw [hy.len, hf.len, hb.len] at hz
  rw [hy.len] at hlz
  have hn10 := hlz.2.1
  have HLE := Lib.hid hz.1
  obtain ⟨_, hz1, hz2, hzf, hzb⟩ := hz
  obtain rfl : n = n1 := hz1.symm
  obtain rfl : n = n2 := hz2.symm
  have HZ := Lib.hid (And.intro hlz.2.2 (And.intro hzf hzb))
  have hn0 := hlz.1
  clear hlz hzf hzb
  obtain ⟨by_, oy, rfl, hby, hcy⟩ := hy.addr hn0
  obtain ⟨bf, of, rfl, hbf, hcf⟩ := hf.addr hn0
  obtain ⟨bb, ob, rfl, hbb, hcb⟩ := hb.addr hn0
  have HCY := Lib.hid hcy
  have HCF := Lib.hid hcf
  have HCB := Lib.hid hcb
  have HL := Lib.hid (And.intro hy.len (And.intro hf.len hb.len))
  have HYY := Lib.hid hy
  have HSS := Lib.hid hs
  have hsb := wi_iff.1 hs
  have HBG := Lib.hid (fun w' => rbegin_any (some ⟨by_, oy, none⟩) n c e w' (by omega))
  have hmk : ∀ w' : World, (Instr.makeSlice 22 (.int .i64 ((n : Int) + 1)) (.int .i64 ((n : Int) + 1))).run Try.prog w' = .ok (.slice (some ⟨w'.heap.size, 0, none⟩) (n + 1) (n + 1)) (w'.alloc (.cells (Value.int .i64 0 :: List.replicate n (Value.int .i64 0)).toArray 3)) := by
    intro w'
    have := makeInts Try.prog w' 22 3 Try.underlying22 infoInt (n + 1) (by omega)
    rw [made_zeros] at this
    exact this
  generalize hrl : List.replicate n (Value.int .i64 0) = rl at hmk
  have HRL := Lib.hid hrl; clear hrl
  clear hy hf hb h0 hcy hcf hcb hs
  go_enter Try.func46, Try.ntmps46
  go_wp2_with fail
  refine (bwithin_any _ _ _ _).mono ?_
  rintro e6 w6 ⟨rfl, rfl⟩
  rw [HSS.out]
  go_wp2
  go_quiet (fail)
  go_wp2_with fail
  refine (HBG.out _).mono ?_
  rintro e7 w7 ⟨g1, g2, rfl, hb7, hg12, ho1, ho2⟩
  clear HBG
  have hz7 := hb7.size
  simp only [World.size_alloc, World.heap_drewN] at hz7
  have q0' : w7.cell? ⟨w.heap.size, 0, none⟩ = some (.slice (some ⟨by_, oy, none⟩) n c) := by { rw [cellB hb7 _ _ (by first | (simp; done) | (simp; omega) | omega)]; all_goals (first | assumption | go_simp) }; have q1' : w7.cell? ⟨w.heap.size, 1, none⟩ = some (.bool e) := by { rw [cellB hb7 _ _ (by first | (simp; done) | (simp; omega) | omega)]; all_goals (first | assumption | go_simp) }; have q2' : w7.cell? ⟨w.heap.size + 1, 0, none⟩ = some (.slice (some ⟨bf, of, none⟩) n c1) := by { rw [cellB hb7 _ _ (by first | (simp; done) | (simp; omega) | omega)]; all_goals (first | assumption | go_simp) }; have q3' : w7.cell? ⟨w.heap.size + 1, 1, none⟩ = some (.slice (some ⟨bb, ob, none⟩) n c2) := by { rw [cellB hb7 _ _ (by first | (simp; done) | (simp; omega) | omega)]; all_goals (first | assumption | go_simp) }; have p0' : w7.cell? ⟨w.heap.size + 1 + 1, 0, none⟩ = some (.slice none 0 0) := by { rw [cellB hb7 _ _ (by first | (simp; done) | (simp; omega) | omega)]; all_goals (first | assumption | go_simp) }; have p1' : w7.cell? ⟨w.heap.size + 1 + 1, 1, none⟩ = some (.slice none 0 0) := by { rw [cellB hb7 _ _ (by first | (simp; done) | (simp; omega) | omega)]; all_goals (first | assumption | go_simp) }; have f0' : w7.frozen? ⟨w.heap.size + 1 + 1, 0, none⟩ = false := by { rw [frozenB hb7 _ _ (by first | (simp; done) | (simp; omega) | omega)]; all_goals (first | assumption | go_simp) }; have f1' : w7.frozen? ⟨w.heap.size + 1 + 1, 1, none⟩ = false := by { rw [frozenB hb7 _ _ (by first | (simp; done) | (simp; omega) | omega)]; all_goals (first | assumption | go_simp) }; have l0' : w.heap.size < w7.heap.size := by { omega }; have l1' : w.heap.size + 1 < w7.heap.size := by { omega }; have l2' : w.heap.size + 1 + 1 < w7.heap.size := by { omega }
  have hbw7 : Below w.heap.size w w7 := by (repeat' (first | (with_reducible exact Below.refl _ _) | (with_reducible assumption) | (with_reducible refine Below.drewN ?_ _) | (with_reducible refine Below.alloc ?_ ?_ _) | (with_reducible refine Below.drew ?_) | (with_reducible refine Below.setCell ?_ ?_ _) | (with_reducible refine Below.step (by assumption) ?_ ?_) | (with_reducible exact And.left (by assumption)) | go_size))
  have HBW7 := Lib.hid hbw7
  clear hbw7
  have hlt1 := ho1.lt g1 rfl
  have hlt2 := ho2.lt g2 rfl
  simp only [World.size_alloc, World.heap_drewN] at hlt1 hlt2
  go_wp2
  obtain ⟨w8, hw8, x0, x1, hb78, lx, hv⟩ := three_new w7 (.slice (some ⟨g1, 0, none⟩) n n) (.slice (some ⟨g2, 0, none⟩) n n) s n rl HRL.out (by omega) 26 3
  rw [← hw8]
  clear hw8
  have hz8 := hb78.size
  have q0 : w8.cell? ⟨w.heap.size, 0, none⟩ = some (.slice (some ⟨by_, oy, none⟩) n c) := by { rw [cellB hb78 _ _ (by first | (simp; done) | (simp; omega) | omega)]; all_goals (first | assumption | go_simp) }; have q1 : w8.cell? ⟨w.heap.size, 1, none⟩ = some (.bool e) := by { rw [cellB hb78 _ _ (by first | (simp; done) | (simp; omega) | omega)]; all_goals (first | assumption | go_simp) }; have q2 : w8.cell? ⟨w.heap.size + 1, 0, none⟩ = some (.slice (some ⟨bf, of, none⟩) n c1) := by { rw [cellB hb78 _ _ (by first | (simp; done) | (simp; omega) | omega)]; all_goals (first | assumption | go_simp) }; have q3 : w8.cell? ⟨w.heap.size + 1, 1, none⟩ = some (.slice (some ⟨bb, ob, none⟩) n c2) := by { rw [cellB hb78 _ _ (by first | (simp; done) | (simp; omega) | omega)]; all_goals (first | assumption | go_simp) }; have p0 : w8.cell? ⟨w.heap.size + 1 + 1, 0, none⟩ = some (.slice none 0 0) := by { rw [cellB hb78 _ _ (by first | (simp; done) | (simp; omega) | omega)]; all_goals (first | assumption | go_simp) }; have p1 : w8.cell? ⟨w.heap.size + 1 + 1, 1, none⟩ = some (.slice none 0 0) := by { rw [cellB hb78 _ _ (by first | (simp; done) | (simp; omega) | omega)]; all_goals (first | assumption | go_simp) }; have f0 : w8.frozen? ⟨w.heap.size + 1 + 1, 0, none⟩ = false := by { rw [frozenB hb78 _ _ (by first | (simp; done) | (simp; omega) | omega)]; all_goals (first | assumption | go_simp) }; have f1 : w8.frozen? ⟨w.heap.size + 1 + 1, 1, none⟩ = false := by { rw [frozenB hb78 _ _ (by first | (simp; done) | (simp; omega) | omega)]; all_goals (first | assumption | go_simp) }; have l0 : w.heap.size < w8.heap.size := by { omega }; have l1 : w.heap.size + 1 < w8.heap.size := by { omega }; have l2 : w.heap.size + 1 + 1 < w8.heap.size := by { omega }
  have ho1' := owns_mono (base' := w.heap.size + 1 + 1 + 1) (owns_below ho1 hb78 (fun k hk => (ho1.lt k hk).2)) (by simp)
  have ho2' := owns_mono (base' := w.heap.size + 1 + 1 + 1) (owns_below ho2 hb78 (fun k hk => (ho2.lt k hk).2)) (by simp)
  have hbw8 := HBW7.out.trans (hb78.mono (by omega))
  have hg1l : w.heap.size + 1 + 1 + 1 ≤ g1 ∧ g1 < w7.heap.size := by omega
  have hg2l : w.heap.size + 1 + 1 + 1 ≤ g2 ∧ g2 < w7.heap.size := by omega
  clear ho1 ho2 hb78 q0' q1' q2' q3' p0' p1' f0' f1' l0' l1' l2' HBW7 hb7 hlt1 hlt2 hz7 HRL hmk
  generalize w7.heap.size = BX at *
  have HV := Lib.hid hv
  have HO1 := Lib.hid ho1'
  have HO2 := Lib.hid ho2'
  have HB8 := Lib.hid hbw8
  clear hv ho1' ho2' hbw8 hz8
  obtain ⟨B0, hB0⟩ : ∃ B0, B0 = b.getD 0 0 := ⟨_, rfl⟩
  have cb0 : w8.cell? ⟨bb, ob, none⟩ = some (.int .i64 B0) := by rw [cellB HB8.out _ _ hbb, hB0]; exact HCB.out 0 hn0
  have bB0 : -1000000 ≤ B0 ∧ B0 ≤ 1000000 := by rw [hB0]; exact HZ.out.2.2 _ (getD_mem (by rw [HL.out.2.2]; exact hn0))
  have hB0' := Lib.hid hB0; clear hB0
  have lg1 : g1 < w8.heap.size := by omega
  have lg2 : g2 < w8.heap.size := by omega
  have cg1 : w8.cell? ⟨g1, 0, none⟩ = some (.int .i64 0) := by rw [HO1.out.cellAt 0 (by omega)]; exact icells_get (by simpa using hn0) |>.trans (by simp [hn0])
  have fg1 := HO1.out.frozenAt 0
  refine drew_of_eq 8 (by kernel_rfl) (by kernel_rfl) ?_; simp only [List.take_succ_cons, List.take_zero, List.drop_succ_cons, List.drop_zero]; repeat go_big_quiet_step (fail)
  refine wpQuiet_nil ?_; intro m9
  go_wp2
  have HO1a := Lib.hid ((owns_drewN HO1.out m9).stored 0 (.int .i64 (s - B0))).1
  go_loopw [13] (fun i wr => ∃ k : Nat, i = .int .i64 k ∧ k + 1 ≤ n ∧ Hid (wr.ownsRow (BX + 1) 3 1 (.slice (some ⟨BX + 1, 0, none⟩) (n + 1) (n + 1)) (n + 1) (icells (rvAt y f b s (n - 1) k)))
      ∧ Hid (wr.ownsRow (w.heap.size + 1 + 1 + 1) 3 1 (.slice (some ⟨g1, 0, none⟩) n n) n (icells (fwdAt y f b s (n - 1) k)))
      ∧ Hid (wr.ownsRow (w.heap.size + 1 + 1 + 1) 3 1 (.slice (some ⟨g2, 0, none⟩) n n) n (icells (bckAt y f b (n - 1) k)))
      ∧ Hid (Below (w.heap.size + 1 + 1 + 1) w8 wr) ∧ wr.cell? ⟨BX, 0, none⟩ = some (.slice (some ⟨g1, 0, none⟩) n n) ∧ wr.cell? ⟨BX, 1, none⟩ = some (.slice (some ⟨g2, 0, none⟩) n n) ∧ BX + 1 < wr.heap.size)
    (fun i _ => n - (intOf i).toNat)
  case atStart =>
    obtain ⟨m, rfl⟩ : ∃ m, n = m + 1 := ⟨n - 1, by omega⟩
    refine ⟨0, rfl, by omega, ?_, ?_, ?_, ?_, ?_, ?_, ?_⟩
    · exact Lib.hid (ownsRow_setCell_below (owns_drewN HV.out m9) (a := ⟨g1, 0, none⟩) (by simp; omega) _)
    · have := HO1a.out
      rw [icells_set', hB0'.out, fwd_start y f b] at this
      rw [hB0'.out]
      exact Lib.hid this
    · have := ownsRow_setCell_other (owns_drewN HO2.out m9) (a := ⟨g1, 0, none⟩) (by simp [Value.ownBlock]; omega) (.int .i64 (s - B0))
      rw [bck_start] at this
      exact Lib.hid this
    · exact Lib.hid (by (repeat' (first | (with_reducible exact Below.refl _ _) | (with_reducible assumption) | (with_reducible refine Below.drewN ?_ _) | (with_reducible refine Below.alloc ?_ ?_ _) | (with_reducible refine Below.drew ?_) | (with_reducible refine Below.setCell ?_ ?_ _) | (with_reducible refine Below.step (by assumption) ?_ ?_) | (with_reducible exact And.left (by assumption)) | go_size)))
    · rw [World.cell?_setCell_other _ ⟨g1, 0, none⟩ ⟨BX, 0, none⟩ _ (by simp <;> omega), World.cell?_drewN]; exact x0
    · rw [World.cell?_setCell_other _ ⟨g1, 0, none⟩ ⟨BX, 1, none⟩ _ (by simp <;> omega), World.cell?_drewN]; exact x1
    · simp; omega
  case round =>
    obtain ⟨k, rfl, hk, hV, hO1, hO2, hBR, x0', x1', lx'⟩ := hrel
    have hbr := hBR.out
    have hzr := hbr.size
    have q0' : wr.cell? ⟨w.heap.size, 0, none⟩ = some (.slice (some ⟨by_, oy, none⟩) n c) := by { rw [cellB hbr _ _ (by first | (simp; done) | (simp; omega) | omega)]; all_goals (first | assumption | go_simp) }; have q1' : wr.cell? ⟨w.heap.size, 1, none⟩ = some (.bool e) := by { rw [cellB hbr _ _ (by first | (simp; done) | (simp; omega) | omega)]; all_goals (first | assumption | go_simp) }; have q2' : wr.cell? ⟨w.heap.size + 1, 0, none⟩ = some (.slice (some ⟨bf, of, none⟩) n c1) := by { rw [cellB hbr _ _ (by first | (simp; done) | (simp; omega) | omega)]; all_goals (first | assumption | go_simp) }; have q3' : wr.cell? ⟨w.heap.size + 1, 1, none⟩ = some (.slice (some ⟨bb, ob, none⟩) n c2) := by { rw [cellB hbr _ _ (by first | (simp; done) | (simp; omega) | omega)]; all_goals (first | assumption | go_simp) }; have p0' : wr.cell? ⟨w.heap.size + 1 + 1, 0, none⟩ = some (.slice none 0 0) := by { rw [cellB hbr _ _ (by first | (simp; done) | (simp; omega) | omega)]; all_goals (first | assumption | go_simp) }; have p1' : wr.cell? ⟨w.heap.size + 1 + 1, 1, none⟩ = some (.slice none 0 0) := by { rw [cellB hbr _ _ (by first | (simp; done) | (simp; omega) | omega)]; all_goals (first | assumption | go_simp) }; have f0' : wr.frozen? ⟨w.heap.size + 1 + 1, 0, none⟩ = false := by { rw [frozenB hbr _ _ (by first | (simp; done) | (simp; omega) | omega)]; all_goals (first | assumption | go_simp) }; have f1' : wr.frozen? ⟨w.heap.size + 1 + 1, 1, none⟩ = false := by { rw [frozenB hbr _ _ (by first | (simp; done) | (simp; omega) | omega)]; all_goals (first | assumption | go_simp) }; have l0' : w.heap.size < wr.heap.size := by { omega }; have l1' : w.heap.size + 1 < wr.heap.size := by { omega }; have l2' : w.heap.size + 1 + 1 < wr.heap.size := by { omega }
    clear cg1 fg1 lg1 lg2 cb0 x0 x1 lx q0 q1 q2 q3 p0 p1 f0 f1 l0 l1 l2
    have i0 : (0 : Int) ≤ (k : Int) := by omega
    have i1 : (k : Int) < (n : Int) := by omega
    by_cases hlt : k + 1 < n
    · have hbwr := HB8.out.trans (hbr.mono (by omega))
      obtain ⟨Y, hY⟩ : ∃ Y, Y = y.getD k 0 := ⟨_, rfl⟩
      obtain ⟨Y1, hY1⟩ : ∃ Y1, Y1 = y.getD (k + 1) 0 := ⟨_, rfl⟩
      obtain ⟨F, hF⟩ : ∃ F, F = f.getD k 0 := ⟨_, rfl⟩
      obtain ⟨B, hB⟩ : ∃ B, B = b.getD (k + 1) 0 := ⟨_, rfl⟩
      have cy : wr.cell? ⟨by_, oy + k, none⟩ = some (.int .i64 Y) := by rw [cellB hbwr _ _ hby, hY]; exact HCY.out k (by omega)
      have cy1 : wr.cell? ⟨by_, oy + (k + 1), none⟩ = some (.int .i64 Y1) := by rw [cellB hbwr _ _ hby, hY1]; exact HCY.out (k + 1) hlt
      have cf : wr.cell? ⟨bf, of + k, none⟩ = some (.int .i64 F) := by rw [cellB hbwr _ _ hbf, hF]; exact HCF.out k (by omega)
      have cb : wr.cell? ⟨bb, ob + (k + 1), none⟩ = some (.int .i64 B) := by rw [cellB hbwr _ _ hbb, hB]; exact HCB.out (k + 1) hlt
      have by1 : 1 ≤ Y ∧ Y ≤ 20 := by rw [hY]; exact HZ.out.1 _ (getD_mem (by rw [HL.out.1]; omega))
      have by2 : 1 ≤ Y1 ∧ Y1 ≤ 20 := by rw [hY1]; exact HZ.out.1 _ (getD_mem (by rw [HL.out.1]; exact hlt))
      have bf1 : -1000000 ≤ F ∧ F ≤ 1000000 := by rw [hF]; exact HZ.out.2.1 _ (getD_mem (by rw [HL.out.2.1]; omega))
      have bb1 : -1000000 ≤ B ∧ B ≤ 1000000 := by rw [hB]; exact HZ.out.2.2 _ (getD_mem (by rw [HL.out.2.2]; exact hlt))
      have eB : Hid (sB y f b k = (F * (Y - Y1) + 2 * B * Y1).tdiv (Y + Y1)) := by unfold sB g0; rw [hY, hY1, hF, hB]; exact rfl
      have eF : Hid (sF y f b k = (B * (Y1 - Y) + 2 * F * Y).tdiv (Y + Y1)) := by unfold sF g0; rw [hY, hY1, hF, hB]; exact rfl
      have eV : Hid (sV y f b k = (2 * (F * Y + B * Y1)).tdiv (Y + Y1)) := by unfold sV g0; rw [hY, hY1, hF, hB]; exact rfl
      clear hY hY1 hF hB
      have m1 := mulb (a := F) (b := Y - Y1) 1000000 20 20000000 (by omega) (by omega) (by omega) (by omega) (by omega)
      have m2 := mulb (a := 2 * B) (b := Y1) 2000000 20 40000000 (by omega) (by omega) (by omega) (by omega) (by omega)
      have m3 := mulb (a := B) (b := Y1 - Y) 1000000 20 20000000 (by omega) (by omega) (by omega) (by omega) (by omega)
      have m4 := mulb (a := 2 * F) (b := Y) 2000000 20 40000000 (by omega) (by omega) (by omega) (by omega) (by omega)
      have m5 := mulb (a := F) (b := Y) 1000000 20 20000000 (by omega) (by omega) (by omega) (by omega) (by omega)
      have m6 := mulb (a := B) (b := Y1) 1000000 20 20000000 (by omega) (by omega) (by omega) (by omega) (by omega)
      have d1 := tdiv_bd (F * (Y - Y1) + 2 * B * Y1) (Y + Y1) 100000000 (by omega) (by omega)
      have d2 := tdiv_bd (B * (Y1 - Y) + 2 * F * Y) (Y + Y1) 100000000 (by omega) (by omega)
      have d3 := tdiv_bd (2 * (F * Y + B * Y1)) (Y + Y1) 100000000 (by omega) (by omega)
      have hyy : (Y + Y1 == 0) = false := by simp; omega
      have i2 : (k : Int) + 1 < (n : Int) := by omega
      have cg2 : wr.cell? ⟨g2, k, none⟩ = some (.int .i64 ((bckAt y f b (n - 1) k).getD k 0)) := by rw [hO2.out.cellAt k (by omega)]; exact icells_get (by rw [bck_len _ _ _ _ _ (by omega)]; omega)
      have cg1 : wr.cell? ⟨g1, k + 1, none⟩ = some (.int .i64 ((fwdAt y f b s (n - 1) k).getD (k + 1) 0)) := by rw [hO1.out.cellAt (k + 1) (by omega)]; exact icells_get (by rw [fwd_len _ _ _ _ _ _ (by omega)]; omega)
      have fg2 := hO2.out.frozenAt k
      have fg1 := hO1.out.frozenAt (k + 1)
      generalize (bckAt y f b (n - 1) k).getD k 0 = z2 at cg2
      generalize (fwdAt y f b s (n - 1) k).getD (k + 1) 0 = z1 at cg1
      have cv1 : wr.cell? ⟨BX + 1, k + 1, none⟩ = some (.int .i64 ((rvAt y f b s (n - 1) k).getD (k + 1) 0)) := by rw [hV.out.cellAt (k + 1) (by omega)]; exact icells_get (by rw [rv_len _ _ _ _ _ _ (by omega)]; omega)
      have fv1 := hV.out.frozenAt (k + 1)
      generalize (rvAt y f b s (n - 1) k).getD (k + 1) 0 = z3 at cv1
      have hYY : 0 < Y + Y1 := by omega
      go_wp2
      go_quiet (fail)
      go_wp2
      refine drew_of_eq 35 (by kernel_rfl) (by kernel_rfl) ?_; simp only [List.take_succ_cons, List.take_zero, List.drop_succ_cons, List.drop_zero]; repeat go_big_quiet_step (first | exact calls_drew_gen (toZero_pos _ _ _ (by omega) (by omega) (by omega) (by omega)) | exact calls_drew_same (toZero_pos _ _ _ (by omega) (by omega) (by omega) (by omega)))
      refine wpQuiet_nil ?_; intro m7
      go_wp2
      refine drew_of_eq 35 (by kernel_rfl) (by kernel_rfl) ?_; simp only [List.take_succ_cons, List.take_zero, List.drop_succ_cons, List.drop_zero]; repeat go_big_quiet_step (first | exact calls_drew_gen (toZero_pos _ _ _ (by omega) (by omega) (by omega) (by omega)) | exact calls_drew_same (toZero_pos _ _ _ (by omega) (by omega) (by omega) (by omega)))
      refine wpQuiet_nil ?_; intro m8
      go_wp2
      refine drew_of_eq 29 (by kernel_rfl) (by kernel_rfl) ?_; simp only [List.take_succ_cons, List.take_zero, List.drop_succ_cons, List.drop_zero]; repeat go_big_quiet_step (first | exact calls_drew_gen (toZero_pos _ _ _ (by omega) (by omega) (by omega) (by omega)) | exact calls_drew_same (toZero_pos _ _ _ (by omega) (by omega) (by omega) (by omega)))
      refine wpQuiet_nil ?_; intro m11
      go_wp2
      have hov := (World.ownsRow.stored (owns_drewN (ownsRow_setCell_other (owns_drewN (ownsRow_setCell_other (owns_drewN hV.out (nq + m7)) (a := ⟨g2, k, none⟩) (by simp [Value.ownBlock]; omega) (Value.int IntKind.i64 ((F * (Y - Y1) + 2 * B * Y1).tdiv (Y + Y1)))) m8) (a := ⟨g1, k + 1, none⟩) (by simp [Value.ownBlock]; omega) (Value.int IntKind.i64 ((B * (Y1 - Y) + 2 * F * Y).tdiv (Y + Y1)))) m11) (k + 1) (Value.int IntKind.i64 ((2 * (F * Y + B * Y1)).tdiv (Y + Y1)))).1
      have ho1 := ownsRow_setCell_other (owns_drewN (World.ownsRow.stored (owns_drewN (ownsRow_setCell_other (owns_drewN hO1.out (nq + m7)) (a := ⟨g2, k, none⟩) (by simp [Value.ownBlock]; omega) (Value.int IntKind.i64 ((F * (Y - Y1) + 2 * B * Y1).tdiv (Y + Y1)))) m8) (k + 1) (Value.int IntKind.i64 ((B * (Y1 - Y) + 2 * F * Y).tdiv (Y + Y1)))).1 m11) (a := ⟨BX + 1, k + 1, none⟩) (by simp [Value.ownBlock]; omega) (Value.int IntKind.i64 ((2 * (F * Y + B * Y1)).tdiv (Y + Y1)))
      have ho2 := ownsRow_setCell_other (owns_drewN (ownsRow_setCell_other (owns_drewN (World.ownsRow.stored (owns_drewN hO2.out (nq + m7)) k (Value.int IntKind.i64 ((F * (Y - Y1) + 2 * B * Y1).tdiv (Y + Y1)))).1 m8) (a := ⟨g1, k + 1, none⟩) (by simp [Value.ownBlock]; omega) (Value.int IntKind.i64 ((B * (Y1 - Y) + 2 * F * Y).tdiv (Y + Y1)))) m11) (a := ⟨BX + 1, k + 1, none⟩) (by simp [Value.ownBlock]; omega) (Value.int IntKind.i64 ((2 * (F * Y + B * Y1)).tdiv (Y + Y1)))
      rw [icells_set', ← eF.out, ← eB.out, ← eV.out, rv_set _ _ _ _ _ _ (by omega)] at hov
      rw [icells_set', ← eF.out, ← eB.out, ← eV.out, fwd_set _ _ _ _ _ _ (by omega)] at ho1
      rw [icells_set', ← eF.out, ← eB.out, ← eV.out, bck_set _ _ _ _ _ (by omega)] at ho2
      rw [← eF.out, ← eB.out, ← eV.out]
      clear cg1 cg2 cv1 fg1 fg2 fv1 cy cy1 cf cb m1 m2 m3 m4 m5 m6 d1 d2 d3
      generalize hW : ((((((wr.drewN (nq + m7)).setCell { block := g2, off := k } (Value.int IntKind.i64 (sB y f b k))).drewN m8).setCell { block := g1, off := k + 1 } (Value.int IntKind.i64 (sF y f b k))).drewN m11).setCell { block := BX + 1, off := k + 1 } (Value.int IntKind.i64 (sV y f b k))) = wz at *
      have hbz : Below (w.heap.size + 1 + 1 + 1) wr wz := by
        rw [← hW]
        (repeat' (first | (with_reducible exact Below.refl _ _) | (with_reducible assumption) | (with_reducible refine Below.drewN ?_ _) | (with_reducible refine Below.alloc ?_ ?_ _) | (with_reducible refine Below.drew ?_) | (with_reducible refine Below.setCell ?_ ?_ _) | (with_reducible refine Below.step (by assumption) ?_ ?_) | (with_reducible exact And.left (by assumption)) | go_size))
      refine ⟨⟨k + 1, by go_num, by omega, Lib.hid hov, Lib.hid ho1, Lib.hid ho2, Lib.hid (hbr.trans hbz), ?_, ?_, ?_⟩, by simp [intOf]; omega⟩
      · rw [← hW]
        repeat (first | rw [World.cell?_drewN] | rw [World.cell?_drew] | rw [World.cell?_setCell_other _ ⟨g2, k, none⟩ ⟨BX, 0, none⟩ _ (by simp <;> omega)] | rw [World.cell?_setCell_other _ ⟨g1, k + 1, none⟩ ⟨BX, 0, none⟩ _ (by simp <;> omega)] | rw [World.cell?_setCell_other _ ⟨BX + 1, k + 1, none⟩ ⟨BX, 0, none⟩ _ (by simp <;> omega)])
        exact x0'
      · rw [← hW]
        repeat (first | rw [World.cell?_drewN] | rw [World.cell?_drew] | rw [World.cell?_setCell_other _ ⟨g2, k, none⟩ ⟨BX, 1, none⟩ _ (by simp <;> omega)] | rw [World.cell?_setCell_other _ ⟨g1, k + 1, none⟩ ⟨BX, 1, none⟩ _ (by simp <;> omega)] | rw [World.cell?_setCell_other _ ⟨BX + 1, k + 1, none⟩ ⟨BX, 1, none⟩ _ (by simp <;> omega)])
        exact x1'
      · have := hbz.size
        omega
    · have hkn : (n : Int) - 1 = (k : Int) := by omega
      have hbwr := HB8.out.trans (hbr.mono (by omega))
      obtain ⟨F, hF⟩ : ∃ F, F = f.getD k 0 := ⟨_, rfl⟩
      have cf : wr.cell? ⟨bf, of + k, none⟩ = some (.int .i64 F) := by rw [cellB hbwr _ _ hbf, hF]; exact HCF.out k (by omega)
      have bf1 : -1000000 ≤ F ∧ F ≤ 1000000 := by rw [hF]; exact HZ.out.2.1 _ (getD_mem (by rw [HL.out.2.1]; omega))
      have hF' := Lib.hid hF; clear hF hbwr
      have cg2 : wr.cell? ⟨g2, k, none⟩ = some (.int .i64 ((bckAt y f b (n - 1) k).getD k 0)) := by rw [hO2.out.cellAt k (by omega)]; exact icells_get (by rw [bck_len _ _ _ _ _ (by omega)]; omega)
      have fg2 := hO2.out.frozenAt k
      have cv1 : wr.cell? ⟨BX + 1, n, none⟩ = some (.int .i64 ((rvAt y f b s (n - 1) k).getD n 0)) := by rw [hV.out.cellAt n (by omega)]; exact icells_get (by rw [rv_len _ _ _ _ _ _ (by omega)]; omega)
      have fv1 := hV.out.frozenAt n
      generalize (bckAt y f b (n - 1) k).getD k 0 = z2 at cg2
      generalize (rvAt y f b s (n - 1) k).getD n 0 = z3 at cv1
      have hy1 : y.length = k + 1 := by rw [HL.out.1]; omega
      have hnk : n - 1 = k := by omega
      have HV := hV.out
      have HO1 := hO1.out
      have HO2 := hO2.out
      rw [hnk] at HV HO1 HO2
      rw [fin_F hy1] at HO1
      have HV := Lib.hid HV
      have HO1 := Lib.hid HO1
      have HO2 := Lib.hid HO2
      have Hnk := Lib.hid (show n = k + 1 by omega)
      have Hy1 := Lib.hid hy1
      have i2 : (n : Int) < (n : Int) + 1 := by omega
      have i3 : (0 : Int) ≤ (n : Int) := by omega
      clear hnk hy1
      cases e
      · go_wp2
        have ok0 : OkB BX (BX + 1) g2 := ⟨by omega, by omega⟩
        have ok1 : OkB (w.heap.size + 1) (BX + 1) g2 := ⟨by omega, by omega⟩
        have ok2 : OkB bf (BX + 1) g2 := ⟨by omega, by omega⟩
        refine wp_region_laterX (B := BX + 1) (b0 :=  g2) [0, 1, 2, 3, 4, 5, 6, 7, 8, 9, 10, 11, 12, 13, 14, 15, 16, 17, 18, 19] [20, 21, 22] (by kernel_rfl) (by kernel_rfl) ?_; simp only [List.filterMap_cons, List.filterMap_nil, List.getElem?_cons_zero, List.getElem?_cons_succ]; repeat (show wpQuiet _ _ _ _ (_ :: _) _; go_big_quiet_step (fail))
        refine wpQuiet_nil ?_
        refine wpTail_cons ?_
        go_wp2_with (fail)
        refine tailX_mk (.set (.drew (fun _ _ _ _ => rfl)) _) ?_
        refine wpTail_cons ?_
        go_wp2_with (fail)
        refine tailX_mk (.set (.drew (fun _ _ _ _ => rfl)) _) ?_
        refine wpTail_cons ?_
        go_wp2_with (fail)
        refine tailX_mk (.above (.set (.drew (fun _ _ _ _ => rfl)) _) (Nat.le_refl _) _) ?_
        refine wpTail_nil ?_
        go_wp2_with (fail)
        have ho1 := ownsRow_setCell_other (ownsRow_setCell_other HO1.out (a := ⟨g2, k, none⟩) (by simp [Value.ownBlock]; omega) (.int .i64 F)) (a := ⟨BX + 1, n, none⟩) (by simp [Value.ownBlock]; omega) (.int .i64 (2 * F))
        have ho2 := ownsRow_setCell_other (World.ownsRow.stored HO2.out k (.int .i64 F)).1 (a := ⟨BX + 1, n, none⟩) (by simp [Value.ownBlock]; omega) (.int .i64 (2 * F))
        have hov := ((ownsRow_setCell_other HV.out (a := ⟨g2, k, none⟩) (by simp [Value.ownBlock]; omega) (.int .i64 F)).stored n (.int .i64 (2 * F))).1
        rw [icells_set', fin_B false F Hy1.out hF'.out] at ho2
        rw [icells_set', show (rvAt y f b s k k).set n (2 * F) = outV y f b s false by rw [Hnk.out, rv_end]; unfold outV; rw [Hy1.out, hF'.out]; rfl] at hov
        have ho1 := owns_heap (w' := ((wr.setCell { block := g2, off := k } (Value.int IntKind.i64 F)).setCell { block := BX + 1, off := n } (Value.int IntKind.i64 (2 * F))).drew) ho1 rfl
        have ho2 := owns_heap (w' := ((wr.setCell { block := g2, off := k } (Value.int IntKind.i64 F)).setCell { block := BX + 1, off := n } (Value.int IntKind.i64 (2 * F))).drew) ho2 rfl
        have hov := owns_heap (w' := ((wr.setCell { block := g2, off := k } (Value.int IntKind.i64 F)).setCell { block := BX + 1, off := n } (Value.int IntKind.i64 (2 * F))).drew) hov rfl
        generalize hwz : ((wr.setCell { block := g2, off := k } (Value.int IntKind.i64 F)).setCell { block := BX + 1, off := n } (Value.int IntKind.i64 (2 * F))).drew = wz at *
        have HO1z := Lib.hid ho1
        have HO2z := Lib.hid ho2
        have HVz := Lib.hid hov
        clear ho1 ho2 hov cf cg2 fg2 cv1 fv1 HO1 HO2 HV
        have hsz : wz.heap.size = wr.heap.size := by rw [← hwz]; simp
        have hbz : Below (w.heap.size + 1 + 1 + 1) wr wz := by
          rw [← hwz]
          (repeat' (first | (with_reducible exact Below.refl _ _) | (with_reducible assumption) | (with_reducible refine Below.drewN ?_ _) | (with_reducible refine Below.alloc ?_ ?_ _) | (with_reducible refine Below.drew ?_) | (with_reducible refine Below.setCell ?_ ?_ _) | (with_reducible refine Below.step (by assumption) ?_ ?_) | (with_reducible exact And.left (by assumption)) | go_size))
        have x0z : wz.cell? ⟨BX, 0, none⟩ = some (.slice (some ⟨g1, 0, none⟩) n n) := by
          rw [← hwz]
          repeat (first | rw [World.cell?_drewN] | rw [World.cell?_drew] | rw [World.cell?_setCell_other _ ⟨g2, k, none⟩ ⟨BX, 0, none⟩ _ (by simp <;> omega)] | rw [World.cell?_setCell_other _ ⟨BX + 1, n, none⟩ ⟨BX, 0, none⟩ _ (by simp <;> omega)])
          exact x0'
        have x1z : wz.cell? ⟨BX, 1, none⟩ = some (.slice (some ⟨g2, 0, none⟩) n n) := by
          rw [← hwz]
          repeat (first | rw [World.cell?_drewN] | rw [World.cell?_drew] | rw [World.cell?_setCell_other _ ⟨g2, k, none⟩ ⟨BX, 1, none⟩ _ (by simp <;> omega)] | rw [World.cell?_setCell_other _ ⟨BX + 1, n, none⟩ ⟨BX, 1, none⟩ _ (by simp <;> omega)])
          exact x1'
        clear hwz
        have p0 : wz.cell? ⟨w.heap.size + 1 + 1, 0, none⟩ = some (.slice none 0 0) := by { rw [cellB hbz _ _ (by first | (simp; done) | (simp; omega) | omega)]; all_goals (first | assumption | go_simp) }; have p1 : wz.cell? ⟨w.heap.size + 1 + 1, 1, none⟩ = some (.slice none 0 0) := by { rw [cellB hbz _ _ (by first | (simp; done) | (simp; omega) | omega)]; all_goals (first | assumption | go_simp) }; have f0 : wz.frozen? ⟨w.heap.size + 1 + 1, 0, none⟩ = false := by { rw [frozenB hbz _ _ (by first | (simp; done) | (simp; omega) | omega)]; all_goals (first | assumption | go_simp) }; have f1 : wz.frozen? ⟨w.heap.size + 1 + 1, 1, none⟩ = false := by { rw [frozenB hbz _ _ (by first | (simp; done) | (simp; omega) | omega)]; all_goals (first | assumption | go_simp) }; have l2 : w.heap.size + 1 + 1 < wz.heap.size := by { omega }; have l3 : BX < wz.heap.size := by { omega }
        have HBY := Lib.hid (Below.trans (HB8.out.trans (hbr.mono (by omega))) (hbz.mono (by omega)))
        have HFO := Lib.hid (SlR.of_owns HO1z.out : IntsR wz (some ⟨g1, 0, none⟩) n (outF y f b s))
        have HBO := Lib.hid (SlR.of_owns HO2z.out : IntsR wz (some ⟨g2, 0, none⟩) n (outB y f b false))
        have HEQ := Lib.hid (stErr_waves HLE.out (by rw [IntsR.len HFO.out, HL.out.1]) (by rw [IntsR.len HBO.out, HL.out.1]) : stErr y (outF y f b s) (outB y f b false) = if wErr (outF y f b s) ≠ 0 then wErr (outF y f b s) else wErr (outB y f b false))
        clear hbz hbr q0' q1' q2' q3' p0' p1' f0' f1' l0' l1' l2' x0' x1' lx' hBR hO1 hO2 hV hkn
        refine (wavesErr_any _ _ _ _ _ HFO.out).mono ?_
        rintro e9 w9 ⟨rfl, rfl⟩
        by_cases hE : wErr (outF y f b s) = 0
        · rw [hE]
          have HE := Lib.hid hE
          clear hE
          go_wp2_with (fail)
          refine (wavesErr_any _ _ _ _ _ HBO.out).mono ?_
          rintro e9 w9 ⟨rfl, rfl⟩
          by_cases hE2 : wErr (outB y f b false) = 0
          · rw [hE2]
            have HE2 := Lib.hid hE2
            clear hE2
            go_wp2
            refine bodyPost_ret (v := .tuple #[.agg #[.slice (some ⟨g1, 0, none⟩) n n, .slice (some ⟨g2, 0, none⟩) n n], .slice (some ⟨BX + 1, 0, none⟩) (n + 1) (n + 1), .int .i64 0]) (by simp [results, Try.results46, go_sem, p0, p1]) rfl ⟨?_, .inr ⟨by rw [HEQ.out, HE.out, HE2.out]; rfl, g1, g2, _, _, rfl, ?_, ?_, ?_⟩⟩
            · have := HBY.out
              (repeat' (first | (with_reducible exact Below.refl _ _) | (with_reducible assumption) | (with_reducible refine Below.drewN ?_ _) | (with_reducible refine Below.alloc ?_ ?_ _) | (with_reducible refine Below.drew ?_) | (with_reducible refine Below.setCell ?_ ?_ _) | (with_reducible refine Below.step (by assumption) ?_ ?_) | (with_reducible exact And.left (by assumption)) | go_size))
            · refine owns_mono (base := w.heap.size + 1 + 1 + 1) (ownsRow_setCell_other (ownsRow_setCell_other HO1z.out (a := ⟨w.heap.size + 1 + 1, 0, none⟩) ?_ _) (a := ⟨w.heap.size + 1 + 1, 1, none⟩) ?_ _) ?_ <;> (try simp [Value.ownBlock] at *) <;> omega
            · refine owns_mono (base := w.heap.size + 1 + 1 + 1) (ownsRow_setCell_other (ownsRow_setCell_other HO2z.out (a := ⟨w.heap.size + 1 + 1, 0, none⟩) ?_ _) (a := ⟨w.heap.size + 1 + 1, 1, none⟩) ?_ _) ?_ <;> (try simp [Value.ownBlock] at *) <;> omega
            · exact owns_mono (base := BX + 1) (ownsRow_setCell_below (ownsRow_setCell_below HVz.out (a := ⟨w.heap.size + 1 + 1, 0, none⟩) (by simp; omega) _) (a := ⟨w.heap.size + 1 + 1, 1, none⟩) (by simp; omega) _) (by omega)
          · have hE' : (wErr (outB y f b false) != 0) = true := by simpa using hE2
            have HE2 := Lib.hid hE2
            generalize hEE : wErr (outB y f b false) = EE at hE'
            clear hE2 hEE
            go_wp2
            refine bodyPost_ret (v := .tuple #[.agg #[.slice none 0 0, .slice none 0 0], .slice none 0 0, .int .i64 22]) (by simp [results, Try.results46, go_sem, p0, p1]) rfl ⟨?_, .inl ⟨by rw [HEQ.out, HE.out]; simpa using HE2.out, rfl⟩⟩
            have := HBY.out
            (repeat' (first | (with_reducible exact Below.refl _ _) | (with_reducible assumption) | (with_reducible refine Below.drewN ?_ _) | (with_reducible refine Below.alloc ?_ ?_ _) | (with_reducible refine Below.drew ?_) | (with_reducible refine Below.setCell ?_ ?_ _) | (with_reducible refine Below.step (by assumption) ?_ ?_) | (with_reducible exact And.left (by assumption)) | go_size))
        · have hE' : (wErr (outF y f b s) != 0) = true := by simpa using hE
          have HE := Lib.hid hE
          generalize hEE : wErr (outF y f b s) = EE at hE'
          clear hE hEE
          go_wp2
          refine bodyPost_ret (v := .tuple #[.agg #[.slice none 0 0, .slice none 0 0], .slice none 0 0, .int .i64 22]) (by simp [results, Try.results46, go_sem, p0, p1]) rfl ⟨?_, .inl ⟨by rw [HEQ.out, if_pos HE.out]; exact HE.out, rfl⟩⟩
          have := HBY.out
          (repeat' (first | (with_reducible exact Below.refl _ _) | (with_reducible assumption) | (with_reducible refine Below.drewN ?_ _) | (with_reducible refine Below.alloc ?_ ?_ _) | (with_reducible refine Below.drew ?_) | (with_reducible refine Below.setCell ?_ ?_ _) | (with_reducible refine Below.step (by assumption) ?_ ?_) | (with_reducible exact And.left (by assumption)) | go_size))
      · go_wp2
        refine drew_of_eq 11 (by kernel_rfl) (by kernel_rfl) ?_; simp only [List.take_succ_cons, List.take_zero, List.drop_succ_cons, List.drop_zero]; repeat go_big_quiet_step (fail)
        refine wpQuiet_nil ?_; intro m7
        go_wp2_with (fail)
        have ho1 := ownsRow_setCell_other (owns_drewN HO1.out m7) (a := ⟨g2, k, none⟩) (by simp [Value.ownBlock]; omega) (.int .i64 (-F))
        have ho2 := ((owns_drewN HO2.out m7).stored k (.int .i64 (-F))).1
        have hov := ownsRow_setCell_other (owns_drewN HV.out m7) (a := ⟨g2, k, none⟩) (by simp [Value.ownBlock]; omega) (.int .i64 (-F))
        rw [icells_set', fin_B true (-F) Hy1.out (by rw [hF'.out]; rfl)] at ho2
        rw [show rvAt y f b s k k = outV y f b s true by rw [rv_zero]; unfold outV; rw [Hy1.out]; rfl] at hov
        generalize hwz : ((wr.drewN m7).setCell { block := g2, off := k } (Value.int IntKind.i64 (-F))) = wz at *
        have HO1z := Lib.hid ho1
        have HO2z := Lib.hid ho2
        have HVz := Lib.hid hov
        clear ho1 ho2 hov cf cg2 fg2 cv1 fv1 HO1 HO2 HV
        have hsz : wz.heap.size = wr.heap.size := by rw [← hwz]; simp
        have hbz : Below (w.heap.size + 1 + 1 + 1) wr wz := by
          rw [← hwz]
          (repeat' (first | (with_reducible exact Below.refl _ _) | (with_reducible assumption) | (with_reducible refine Below.drewN ?_ _) | (with_reducible refine Below.alloc ?_ ?_ _) | (with_reducible refine Below.drew ?_) | (with_reducible refine Below.setCell ?_ ?_ _) | (with_reducible refine Below.step (by assumption) ?_ ?_) | (with_reducible exact And.left (by assumption)) | go_size))
        have x0z : wz.cell? ⟨BX, 0, none⟩ = some (.slice (some ⟨g1, 0, none⟩) n n) := by
          rw [← hwz]
          repeat (first | rw [World.cell?_drewN] | rw [World.cell?_drew] | rw [World.cell?_setCell_other _ ⟨g2, k, none⟩ ⟨BX, 0, none⟩ _ (by simp <;> omega)] | rw [World.cell?_setCell_other _ ⟨BX + 1, n, none⟩ ⟨BX, 0, none⟩ _ (by simp <;> omega)])
          exact x0'
        have x1z : wz.cell? ⟨BX, 1, none⟩ = some (.slice (some ⟨g2, 0, none⟩) n n) := by
          rw [← hwz]
          repeat (first | rw [World.cell?_drewN] | rw [World.cell?_drew] | rw [World.cell?_setCell_other _ ⟨g2, k, none⟩ ⟨BX, 1, none⟩ _ (by simp <;> omega)] | rw [World.cell?_setCell_other _ ⟨BX + 1, n, none⟩ ⟨BX, 1, none⟩ _ (by simp <;> omega)])
          exact x1'
        clear hwz
        have p0 : wz.cell? ⟨w.heap.size + 1 + 1, 0, none⟩ = some (.slice none 0 0) := by { rw [cellB hbz _ _ (by first | (simp; done) | (simp; omega) | omega)]; all_goals (first | assumption | go_simp) }; have p1 : wz.cell? ⟨w.heap.size + 1 + 1, 1, none⟩ = some (.slice none 0 0) := by { rw [cellB hbz _ _ (by first | (simp; done) | (simp; omega) | omega)]; all_goals (first | assumption | go_simp) }; have f0 : wz.frozen? ⟨w.heap.size + 1 + 1, 0, none⟩ = false := by { rw [frozenB hbz _ _ (by first | (simp; done) | (simp; omega) | omega)]; all_goals (first | assumption | go_simp) }; have f1 : wz.frozen? ⟨w.heap.size + 1 + 1, 1, none⟩ = false := by { rw [frozenB hbz _ _ (by first | (simp; done) | (simp; omega) | omega)]; all_goals (first | assumption | go_simp) }; have l2 : w.heap.size + 1 + 1 < wz.heap.size := by { omega }; have l3 : BX < wz.heap.size := by { omega }
        have HBY := Lib.hid (Below.trans (HB8.out.trans (hbr.mono (by omega))) (hbz.mono (by omega)))
        have HFO := Lib.hid (SlR.of_owns HO1z.out : IntsR wz (some ⟨g1, 0, none⟩) n (outF y f b s))
        have HBO := Lib.hid (SlR.of_owns HO2z.out : IntsR wz (some ⟨g2, 0, none⟩) n (outB y f b true))
        have HEQ := Lib.hid (stErr_waves HLE.out (by rw [IntsR.len HFO.out, HL.out.1]) (by rw [IntsR.len HBO.out, HL.out.1]) : stErr y (outF y f b s) (outB y f b true) = if wErr (outF y f b s) ≠ 0 then wErr (outF y f b s) else wErr (outB y f b true))
        clear hbz hbr q0' q1' q2' q3' p0' p1' f0' f1' l0' l1' l2' x0' x1' lx' hBR hO1 hO2 hV hkn
        refine (wavesErr_any _ _ _ _ _ HFO.out).mono ?_
        rintro e9 w9 ⟨rfl, rfl⟩
        by_cases hE : wErr (outF y f b s) = 0
        · rw [hE]
          have HE := Lib.hid hE
          clear hE
          go_wp2_with (fail)
          refine (wavesErr_any _ _ _ _ _ HBO.out).mono ?_
          rintro e9 w9 ⟨rfl, rfl⟩
          by_cases hE2 : wErr (outB y f b true) = 0
          · rw [hE2]
            have HE2 := Lib.hid hE2
            clear hE2
            go_wp2
            refine bodyPost_ret (v := .tuple #[.agg #[.slice (some ⟨g1, 0, none⟩) n n, .slice (some ⟨g2, 0, none⟩) n n], .slice (some ⟨BX + 1, 0, none⟩) (n + 1) (n + 1), .int .i64 0]) (by simp [results, Try.results46, go_sem, p0, p1]) rfl ⟨?_, .inr ⟨by rw [HEQ.out, HE.out, HE2.out]; rfl, g1, g2, _, _, rfl, ?_, ?_, ?_⟩⟩
            · have := HBY.out
              (repeat' (first | (with_reducible exact Below.refl _ _) | (with_reducible assumption) | (with_reducible refine Below.drewN ?_ _) | (with_reducible refine Below.alloc ?_ ?_ _) | (with_reducible refine Below.drew ?_) | (with_reducible refine Below.setCell ?_ ?_ _) | (with_reducible refine Below.step (by assumption) ?_ ?_) | (with_reducible exact And.left (by assumption)) | go_size))
            · refine owns_mono (base := w.heap.size + 1 + 1 + 1) (ownsRow_setCell_other (ownsRow_setCell_other HO1z.out (a := ⟨w.heap.size + 1 + 1, 0, none⟩) ?_ _) (a := ⟨w.heap.size + 1 + 1, 1, none⟩) ?_ _) ?_ <;> (try simp [Value.ownBlock] at *) <;> omega
            · refine owns_mono (base := w.heap.size + 1 + 1 + 1) (ownsRow_setCell_other (ownsRow_setCell_other HO2z.out (a := ⟨w.heap.size + 1 + 1, 0, none⟩) ?_ _) (a := ⟨w.heap.size + 1 + 1, 1, none⟩) ?_ _) ?_ <;> (try simp [Value.ownBlock] at *) <;> omega
            · exact owns_mono (base := BX + 1) (ownsRow_setCell_below (ownsRow_setCell_below HVz.out (a := ⟨w.heap.size + 1 + 1, 0, none⟩) (by simp; omega) _) (a := ⟨w.heap.size + 1 + 1, 1, none⟩) (by simp; omega) _) (by omega)
          · have hE' : (wErr (outB y f b true) != 0) = true := by simpa using hE2
            have HE2 := Lib.hid hE2
            generalize hEE : wErr (outB y f b true) = EE at hE'
            clear hE2 hEE
            go_wp2
            refine bodyPost_ret (v := .tuple #[.agg #[.slice none 0 0, .slice none 0 0], .slice none 0 0, .int .i64 22]) (by simp [results, Try.results46, go_sem, p0, p1]) rfl ⟨?_, .inl ⟨by rw [HEQ.out, HE.out]; simpa using HE2.out, rfl⟩⟩
            have := HBY.out
            (repeat' (first | (with_reducible exact Below.refl _ _) | (with_reducible assumption) | (with_reducible refine Below.drewN ?_ _) | (with_reducible refine Below.alloc ?_ ?_ _) | (with_reducible refine Below.drew ?_) | (with_reducible refine Below.setCell ?_ ?_ _) | (with_reducible refine Below.step (by assumption) ?_ ?_) | (with_reducible exact And.left (by assumption)) | go_size))
        · have hE' : (wErr (outF y f b s) != 0) = true := by simpa using hE
          have HE := Lib.hid hE
          generalize hEE : wErr (outF y f b s) = EE at hE'
          clear hE hEE
          go_wp2
          refine bodyPost_ret (v := .tuple #[.agg #[.slice none 0 0, .slice none 0 0], .slice none 0 0, .int .i64 22]) (by simp [results, Try.results46, go_sem, p0, p1]) rfl ⟨?_, .inl ⟨by rw [HEQ.out, if_pos HE.out]; exact HE.out, rfl⟩⟩
          have := HBY.out
          (repeat' (first | (with_reducible exact Below.refl _ _) | (with_reducible assumption) | (with_reducible refine Below.drewN ?_ _) | (with_reducible refine Below.alloc ?_ ?_ _) | (with_reducible refine Below.drew ?_) | (with_reducible refine Below.setCell ?_ ?_ _) | (with_reducible refine Below.step (by assumption) ?_ ?_) | (with_reducible exact And.left (by assumption)) | go_size))
theorem rstep_main (y f b : List Int) (s : Int) (a a1 a2 : Option Addr) (n c n1 c1 n2 c2 : Nat) (e : Bool) (w : World) (hy : IntsR w a n y) (hf : IntsR w a1 n1 f) (hb : IntsR w a2 n2 b)
    (h0 : stErr y f b = 0) (hs : wi s (-1000000) 1000000 = true) :
    Calls Try.prog 46 #[.agg #[.slice a n c, .bool e], .agg #[.slice a1 n1 c1, .slice a2 n2 c2], .int .i64 s] w (StepPost y f b s e n w) :=
  (rstep_main2 y f b s a a1 a2 n c n1 c1 n2 c2 e w hy hf hb h0 hs).mono fun _ _ h => h.weak
end Go.Proofs.Ytiellefbndlkkaa
