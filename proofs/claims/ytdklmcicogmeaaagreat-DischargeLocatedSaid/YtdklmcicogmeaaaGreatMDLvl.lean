import Derived.Shelf.Sort.Plain
import Derived.Sort.OwnSortedInts
import Derived.Deep.CutRange
import Derived.Test.YtdklmcicogmeaaaGreatDSer
import Derived.Test.YtdklmcicogmeaaaGreatMDSubs
import Derived.Test.YtdklmcicogmeaaaGreatMPlain0
/- The level of a series: the greatest size that enough pulses reach. No program in sight. -/
namespace Go.Proofs.YtdklmcicogmeaaaGreat
set_option linter.unusedVariables false

def cge (l : List Int) (q : Int) : Nat := l.countP (fun x => decide (q ≤ x))
def srt (l : List Int) : List Int := l.mergeSort (fun x y => decide (x ≤ y))
theorem srt_perm (l : List Int) : (srt l).Perm l := List.mergeSort_perm l _
theorem srt_len (l : List Int) : (srt l).length = l.length := (srt_perm l).length_eq
theorem srt_sorted (l : List Int) : (srt l).Pairwise (fun x y => x ≤ y) := by
  have h := List.pairwise_mergeSort (le := fun x y : Int => decide (x ≤ y)) (fun a b c h1 h2 => by simp at *; omega) (fun a b => by simp; omega) l
  exact h.imp (fun h => by simpa using h)
theorem cge_srt (l : List Int) (q : Int) : cge (srt l) q = cge l q := (srt_perm l).countP_eq _
/-- The level by so many pulses. -/
def lvlOf (l : List Int) (m : Nat) : Int := (srt l).getD (l.length - m) 0
theorem sorted_get {S : List Int} (h : S.Pairwise (fun x y => x ≤ y)) {i j : Nat} (hij : i ≤ j) (hj : j < S.length) : S.getD i 0 ≤ S.getD j 0 := by
  rcases Nat.lt_or_ge i j with h1 | h1
  · have := List.pairwise_iff_getElem.1 h i j (by omega) hj h1
    simpa [List.getD, hj, show i < S.length by omega] using this
  · have : i = j := by omega
    subst this; exact Int.le_refl _
theorem lvl_spec {l : List Int} {m : Nat} (h0 : 1 ≤ m) (h1 : m ≤ l.length) : m ≤ cge l (lvlOf l m) ∧ (∀ q, lvlOf l m < q → cge l q < m) ∧ lvlOf l m ∈ l := by
  obtain ⟨S, hS⟩ : ∃ S, S = srt l := ⟨_, rfl⟩
  have hl : S.length = l.length := by rw [hS, srt_len]
  have hs := srt_sorted l
  have hv : lvlOf l m = S.getD (l.length - m) 0 := by rw [hS]; rfl
  rw [← hS] at hs
  have hk : l.length - m < S.length := by omega
  refine ⟨?_, fun q hq => ?_, ?_⟩
  · rw [← cge_srt, ← hS, hv]
    have hd : cge S (S.getD (l.length - m) 0) ≥ cge (S.drop (l.length - m)) (S.getD (l.length - m) 0) := by
      unfold cge
      exact List.Sublist.countP_le (List.drop_sublist _ _)
    have ha : cge (S.drop (l.length - m)) (S.getD (l.length - m) 0) = (S.drop (l.length - m)).length := by
      unfold cge
      rw [List.countP_eq_length]
      intro x hx
      obtain ⟨i, hi, rfl⟩ := List.mem_iff_getElem.1 hx
      rw [List.length_drop] at hi
      have := sorted_get hs (i := l.length - m) (j := l.length - m + i) (by omega) (by omega)
      rw [List.getElem_drop]
      simp only [decide_eq_true_eq]
      simpa [List.getD, show l.length - m + i < S.length by omega] using this
    rw [ha, List.length_drop] at hd
    omega
  · rw [← cge_srt, ← hS]
    rw [hv] at hq
    have hsplit : cge S q = cge (S.take (l.length - m + 1)) q + cge (S.drop (l.length - m + 1)) q := by
      unfold cge
      rw [← List.countP_append, List.take_append_drop]
    have hz : cge (S.take (l.length - m + 1)) q = 0 := by
      unfold cge
      rw [List.countP_eq_zero]
      intro x hx
      obtain ⟨i, hi, rfl⟩ := List.mem_iff_getElem.1 hx
      rw [List.length_take] at hi
      have := sorted_get hs (i := i) (j := l.length - m) (by omega) hk
      rw [List.getElem_take]
      have e : S.getD i 0 = S[i]'(by omega) := by simp [List.getD, show i < S.length by omega]
      rw [e] at this
      simp only [decide_eq_true_eq]
      omega
    have hd : cge (S.drop (l.length - m + 1)) q ≤ (S.drop (l.length - m + 1)).length := by
      unfold cge
      exact List.countP_le_length
    rw [List.length_drop] at hd
    omega
  · rw [hv]
    have h2 : S.getD (l.length - m) 0 ∈ S := getD_mem hk
    exact (srt_perm l).mem_iff.1 (hS ▸ h2)
theorem lvl_unique {l : List Int} {m : Nat} (h0 : 1 ≤ m) (h1 : m ≤ l.length) {q : Int} (hq : m ≤ cge l q) (hq2 : ∀ r, q < r → cge l r < m) : q = lvlOf l m := by
  obtain ⟨h2, h3, _⟩ := lvl_spec h0 h1
  rcases Int.lt_trichotomy q (lvlOf l m) with h | h | h
  · have := hq2 _ h; omega
  · exact h
  · have := h3 _ h; omega
end Go.Proofs.YtdklmcicogmeaaaGreat

/- The contracts of slices.Sort at integers, laid at this program (a tool of the kit wrote these rows). -/
namespace Go.Proofs.YtdklmcicogmeaaaGreat
open Go.Shelf Go.RowKit Go.Proofs
set_option linter.unusedVariables false
def sortInts_ren : Go.Shelf.Ren := ⟨fun | 189 => 86 | 125 => 117 | 257 => 120 | 128 => 146 | 129 => 147 | 294 => 148 | 295 => 149 | 296 => 150 | 297 => 151 | 298 => 152 | 299 => 153 | 216 => 154 | 300 => 155 | 301 => 156 | 328 => 166 | 329 => 162 | 330 => 163 | 331 => 167 | 332 => 168 | 215 => 118 | 343 => 171 | n => n, fun | 28 => 27 | 3 => 3 | 46 => 188 | 0 => 0 | 51 => 210 | 53 => 212 | 4 => 4 | 183 => 203 | 182 => 202 | 131 => 207 | 5 => 5 | 9 => 9 | 218 => 223 | 222 => 197 | 228 => 231 | 229 => 67 | n => n, fun | n => n⟩
theorem sortInts : Go.Proofs.Lays.n189 Tryz.prog sortInts_ren := {
  mixed := by kernel_rfl
  f125 := Tryz.func117.trans (congrArg some (by kernel_rfl))
  f128 := Tryz.func146.trans (congrArg some (by kernel_rfl))
  f129 := Tryz.func147.trans (congrArg some (by kernel_rfl))
  f189 := Tryz.func86.trans (congrArg some (by kernel_rfl))
  f215 := Tryz.func118.trans (congrArg some (by kernel_rfl))
  f216 := Tryz.func154.trans (congrArg some (by kernel_rfl))
  f257 := Tryz.func120.trans (congrArg some (by kernel_rfl))
  f294 := Tryz.func148.trans (congrArg some (by kernel_rfl))
  f295 := Tryz.func149.trans (congrArg some (by kernel_rfl))
  f296 := Tryz.func150.trans (congrArg some (by kernel_rfl))
  f297 := Tryz.func151.trans (congrArg some (by kernel_rfl))
  f298 := Tryz.func152.trans (congrArg some (by kernel_rfl))
  f299 := Tryz.func153.trans (congrArg some (by kernel_rfl))
  f300 := Tryz.func155.trans (congrArg some (by kernel_rfl))
  f301 := Tryz.func156.trans (congrArg some (by kernel_rfl))
  f328 := Tryz.func166.trans (congrArg some (by kernel_rfl))
  f329 := Tryz.func162.trans (congrArg some (by kernel_rfl))
  f330 := Tryz.func163.trans (congrArg some (by kernel_rfl))
  f331 := Tryz.func167.trans (congrArg some (by kernel_rfl))
  f332 := Tryz.func168.trans (congrArg some (by kernel_rfl))
  f343 := Tryz.func171.trans (congrArg some (by kernel_rfl))
  t0 := Tryz.underlying0
  a0 := Tryz.isAgg0
  z0 := Tryz.sizeOf0
  v0 := Tryz.zeroValue0
  t3 := Tryz.underlying3
  a3 := Tryz.isAgg3
  z3 := Tryz.sizeOf3
  v3 := Tryz.zeroValue3
  t4 := Tryz.underlying4
  a4 := Tryz.isAgg4
  z4 := Tryz.sizeOf4
  v4 := Tryz.zeroValue4
  t5 := Tryz.underlying5
  a5 := Tryz.isAgg5
  z5 := Tryz.sizeOf5
  v5 := Tryz.zeroValue5
  t9 := Tryz.underlying9
  a9 := Tryz.isAgg9
  z9 := Tryz.sizeOf9
  v9 := Tryz.zeroValue9
  t28 := Tryz.underlying27
  a28 := Tryz.isAgg27
  z28 := Tryz.sizeOf27
  v28 := Tryz.zeroValue27
  t46 := Tryz.underlying188
  a46 := Tryz.isAgg188
  z46 := Tryz.sizeOf188
  v46 := Tryz.zeroValue188
  t51 := Tryz.underlying210
  a51 := Tryz.isAgg210
  z51 := Tryz.sizeOf210
  v51 := Tryz.zeroValue210
  t53 := Tryz.underlying212
  a53 := Tryz.isAgg212
  z53 := Tryz.sizeOf212
  v53 := Tryz.zeroValue212
  t131 := Tryz.underlying207
  a131 := Tryz.isAgg207
  z131 := Tryz.sizeOf207
  v131 := Tryz.zeroValue207
  t182 := Tryz.underlying202
  a182 := Tryz.isAgg202
  z182 := Tryz.sizeOf202
  v182 := Tryz.zeroValue202
  t183 := Tryz.underlying203
  a183 := Tryz.isAgg203
  z183 := Tryz.sizeOf203
  v183 := Tryz.zeroValue203
  t218 := Tryz.underlying223
  a218 := Tryz.isAgg223
  z218 := Tryz.sizeOf223
  v218 := Tryz.zeroValue223
  t222 := Tryz.underlying197
  a222 := Tryz.isAgg197
  z222 := Tryz.sizeOf197
  v222 := Tryz.zeroValue197
  t228 := Tryz.underlying231
  a228 := Tryz.isAgg231
  z228 := Tryz.sizeOf231
  v228 := Tryz.zeroValue231
  t229 := Tryz.underlying67
  a229 := Tryz.isAgg67
  z229 := Tryz.sizeOf67
  v229 := Tryz.zeroValue67 }
end Go.Proofs.YtdklmcicogmeaaaGreat

/- Levels and charges: the program's functions. -/
namespace Go.Proofs.YtdklmcicogmeaaaGreat
open Go.RowKit Go.Sort Go.Shelf
set_option linter.unusedVariables false

theorem below_sorted {α : Type} [Inhabited α] {enc : α → Value} {w : World} {B blk off q : Nat} {d : Array α} {os : Array Obj} (hB : B ≤ blk) (hlt : blk < w.heap.size) : Below B w (grow (putRow enc (Sort.ahead w q) blk off d) os) :=
  ⟨rfl, rfl, rfl, by simp [grow, putRow, mapBlock, Sort.ahead], fun b hb => by
    have h1 : b < w.heap.size := by omega
    have h2 : blk ≠ b := by omega
    simp [grow, putRow, mapBlock, Sort.ahead, Array.getElem?_append, h1, Array.getElem_modify, h2]⟩
/-- slices.Sort at integers of the call's own. -/
theorem sortInts_any (w : World) (base n cv : Nat) (av : Option Addr) (L : List Int) (hO : w.ownsRow base 3 1 (.slice av n cv) n (icells L)) (hn : 0 < n) (hn2 : n ≤ 1000) :
    Calls Tryz.prog 86 #[.slice av n cv] w fun e w' => e = .returned (.tuple #[]) ∧ w'.ownsRow base 3 1 (.slice av n cv) n (icells (srt L)) ∧ Below base w w' := by
  have hlen : L.length = n := by have := hO.1; rw [icells_length] at this; omega
  subst hlen
  rcases hO.2 with ⟨h0, _⟩ | ⟨g, cap, cur, hv, hbase, hb, hc1, hc2, hc3, hc4⟩
  · simp at h0; omega
  · cases hv
    have hlt : g < w.heap.size := (Array.getElem?_eq_some_iff.1 hb).1
    have hH : Holds (Value.int .i64) w g 0 L.toArray := holds_of_blockI hb (by rw [Nat.mul_one] at hc4; exact hc4)
    refine (Any.slices_Sort_int sortInts g 0 cv L w hH hlt (by omega)).mono ?_
    rintro e w' ⟨rfl, q, os, rfl⟩
    exact ⟨rfl, ownsRow_sortedI (ss := L) (ts := srt L) (srt_len L) hbase hb hc1 hc2 hc3, below_sorted hbase hlt⟩
end Go.Proofs.YtdklmcicogmeaaaGreat

/- A series that is opened: the program's function. -/
namespace Go.Proofs.YtdklmcicogmeaaaGreat
open Go.RowKit
set_option linter.unusedVariables false

set_option maxHeartbeats 1000000 in
set_option maxRecDepth 100000 in
theorem openS_any (s : Ser) (ap : Option Addr) (n cp : Nat) (w : World) (hw : SerW s) (hl : T3R w ap n s.l) :
    Calls Tryz.prog 72 #[.agg #[.string s.nm, .int .i64 s.per, .int .i64 s.least, .int .i64 s.a, .int .i64 s.b, .int .i64 s.c, .int .i64 s.d, .slice ap n cp]] w
      fun e' w' => e' = .returned (.tuple #[.agg #[.string s.nm, .int .i64 s.per, .int .i64 s.least, .int .i64 s.a, .int .i64 s.b, .int .i64 s.c, .int .i64 s.d, .slice ap n cp], .int .i64 (serE s).2]) ∧ Below w.heap.size w w' := by
  have HC := Lib.hid (fun (w' : World) (hb : Below w.heap.size w w') => checkSeries_any s ap n cp w' hw (hl.below hb))
  generalize serE s = E at *
  obtain ⟨nm, per, least, a, b, c, d, l⟩ := s
  obtain ⟨k, e⟩ := E
  simp only at HC ⊢
  clear hl hw
  go_enter Tryz.func72, Tryz.ntmps72
  go_wp2_with fail
  refine (HC.out _ (by (repeat' (first | (with_reducible exact Below.refl _ _) | (with_reducible assumption) | (with_reducible refine Below.drewN ?_ _) | (with_reducible refine Below.alloc ?_ ?_ _) | (with_reducible refine Below.drew ?_) | (with_reducible refine Below.setCell ?_ ?_ _) | (with_reducible refine Below.step (by assumption) ?_ ?_) | (with_reducible exact And.left (by assumption)) | go_size)))).mono ?_
  rintro e5 w5 ⟨rfl, hb5⟩
  have q0 : w5.cell? ⟨w.heap.size, 0, none⟩ = some (.string nm) := by { rw [cellB hb5 _ _ (by first | (simp; done) | (simp; omega) | omega)]; all_goals (first | assumption | go_simp) }; have q1 : w5.cell? ⟨w.heap.size, 1, none⟩ = some (.int .i64 per) := by { rw [cellB hb5 _ _ (by first | (simp; done) | (simp; omega) | omega)]; all_goals (first | assumption | go_simp) }; have q2 : w5.cell? ⟨w.heap.size, 2, none⟩ = some (.int .i64 least) := by { rw [cellB hb5 _ _ (by first | (simp; done) | (simp; omega) | omega)]; all_goals (first | assumption | go_simp) }; have q3 : w5.cell? ⟨w.heap.size, 3, none⟩ = some (.int .i64 a) := by { rw [cellB hb5 _ _ (by first | (simp; done) | (simp; omega) | omega)]; all_goals (first | assumption | go_simp) }; have q4 : w5.cell? ⟨w.heap.size, 4, none⟩ = some (.int .i64 b) := by { rw [cellB hb5 _ _ (by first | (simp; done) | (simp; omega) | omega)]; all_goals (first | assumption | go_simp) }; have q5 : w5.cell? ⟨w.heap.size, 5, none⟩ = some (.int .i64 c) := by { rw [cellB hb5 _ _ (by first | (simp; done) | (simp; omega) | omega)]; all_goals (first | assumption | go_simp) }; have q6 : w5.cell? ⟨w.heap.size, 6, none⟩ = some (.int .i64 d) := by { rw [cellB hb5 _ _ (by first | (simp; done) | (simp; omega) | omega)]; all_goals (first | assumption | go_simp) }; have q7 : w5.cell? ⟨w.heap.size, 7, none⟩ = some (.slice ap n cp) := by { rw [cellB hb5 _ _ (by first | (simp; done) | (simp; omega) | omega)]; all_goals (first | assumption | go_simp) }; have z0 : w5.cell? ⟨w.heap.size + 1, 0, none⟩ = some (.string ⟨#[]⟩) := by { rw [cellB hb5 _ _ (by first | (simp; done) | (simp; omega) | omega)]; all_goals (first | assumption | go_simp) }; have z1 : w5.cell? ⟨w.heap.size + 1, 1, none⟩ = some (.int .i64 0) := by { rw [cellB hb5 _ _ (by first | (simp; done) | (simp; omega) | omega)]; all_goals (first | assumption | go_simp) }; have z2 : w5.cell? ⟨w.heap.size + 1, 2, none⟩ = some (.int .i64 0) := by { rw [cellB hb5 _ _ (by first | (simp; done) | (simp; omega) | omega)]; all_goals (first | assumption | go_simp) }; have z3 : w5.cell? ⟨w.heap.size + 1, 3, none⟩ = some (.int .i64 0) := by { rw [cellB hb5 _ _ (by first | (simp; done) | (simp; omega) | omega)]; all_goals (first | assumption | go_simp) }; have z4 : w5.cell? ⟨w.heap.size + 1, 4, none⟩ = some (.int .i64 0) := by { rw [cellB hb5 _ _ (by first | (simp; done) | (simp; omega) | omega)]; all_goals (first | assumption | go_simp) }; have z5 : w5.cell? ⟨w.heap.size + 1, 5, none⟩ = some (.int .i64 0) := by { rw [cellB hb5 _ _ (by first | (simp; done) | (simp; omega) | omega)]; all_goals (first | assumption | go_simp) }; have z6 : w5.cell? ⟨w.heap.size + 1, 6, none⟩ = some (.int .i64 0) := by { rw [cellB hb5 _ _ (by first | (simp; done) | (simp; omega) | omega)]; all_goals (first | assumption | go_simp) }; have z7 : w5.cell? ⟨w.heap.size + 1, 7, none⟩ = some (.slice none 0 0) := by { rw [cellB hb5 _ _ (by first | (simp; done) | (simp; omega) | omega)]; all_goals (first | assumption | go_simp) }; have f0 : w5.frozen? ⟨w.heap.size + 1, 0, none⟩ = false := by { rw [frozenB hb5 _ _ (by first | (simp; done) | (simp; omega) | omega)]; all_goals (first | assumption | go_simp) }; have f1 : w5.frozen? ⟨w.heap.size + 1, 1, none⟩ = false := by { rw [frozenB hb5 _ _ (by first | (simp; done) | (simp; omega) | omega)]; all_goals (first | assumption | go_simp) }; have f2 : w5.frozen? ⟨w.heap.size + 1, 2, none⟩ = false := by { rw [frozenB hb5 _ _ (by first | (simp; done) | (simp; omega) | omega)]; all_goals (first | assumption | go_simp) }; have f3 : w5.frozen? ⟨w.heap.size + 1, 3, none⟩ = false := by { rw [frozenB hb5 _ _ (by first | (simp; done) | (simp; omega) | omega)]; all_goals (first | assumption | go_simp) }; have f4 : w5.frozen? ⟨w.heap.size + 1, 4, none⟩ = false := by { rw [frozenB hb5 _ _ (by first | (simp; done) | (simp; omega) | omega)]; all_goals (first | assumption | go_simp) }; have f5 : w5.frozen? ⟨w.heap.size + 1, 5, none⟩ = false := by { rw [frozenB hb5 _ _ (by first | (simp; done) | (simp; omega) | omega)]; all_goals (first | assumption | go_simp) }; have f6 : w5.frozen? ⟨w.heap.size + 1, 6, none⟩ = false := by { rw [frozenB hb5 _ _ (by first | (simp; done) | (simp; omega) | omega)]; all_goals (first | assumption | go_simp) }; have f7 : w5.frozen? ⟨w.heap.size + 1, 7, none⟩ = false := by { rw [frozenB hb5 _ _ (by first | (simp; done) | (simp; omega) | omega)]; all_goals (first | assumption | go_simp) }
  have hz5 := hb5.size
  simp only [World.size_alloc] at hz5
  have l1 : w.heap.size + 1 < w5.heap.size := by omega
  have HB5 := Lib.hid (show Below w.heap.size w w5 by (repeat' (first | (with_reducible exact Below.refl _ _) | (with_reducible assumption) | (with_reducible refine Below.drewN ?_ _) | (with_reducible refine Below.alloc ?_ ?_ _) | (with_reducible refine Below.drew ?_) | (with_reducible refine Below.setCell ?_ ?_ _) | (with_reducible refine Below.step (by assumption) ?_ ?_) | (with_reducible exact And.left (by assumption)) | go_size)))
  clear hb5 HC
  go_wp2_with fail
  generalize hW : World.setCell _ _ _ = w9
  have r0 : w9.cell? ⟨w.heap.size + 1, 0, none⟩ = some (.string nm) := by { rw [← hW]; clear hW; go_simp }
  have r1 : w9.cell? ⟨w.heap.size + 1, 1, none⟩ = some (.int .i64 per) := by { rw [← hW]; clear hW; go_simp }
  have r2 : w9.cell? ⟨w.heap.size + 1, 2, none⟩ = some (.int .i64 least) := by { rw [← hW]; clear hW; go_simp }
  have r3 : w9.cell? ⟨w.heap.size + 1, 3, none⟩ = some (.int .i64 a) := by { rw [← hW]; clear hW; go_simp }
  have r4 : w9.cell? ⟨w.heap.size + 1, 4, none⟩ = some (.int .i64 b) := by { rw [← hW]; clear hW; go_simp }
  have r5 : w9.cell? ⟨w.heap.size + 1, 5, none⟩ = some (.int .i64 c) := by { rw [← hW]; clear hW; go_simp }
  have r6 : w9.cell? ⟨w.heap.size + 1, 6, none⟩ = some (.int .i64 d) := by { rw [← hW]; clear hW; go_simp }
  have r7 : w9.cell? ⟨w.heap.size + 1, 7, none⟩ = some (.slice ap n cp) := by { rw [← hW]; clear hW; go_simp }
  have hb9 : Below w.heap.size w w9 := by { rw [← hW]; have := HB5.out; (repeat' (first | (with_reducible exact Below.refl _ _) | (with_reducible assumption) | (with_reducible refine Below.drewN ?_ _) | (with_reducible refine Below.alloc ?_ ?_ _) | (with_reducible refine Below.drew ?_) | (with_reducible refine Below.setCell ?_ ?_ _) | (with_reducible refine Below.step (by assumption) ?_ ?_) | (with_reducible exact And.left (by assumption)) | go_size)) }
  clear hW
  exact bodyPost_ret (v := .tuple #[.agg #[.string nm, .int .i64 per, .int .i64 least, .int .i64 a, .int .i64 b, .int .i64 c, .int .i64 d, .slice ap n cp], .int .i64 e]) (by simp [results, Tryz.results72, go_sem, r0, r1, r2, r3, r4, r5, r6, r7]) rfl ⟨rfl, hb9⟩
end Go.Proofs.YtdklmcicogmeaaaGreat
