import Derived.Test.YtidboecjllaofaaGreatTCurr
import Derived.Test.YtidboecjllaofaaGreatUPlain0
import Derived.Test.YtidboecjllaofaaGreatURat2
import Derived.Test.YtidboecjllaofaaGreatURoundTr
import Derived.Test.YtidboecjllaofaaGreatUSchedT
import Derived.Test.YtidboecjllaofaaGreatUSchedY
import Derived.Test.YtidboecjllaofaaGreatUTChk2
import Derived.Test.YtidboecjllaofaaGreatUTElc
import Derived.Test.YtidboecjllaofaaGreatUTElx
import Derived.Test.YtidboecjllaofaaGreatUTMapG
import Derived.Test.YtidboecjllaofaaGreatUTSaf
/- Quotients in memory whose digits lie outside the caller's own cells. -/
namespace Go.Proofs.YtidboecjllaofaaGreat
open Go.RowKit
set_option linter.unusedVariables false
def RA (A : Nat → Prop) (w : World) (v : Value) (q : Rat) : Prop := RatioR (fun b => ¬ A b ∧ b < w.heap.size) w v q
theorem RA.below {A : Nat → Prop} {w w' : World} {v : Value} {q : Rat} (h : RA A w v q) (hb : Below w.heap.size w w') : RA A w' v q :=
 (RatioR.below h hb).mono (fun b hlt => ⟨hlt.1, Nat.lt_of_lt_of_le hlt.2 hb.size⟩)
theorem RA.rb {A : Nat → Prop} {w : World} {v : Value} {q : Rat} (h : RA A w v q) : RB w v q := RatioR.mono h (fun b hb => hb.2)
theorem RA.new {A : Nat → Prop} {w0 w : World} {v : Value} {q : Rat} (h : RatioR (fun b => w0.heap.size ≤ b) w v q) (hA : ∀ b, A b → b < w0.heap.size) : RA A w v q :=
 RatioR.mono (RatioR.here h) (fun b hb => ⟨fun h => by have := hA b h; have := hb.1; omega, hb.2⟩)
theorem RA.kept {A : Nat → Prop} {w w' : World} {v : Value} {q : Rat} (h : RA A w v q) (hs : w.heap.size ≤ w'.heap.size) (hb : ∀ b, ¬ A b → b < w.heap.size → w'.heap[b]? = w.heap[b]?) : RA A w' v q :=
 RatioR.mono (RatioR.kept (w := w) h hs (fun b hp => hb b hp.1 hp.2)) (fun b hb => ⟨hb.1, by omega⟩)
abbrev set4 (w : World) (X : Nat) (v0 v1 v2 v3 : Value) : World := (((w.setCell ⟨X, 0, none⟩ v0).setCell ⟨X, 1, none⟩ v1).setCell ⟨X, 2, none⟩ v2).setCell ⟨X, 3, none⟩ v3
theorem set4_size (w : World) (X : Nat) (v0 v1 v2 v3 : Value) : (set4 w X v0 v1 v2 v3).heap.size = w.heap.size := by simp [set4]
theorem set4_other (w : World) (X b : Nat) (v0 v1 v2 v3 : Value) (h : b ≠ X) : (set4 w X v0 v1 v2 v3).heap[b]? = w.heap[b]? := by
 unfold set4
 rw [Go.Deep.blk_setCell_other _ _ _ _ (by simpa using h), Go.Deep.blk_setCell_other _ _ _ _ (by simpa using h), Go.Deep.blk_setCell_other _ _ _ _ (by simpa using h), Go.Deep.blk_setCell_other _ _ _ _ (by simpa using h)]
theorem set4_same {w : World} {X t : Nat} {x0 x1 x2 x3 : Value} (h : w.heap[X]? = some (.cells #[x0, x1, x2, x3] t)) (v0 v1 v2 v3 : Value) : (set4 w X v0 v1 v2 v3).heap[X]? = some (.cells #[v0, v1, v2, v3] t) := by
 have h0 : (w.setCell ⟨X, 0, none⟩ v0).heap[X]? = some (.cells #[v0, x1, x2, x3] t) := by rw [blk_set h 0 v0]; rfl
 have h1 : ((w.setCell ⟨X, 0, none⟩ v0).setCell ⟨X, 1, none⟩ v1).heap[X]? = some (.cells #[v0, v1, x2, x3] t) := by rw [blk_set h0 1 v1]; rfl
 have h2 : (((w.setCell ⟨X, 0, none⟩ v0).setCell ⟨X, 1, none⟩ v1).setCell ⟨X, 2, none⟩ v2).heap[X]? = some (.cells #[v0, v1, v2, x3] t) := by rw [blk_set h1 2 v2]; rfl
 have h3 : ((((w.setCell ⟨X, 0, none⟩ v0).setCell ⟨X, 1, none⟩ v1).setCell ⟨X, 2, none⟩ v2).setCell ⟨X, 3, none⟩ v3).heap[X]? = some (.cells #[v0, v1, v2, v3] t) := by rw [blk_set h2 3 v3]; rfl
 exact h3
theorem set4_below {w0 w : World} {B X : Nat} (h : Below B w0 w) (hX : B ≤ X) (v0 v1 v2 v3 : Value) : Below B w0 (set4 w X v0 v1 v2 v3) := (((h.setCell hX _).setCell hX _).setCell hX _).setCell hX _
theorem RA.put {A : Nat → Prop} {w : World} {v : Value} {q : Rat} (h : RA A w v q) {X : Nat} (hX : A X) (v0 v1 v2 v3 : Value) : RA A (set4 w X v0 v1 v2 v3) v q :=
 RA.kept h (by rw [set4_size]; exact Nat.le_refl _) (fun b hb _ => set4_other w X b v0 v1 v2 v3 (fun e => hb (e ▸ hX)))
structure Qv where
 s : Int
 a : Option Addr
 n : Nat
 c : Nat
 t : Int
 b : Option Addr
 m : Nat
 d : Nat
def Qv.val (x : Qv) : Value := .agg #[.int .i64 x.s, .slice x.a x.n x.c, .int .i64 x.t, .slice x.b x.m x.d]
def Qv.row (x : Qv) : Array Value := #[.int .i64 x.s, .slice x.a x.n x.c, .int .i64 x.t, .slice x.b x.m x.d]
theorem alc2 (w : World) (o1 o2 : Obj) : Below w.heap.size w ((w.alloc o1).alloc o2) ∧ BlkR ((w.alloc o1).alloc o2) w.heap.size o1 ∧ BlkR ((w.alloc o1).alloc o2) (w.heap.size + 1) o2 := by
 refine ⟨by (repeat' first|(with_reducible first|exact bw1|assumption|refine bw2 ?_ _|refine bw3 ?_ ?_ _|refine bw4 ?_|refine bw5 ?_ ?_ _|refine bw6 (by assumption) ?_ ?_|exact And.left (by assumption))|go_size), ?_, ?_⟩
 ·show _ = _
  rw [Below.heap_alloc _ _ _ (by simp)]
  exact heap_alloc_new _ _
 ·have := heap_alloc_new (w.alloc o1) o2
  show _ = _
  simpa using this
theorem alc3 (w : World) (o1 o2 o3 : Obj) : Below w.heap.size w (((w.alloc o1).alloc o2).alloc o3) ∧ BlkR (((w.alloc o1).alloc o2).alloc o3) w.heap.size o1 ∧ BlkR (((w.alloc o1).alloc o2).alloc o3) (w.heap.size + 1) o2 ∧ BlkR (((w.alloc o1).alloc o2).alloc o3) (w.heap.size + 1 + 1) o3 := by
 obtain ⟨h1, h2, h3⟩ := alc2 w o1 o2
 refine ⟨by (repeat' first|(with_reducible first|exact bw1|assumption|refine bw2 ?_ _|refine bw3 ?_ ?_ _|refine bw4 ?_|refine bw5 ?_ ?_ _|refine bw6 (by assumption) ?_ ?_|exact And.left (by assumption))|go_size), ?_, ?_, ?_⟩
 ·show _ = _
  rw [Below.heap_alloc _ _ _ h2.lt]
  exact h2
 ·show _ = _
  rw [Below.heap_alloc _ _ _ h3.lt]
  exact h3
 ·have := heap_alloc_new ((w.alloc o1).alloc o2) o3
  show _ = _
  simpa using this
end Go.Proofs.YtidboecjllaofaaGreat

/- The voltage of the output in the reference: the walk. -/
namespace Go.Proofs.YtidboecjllaofaaGreat
open Go.RowKit Go.Shelf
set_option linter.unusedVariables false
set_option linter.unusedSimpArgs false
attribute [local go_sem] Oper.semAt_some
end Go.Proofs.YtidboecjllaofaaGreat

/- The currents of all contacts in the reference: the walk. -/
namespace Go.Proofs.YtidboecjllaofaaGreat
open Go.RowKit Go.Shelf
set_option linter.unusedVariables false
set_option linter.unusedSimpArgs false
attribute [local go_sem] Oper.semAt_some
end Go.Proofs.YtidboecjllaofaaGreat

/- The output, the currents and the circulating current of the reference, as fractions. -/
namespace Go.Proofs.YtidboecjllaofaaGreat
open Go.RowKit Go.Shelf
set_option linter.unusedVariables false
set_option linter.unusedSimpArgs false
attribute [local go_sem] Oper.semAt_some
theorem frR_of {m : Mac} {l : Lim} {s : Nat} {load : Int} (h : ElV m l s load) : frR (outQ m l s load) = outT m l s load := by
 cases hf : (cloU s 6).find? (isRes m) with
 | some k =>
  unfold outQ outT
  rw [hf]
  show frR (Rat.divInt (volA m l k) 1) = _
  rw [← low_rat (by decide), low_one']
 | none =>
  have hsd := (sums_bd h.hm h.hl h.hd (cloU s 6) (fun k hk => ⟨h.lt k hk, by have := List.find?_eq_none.1 hf k hk; unfold isRes at this; simpa using this⟩)).2.1
  have hne := clo_ne s h.s64 h.h0
  exact frR_out (by omega)
end Go.Proofs.YtidboecjllaofaaGreat

/- No current is lost, in plain words. -/
namespace Go.Proofs.YtidboecjllaofaaGreat
set_option linter.unusedVariables false
theorem frR_lowest (q : Rat) : 0 < (frR q).2 ∧ gc (frR q).1 (frR q).2 = 1 := by
 refine ⟨den_pos q, ?_⟩
 show ((Int.gcd q.num (q.den : Int) : Nat) : Int) = 1
 have := q.reduced
 have h : Int.gcd q.num (q.den : Int) = 1 := by
  unfold Int.gcd
  simpa [Nat.Coprime] using this
 rw [h]; rfl
theorem curT_lowest {m : Mac} {l : Lim} {s : Nat} {load : Int} (h : ElV m l s load) {k : Nat} (hk : k < m.br.length) : 0 < ((curT m l s load).getD k (0, 0)).2 ∧ gc ((curT m l s load).getD k (0, 0)).1 ((curT m l s load).getD k (0, 0)).2 = 1 := by
 rw [← frR_z h hk]; exact frR_lowest _
theorem outT_lowest {m : Mac} {l : Lim} {s : Nat} {load : Int} (h : ElV m l s load) : 0 < (outT m l s load).2 ∧ gc (outT m l s load).1 (outT m l s load).2 = 1 := by
 rw [← frR_of h]; exact frR_lowest _
def oS (m : Mac) (l : Lim) (N D : Int) (L : List Nat) : Int := L.foldl (fun a k => if isRes m k then a else a + ovr m l N D k * (2520 / (bAt m.br k).res)) 0
theorem oS_snoc (m : Mac) (l : Lim) (N D : Int) (L : List Nat) (k : Nat) : oS m l N D (L ++ [k]) = if isRes m k then oS m l N D L else oS m l N D L + ovr m l N D k * (2520 / (bAt m.br k).res) := by unfold oS; rw [List.foldl_append]; rfl
theorem rstZ_oS (m : Mac) (l : Lim) (load N D : Int) : ∀ L, rstZ m l load N D L = load * (2520 * D) - oS m l N D L := by
 refine snoc_ind ?_ ?_
 ·unfold rstZ oS; simp
 ·intro L k ih
  rw [rstZ_snoc, oS_snoc, ih]
  split <;> omega
def sumZ (m : Mac) (l : Lim) (s : Nat) (load : Int) : Nat → Int
 | 0 => 0
 | n + 1 => sumZ m l s load n + zcur m l s load n
def dirP (d R : Int) (n : Nat) : Int := if 0 ≤ d ∧ d < (n : Int) then R else 0
theorem dirP_zero (d R : Int) : dirP d R 0 = 0 := if_neg (by omega)
theorem dirP_no {d R : Int} {n : Nat} (h : ¬ (n : Int) = d) : dirP d R (n + 1) = dirP d R n := by
 unfold dirP
 by_cases h2 : 0 ≤ d ∧ d < (n : Int)
 ·rw [if_pos h2, if_pos (by omega)]
 ·rw [if_neg h2, if_neg (by omega)]
theorem dirP_yes {d R : Int} {n : Nat} (h : (n : Int) = d) : dirP d R (n + 1) = R ∧ dirP d R n = 0 := ⟨if_pos (by omega), if_neg (by omega)⟩
theorem zcur_in {m : Mac} {l : Lim} {s : Nat} {load : Int} {n : Nat} (h : n ∈ cloU s 6) (hr : isRes m n = false) : zcur m l s load n = ovr m l (outT m l s load).1 (outT m l s load).2 n * (2520 / (bAt m.br n).res) := if_pos ⟨h, hr⟩
theorem zcur_dir {m : Mac} {l : Lim} {s : Nat} {load : Int} {n : Nat} (hr : isRes m n = true) (hd : (n : Int) = dirD m (cloU s 6)) : zcur m l s load n = rstZ m l load (outT m l s load).1 (outT m l s load).2 (cloU s 6) := by
 unfold zcur
 rw [if_neg (fun h => by rw [hr] at h; cases h.2), if_pos hd]
theorem zcur_no {m : Mac} {l : Lim} {s : Nat} {load : Int} {n : Nat} (h : ¬ (n ∈ cloU s 6 ∧ isRes m n = false)) (hd : ¬ (n : Int) = dirD m (cloU s 6)) : zcur m l s load n = 0 := by
 unfold zcur
 rw [if_neg h, if_neg hd]
theorem sumZ_part (m : Mac) (l : Lim) (s : Nat) (load : Int) : ∀ n, n ≤ 6 → sumZ m l s load n = oS m l (outT m l s load).1 (outT m l s load).2 (cloU s n) + dirP (dirD m (cloU s 6)) (rstZ m l load (outT m l s load).1 (outT m l s load).2 (cloU s 6)) n
 | 0, _ => by
  rw [dirP_zero]
  unfold sumZ oS cloU
  simp
 | n + 1, h => by
  have ih := sumZ_part m l s load n (by omega)
  have e : sumZ m l s load (n + 1) = sumZ m l s load n + zcur m l s load n := rfl
  rw [e, ih]
  have hmem : n ∈ cloU s 6 ↔ s.testBit n = true := by
   unfold cloU
   rw [List.mem_filter, List.mem_range]
   constructor
   ·intro h2; exact h2.2
   ·intro h2; exact ⟨by omega, h2⟩
  have hdir : (n : Int) = dirD m (cloU s 6) → n ∈ cloU s 6 ∧ isRes m n = true := by
   intro h2
   rcases dirD_cases m (cloU s 6) with ⟨h3, _⟩ | ⟨d, h3, h4, h5⟩
   ·omega
   ·obtain rfl : n = d := by omega
    exact ⟨h3, h4⟩
  cases hb : s.testBit n
  ·have hn : n ∉ cloU s 6 := by rw [hmem, hb]; decide
   have hd : ¬ (n : Int) = dirD m (cloU s 6) := fun h2 => hn (hdir h2).1
   rw [cloU_no hb, zcur_no (fun h2 => hn h2.1) hd, dirP_no hd, Int.add_zero]
  ·rw [cloU_yes hb, oS_snoc]
   cases hr : isRes m n
   ·have hd : ¬ (n : Int) = dirD m (cloU s 6) := fun h2 => by have := (hdir h2).2; rw [hr] at this; cases this
    rw [if_neg (by decide), zcur_in (hmem.2 hb) hr, dirP_no hd]
    generalize ovr m l (outT m l s load).1 (outT m l s load).2 n * (2520 / (bAt m.br n).res) = y
    generalize oS m l (outT m l s load).1 (outT m l s load).2 (cloU s n) = a
    generalize dirP _ _ n = c
    exact Int.add_right_comm a c y
   ·rw [if_pos rfl]
    by_cases hd : (n : Int) = dirD m (cloU s 6)
    ·rw [zcur_dir hr hd, (dirP_yes hd).1, (dirP_yes hd).2, Int.add_zero]
    ·rw [zcur_no (fun h2 => by rw [hr] at h2; cases h2.2) hd, dirP_no hd, Int.add_zero]
theorem oS_all {m : Mac} {l : Lim} {load N D : Int} : ∀ L : List Nat, (∀ k ∈ L, isRes m k = false) → oS m l N D L = D * (numL m l load L + load * 2520) - N * denL m L := by
 refine snoc_ind ?_ ?_
 ·intro _
  unfold oS numL denL
  simp only [List.foldl_nil]
  grind
 ·intro L k ih hL
  have ih := ih (fun j hj => hL j (List.mem_append_left _ hj))
  rw [oS_snoc, if_neg (by rw [hL k (by simp)]; decide), ih, numL_snoc, denL_snoc]
  unfold ovr
  grind
theorem sumZ_all {m : Mac} {l : Lim} {s : Nat} {load : Int} (h : ElV m l s load) : sumZ m l s load m.br.length = load * comD m l s load := by
 have h6 := h.hm.n1
 have hc6 : cloU s 6 = cloU s m.br.length := cloU_six _ (by omega) s h.hs
 rw [sumZ_part m l s load m.br.length h6, ← hc6]
 unfold comD
 rcases dirD_cases m (cloU s 6) with ⟨h1, h2⟩ | ⟨d, h1, h2, h3⟩
 ·rw [h1, show dirP (-1) _ m.br.length = 0 from if_neg (by omega), oS_all (load := load) (cloU s 6) h2, Int.add_zero]
  have hf : (cloU s 6).find? (isRes m) = none := List.find?_eq_none.2 (fun k hk => by rw [h2 k hk]; decide)
  have e : outT m l s load = low (numL m l load (cloU s 6)) (denL m (cloU s 6)) := by unfold outT; rw [hf]
  have hsd := (sums_bd h.hm h.hl h.hd (cloU s 6) (fun k hk => ⟨h.lt k hk, by have := h2 k hk; unfold isRes at this; simpa using this⟩)).2.1
  have hne := clo_ne s h.s64 h.h0
  obtain ⟨l1, l2, _, _⟩ := low_props (a := numL m l load (cloU s 6)) (b := denL m (cloU s 6)) (by omega)
  rw [← e] at l1
  generalize numL m l load (cloU s 6) = A at *
  generalize denL m (cloU s 6) = B at *
  generalize (outT m l s load).1 = N at *
  generalize (outT m l s load).2 = D at *
  clear e hsd hne hf h2 h1 l2
  have h9 : D * (A + load * 2520) - N * B = load * (2520 * D) := by
   rw [l1, Int.mul_add, Int.mul_comm D A, Int.mul_comm D (load * 2520), Int.mul_assoc load 2520 D]
   omega
  exact h9
 ·have hd := h.lt d h1
  rw [h3, show dirP (d : Int) _ m.br.length = _ from if_pos (by omega), rstZ_oS]
  generalize oS m l _ _ _ = a
  generalize load * (2520 * (outT m l s load).2) = b
  omega
def cumQ (m : Mac) (l : Lim) (s : Nat) (load : Int) (n : Nat) : Rat := Rat.divInt (sumZ m l s load n) (comD m l s load)
theorem cumQ_zero (m : Mac) (l : Lim) (s : Nat) (load : Int) : cumQ m l s load 0 = ((0 : Int) : Rat) := by unfold cumQ sumZ; rw [Rat.zero_divInt]; rfl
theorem cumQ_succ {m : Mac} {l : Lim} {s : Nat} {load : Int} (h : ElV m l s load) (n : Nat) : cumQ m l s load n + zQ m l s load n = cumQ m l s load (n + 1) := by
 have hD := h.com.1
 unfold cumQ zQ
 rw [show sumZ m l s load (n + 1) = sumZ m l s load n + zcur m l s load n from rfl, Rat.divInt_add_divInt _ _ (by omega) (by omega), Rat.divInt_eq_divInt_iff (by
  have := Int.mul_pos hD hD
  omega) (by omega)]
 grind
theorem cumQ_all {m : Mac} {l : Lim} {s : Nat} {load : Int} (h : ElV m l s load) : cumQ m l s load m.br.length = ((load : Int) : Rat) := by
 have hD := h.com.1
 unfold cumQ
 rw [sumZ_all h, ← divInt_1 load, Rat.divInt_eq_divInt_iff (by omega) (by decide)]
 grind
theorem sumZ_bd {m : Mac} {l : Lim} {s : Nat} {load : Int} (h : ElV m l s load) : ∀ n, n ≤ m.br.length → (sumZ m l s load n).natAbs ≤ n * 800150400000
 | 0, _ => by simp [sumZ]
 | n + 1, hn => by
  have ih := sumZ_bd h n (by omega)
  have hz := zcur_bd h (k := n) (by omega)
  have e : sumZ m l s load (n + 1) = sumZ m l s load n + zcur m l s load n := rfl
  rw [e, Nat.succ_mul]
  omega
theorem vol_dir {m : Mac} {l : Lim} {s : Nat} {load : Int} (h : ElV m l s load) (hc : curE m s = 0) {k : Nat} (hk : k ∈ cloU s 6) (hr : isRes m k = true) : outQ m l s load = ((volA m l k : Int) : Rat) := by
 cases hf : (cloU s 6).find? (isRes m) with
 | none => exact absurd hr (by simpa using List.find?_eq_none.1 hf k hk)
 | some k0 =>
  have h0 := List.mem_of_find?_eq_some hf
  have hr0 : isRes m k0 = true := List.find?_some hf
  rw [outQ_res hf]
  obtain ⟨⟨t0, t1⟩, _⟩ := h.hm.br k (h.lt k hk)
  obtain ⟨⟨u0, u1⟩, _⟩ := h.hm.br k0 (h.lt k0 h0)
  have pos : ∀ j, j ∈ cloU s 6 → isRes m j = true → 0 < dirS m s (bAt m.br j).tap := by
   intro j hj hrj
   unfold dirS dirL
   refine List.length_pos_of_mem (a := j) (List.mem_filter.2 ⟨hj, ?_⟩)
   unfold isDir
   unfold isRes at hrj
   rw [hrj]
   simp
  have p1 := pos k hk hr
  have p2 := pos k0 h0 hr0
  have : (bAt m.br k).tap = (bAt m.br k0).tap := by
   rcases Decidable.em ((bAt m.br k).tap = (bAt m.br k0).tap) with h | h
   ·exact h
   ·exfalso
    rw [curE_cases] at hc
    split at hc
    ·exact absurd hc (by decide)
    ·split at hc
     ·exact absurd hc (by decide)
     ·rename_i h3
      have : ((bAt m.br k).tap = 0 ∧ (bAt m.br k0).tap = 1) ∨ ((bAt m.br k).tap = 1 ∧ (bAt m.br k0).tap = 0) := by omega
      rcases this with ⟨e1, e2⟩ | ⟨e1, e2⟩
      ·rw [e1] at p1; rw [e2] at p2; exact h3 ⟨p1, p2⟩
      ·rw [e1] at p1; rw [e2] at p2; exact h3 ⟨p2, p1⟩
  unfold volA
  rw [this]
theorem drop_eq {m : Mac} {l : Lim} {s : Nat} {load : Int} (h : ElV m l s load) (hc : curE m s = 0) {k : Nat} (hk : k ∈ cloU s 6) : ((volA m l k : Int) : Rat) - outQ m l s load = zQ m l s load k * (((bAt m.br k).res : Int) : Rat) := by
 obtain ⟨_, r0, r1⟩ := h.hm.br k (h.lt k hk)
 cases hr : isRes m k
 ·have hne : (bAt m.br k).res ≠ 0 := by unfold isRes at hr; simpa using hr
  have hz := castZ hne
  rw [← zQ_res h.vo.1 hk hr (by omega) r1]
  generalize (((bAt m.br k).res : Int) : Rat) = R at *
  generalize ((volA m l k : Int) : Rat) - outQ m l s load = X at *
  grind
 ·have h0 : (bAt m.br k).res = 0 := by unfold isRes at hr; simpa using hr
  rw [vol_dir h hc hk hr, h0]
  have : ((0 : Int) : Rat) = 0 := rfl
  rw [this]
  grind
theorem curT_open {m : Mac} {l : Lim} {s : Nat} {load : Int} (h : ElV m l s load) {k : Nat} (hk : k < m.br.length) (hn : k ∉ cloU s 6) : (curT m l s load).getD k (0, 0) = (0, 1) := by
 rw [curT_z h hk]
 have hz : zcur m l s load k = 0 := by
  unfold zcur
  rw [if_neg (fun h => hn h.1)]
  rcases dirD_cases m (cloU s 6) with ⟨h1, _⟩ | ⟨d, h1, h2, h3⟩
  ·rw [if_neg (by omega)]
  ·rw [if_neg (fun e => hn (by rw [show k = d by omega]; exact h1))]
 rw [hz]
 exact low_zero h.com.1
end Go.Proofs.YtidboecjllaofaaGreat

/- The circulating current of the reference. -/
namespace Go.Proofs.YtidboecjllaofaaGreat
open Go.RowKit Go.Shelf
set_option linter.unusedVariables false
set_option linter.unusedSimpArgs false
attribute [local go_sem] Oper.semAt_some
end Go.Proofs.YtidboecjllaofaaGreat

/- Regulators, moments and pairs, in plain words. No program in sight. -/
namespace Go.Proofs.YtidboecjllaofaaGreat
set_option linter.unusedVariables false
structure Reg where
 tgt : Int
 band : Int
 dly : Int
 stp : Int
 lo : Int
 hi : Int
deriving DecidableEq
structure Mom where
 tap : Int
 wait : Int
deriving DecidableEq
def regB (r : Reg) : Bool := wi r.tgt (-10000) 10000 && wi r.band 0 10000 && wi r.dly 1 20 && wi r.stp 1 10000 && wi r.lo (-40) 40 && wi r.hi (-40) 40
def regE (r : Reg) : Int := firstErr [unl (regB r) 2, unl (decide (r.lo ≤ r.hi)) 9]
def momE (r : Reg) (m : Mom) : Int := unl (wi m.tap r.lo r.hi && wi m.wait (1 - r.dly) (r.dly - 1)) 2
def swE (d : Int) : Int := unl (wi d (-10000) 10000) 2
theorem unl_zero' {b : Bool} {e : Int} (he : e ≠ 0) : unl b e = 0 ↔ b = true := by
 unfold unl; cases b <;> simp [he]
theorem firstErr_zero' {x : Int} {r : List Int} : firstErr (x :: r) = 0 ↔ x = 0 ∧ firstErr r = 0 := by
 show (if x = 0 then firstErr r else x) = 0 ↔ _
 split
 ·next h => simp [h]
 ·next h => simp [h]
structure RegV (r : Reg) : Prop where
 t0 : -10000 ≤ r.tgt
 t1 : r.tgt ≤ 10000
 b0 : 0 ≤ r.band
 b1 : r.band ≤ 10000
 d0 : 1 ≤ r.dly
 d1 : r.dly ≤ 20
 s0 : 1 ≤ r.stp
 s1 : r.stp ≤ 10000
 l0 : -40 ≤ r.lo
 l1 : r.lo ≤ r.hi
 h1 : r.hi ≤ 40
def MomV (r : Reg) (m : Mom) : Prop := (r.lo ≤ m.tap ∧ m.tap ≤ r.hi) ∧ 1 - r.dly ≤ m.wait ∧ m.wait ≤ r.dly - 1
theorem regE_zero {r : Reg} : regE r = 0 ↔ RegV r := by
 unfold regE regB
 rw [firstErr_zero', firstErr_zero', unl_zero' (by decide), unl_zero' (by decide)]
 simp only [Bool.and_eq_true, wi_iff, decide_eq_true_eq]
 constructor
 ·rintro ⟨⟨⟨⟨⟨⟨a, b⟩, c⟩, d⟩, e⟩, f⟩, g, _⟩
  exact ⟨a.1, a.2, b.1, b.2, c.1, c.2, d.1, d.2, e.1, g, f.2⟩
 ·intro h
  exact ⟨⟨⟨⟨⟨⟨⟨h.t0, h.t1⟩, h.b0, h.b1⟩, h.d0, h.d1⟩, h.s0, h.s1⟩, h.l0, by have := h.l1; have := h.h1; omega⟩, by have := h.l0; have := h.l1; omega, h.h1⟩, h.l1, rfl⟩
theorem momE_zero {r : Reg} {m : Mom} : momE r m = 0 ↔ MomV r m := by
 unfold momE MomV
 rw [unl_zero' (by decide)]
 simp only [Bool.and_eq_true, wi_iff]
theorem swE_zero {d : Int} : swE d = 0 ↔ -10000 ≤ d ∧ d ≤ 10000 := by
 unfold swE
 rw [unl_zero' (by decide), wi_iff]
def act (r : Reg) (m : Mom) (v : Int) : Mom :=
 if r.tgt - r.band ≤ v ∧ v ≤ r.tgt + r.band then ⟨m.tap, 0⟩
 else if v < r.tgt then (if -r.dly < min m.wait 0 - 1 then ⟨m.tap, min m.wait 0 - 1⟩ else ⟨min (m.tap + 1) r.hi, 0⟩)
 else (if max m.wait 0 + 1 < r.dly then ⟨m.tap, max m.wait 0 + 1⟩ else ⟨max (m.tap - 1) r.lo, 0⟩)
theorem act_valid {r : Reg} (hr : RegV r) {m : Mom} (hm : MomV r m) (v : Int) : MomV r (act r m v) := by
 obtain ⟨⟨h1, h2⟩, h3, h4⟩ := hm
 have := hr.d0
 have := hr.l1
 unfold act MomV
 split
 ·exact ⟨⟨h1, h2⟩, by simp only; omega, by simp only; omega⟩
 ·split
  ·split
   ·exact ⟨⟨h1, h2⟩, by simp only; omega, by simp only; omega⟩
   ·exact ⟨⟨by simp only; omega, by simp only; omega⟩, by simp only; omega, by simp only; omega⟩
  ·split
   ·exact ⟨⟨h1, h2⟩, by simp only; omega, by simp only; omega⟩
   ·exact ⟨⟨by simp only; omega, by simp only; omega⟩, by simp only; omega, by simp only; omega⟩
def vol (r : Reg) (d t : Int) : Int := d + r.stp * t
def tick (r : Reg) (d : Int) (m : Mom) : Mom := act r m (vol r d m.tap)
theorem tick_valid {r : Reg} (hr : RegV r) (d : Int) (m : Mom) (hm : MomV r m) : MomV r (tick r d m) := act_valid hr hm _
def mvT (r : Reg) (d : Int) (m : Mom) : Bool := decide (m.tap ≠ (tick r d m).tap)
def codeM (m : Mom) : Nat := ((m.tap + 40) * 40 + (m.wait + 19)).toNat
theorem codeM_lt {r : Reg} (hr : RegV r) (m : Mom) (h : MomV r m) : codeM m < 3240 := by
 obtain ⟨⟨h1, h2⟩, h3, h4⟩ := h
 have := hr.l0
 have := hr.h1
 have := hr.d1
 unfold codeM
 omega
theorem codeM_inj {r : Reg} (hr : RegV r) (a b : Mom) (ha : MomV r a) (hb : MomV r b) (h : codeM a = codeM b) : a = b := by
 obtain ⟨⟨h1, h2⟩, h3, h4⟩ := ha
 obtain ⟨⟨g1, g2⟩, g3, g4⟩ := hb
 have := hr.l0
 have := hr.h1
 have := hr.d1
 unfold codeM at h
 cases a; cases b
 simp only [Mom.mk.injEq] at *
 omega
theorem tick_bound {r : Reg} (hr : RegV r) {d : Int} {m : Mom} (hm : MomV r m) {T : Nat} (h : ∀ i j, i < j → j < T → itr (tick r d) m i ≠ itr (tick r d) m j) : T ≤ 3240 :=
 rep_bound (p := MomV r) codeM (tick_valid hr d) hm (codeM_lt hr) (codeM_inj hr) h
structure Pai where
 a : Reg
 b : Reg
 ma : Mom
 mb : Mom
deriving DecidableEq
def volP (p : Pai) (d : Int) : Int := d + (p.a.stp * p.ma.tap + p.b.stp * p.mb.tap) / 2
def tickP (d : Int) (p : Pai) : Pai := ⟨p.a, p.b, act p.a p.ma (volP p d), act p.b p.mb (volP p d)⟩
def PaiV (p : Pai) : Prop := RegV p.a ∧ RegV p.b ∧ MomV p.a p.ma ∧ MomV p.b p.mb
theorem tickP_valid (d : Int) (p : Pai) (h : PaiV p) : PaiV (tickP d p) := ⟨h.1, h.2.1, act_valid h.1 h.2.2.1 _, act_valid h.2.1 h.2.2.2 _⟩
def mvP (d : Int) (p : Pai) : Bool := decide (p.ma.tap ≠ (tickP d p).ma.tap) || decide (p.mb.tap ≠ (tickP d p).mb.tap)
theorem tickP_bound {d : Int} {p : Pai} (hp : PaiV p) {T : Nat} (h : ∀ i j, i < j → j < T → itr (tickP d) p i ≠ itr (tickP d) p j) : T ≤ 10497600 := by
 refine rep_bound (f := tickP d) (p := fun q => (q.a = p.a ∧ q.b = p.b) ∧ PaiV q) (fun q => codeM q.ma * 3240 + codeM q.mb) (fun q hq => ⟨hq.1, tickP_valid d q hq.2⟩) ⟨⟨rfl, rfl⟩, hp⟩ (fun q hq => ?_) (fun x y hx hy he => ?_) h
 ·have h1 := codeM_lt hq.2.1 q.ma hq.2.2.2.1
  have h2 := codeM_lt hq.2.2.1 q.mb hq.2.2.2.2
  omega
 ·have h1 := codeM_lt hx.2.1 x.ma hx.2.2.2.1
  have h2 := codeM_lt hx.2.2.1 x.mb hx.2.2.2.2
  have h3 := codeM_lt hy.2.1 y.ma hy.2.2.2.1
  have h4 := codeM_lt hy.2.2.1 y.mb hy.2.2.2.2
  have e1 : codeM x.ma = codeM y.ma := by omega
  have e2 : codeM x.mb = codeM y.mb := by omega
  have g1 : x.ma = y.ma := codeM_inj hx.2.1 _ _ hx.2.2.2.1 (by have := hy.2.2.2.1; rw [hy.1.1, ← hx.1.1] at this; exact this) e1
  have g2 : x.mb = y.mb := codeM_inj hx.2.2.1 _ _ hx.2.2.2.2 (by have := hy.2.2.2.2; rw [hy.1.2, ← hx.1.2] at this; exact this) e2
  obtain ⟨⟨a1, a2⟩, _⟩ := hx
  obtain ⟨⟨b1, b2⟩, _⟩ := hy
  cases x; cases y
  simp only at *
  subst g1 g2
  rw [a1, a2, b1, b2]
end Go.Proofs.YtidboecjllaofaaGreat
