import Derived.Shelf.Sort.Plain
import Derived.Sort.OwnSortedInts
import Derived.Deep.CutRange
import Derived.Test.YtppkckbnjnenfaaGreatMAlc
/- All states that runs reach, in the order in which they are found, with a run to each; the first failure. In plain words. -/
namespace Go.Proofs.YtppkckbnjnenfaaGreat
set_option linter.unusedVariables false
def reaIn (o : List Nat) (s : Nat) (L : List Nat) : List Nat := L.foldl (fun o c => if trn s c ∈ o then o else o ++ [trn s c]) o
theorem reaIn_snoc (o : List Nat) (s : Nat) (L : List Nat) (c : Nat) : reaIn o s (L ++ [c]) = if trn s c ∈ reaIn o s L then reaIn o s L else reaIn o s L ++ [trn s c] := by unfold reaIn; rw [List.foldl_append]; rfl
theorem reaIn_yes {o : List Nat} {s : Nat} {L : List Nat} {c : Nat} (h : trn s c ∈ reaIn o s L) : reaIn o s (L ++ [c]) = reaIn o s L := by rw [reaIn_snoc, if_pos h]
theorem reaIn_no {o : List Nat} {s : Nat} {L : List Nat} {c : Nat} (h : trn s c ∉ reaIn o s L) : reaIn o s (L ++ [c]) = reaIn o s L ++ [trn s c] := by rw [reaIn_snoc, if_neg h]
def reaF (m : Mac) : Nat → List Nat
 | 0 => [m.st.toNat]
 | k + 1 => match (reaF m k)[k]? with
  | some s => reaIn (reaF m k) s (movL m s)
  | none => reaF m k
def faiIn (o : List (Nat × List Nat)) (s : Nat) (r : List Nat) (L : List Nat) : List (Nat × List Nat) := L.foldl (fun o c => if trn s c ∈ o.map Prod.fst then o else o ++ [(trn s c, r ++ [c])]) o
theorem faiIn_snoc (o : List (Nat × List Nat)) (s : Nat) (r L : List Nat) (c : Nat) : faiIn o s r (L ++ [c]) = if trn s c ∈ (faiIn o s r L).map Prod.fst then faiIn o s r L else faiIn o s r L ++ [(trn s c, r ++ [c])] := by unfold faiIn; rw [List.foldl_append]; rfl
theorem faiIn_yes {o : List (Nat × List Nat)} {s : Nat} {r L : List Nat} {c : Nat} (h : trn s c ∈ (faiIn o s r L).map Prod.fst) : faiIn o s r (L ++ [c]) = faiIn o s r L := by rw [faiIn_snoc, if_pos h]
theorem faiIn_no {o : List (Nat × List Nat)} {s : Nat} {r L : List Nat} {c : Nat} (h : trn s c ∉ (faiIn o s r L).map Prod.fst) : faiIn o s r (L ++ [c]) = faiIn o s r L ++ [(trn s c, r ++ [c])] := by rw [faiIn_snoc, if_neg h]
theorem faiIn_keys (o : List (Nat × List Nat)) (s : Nat) (r : List Nat) : ∀ L : List Nat, (faiIn o s r L).map Prod.fst = reaIn (o.map Prod.fst) s L := by
 refine snoc_ind rfl (fun L c ih => ?_)
 rw [faiIn_snoc, reaIn_snoc, ← ih]
 split
 ·rfl
 ·rw [List.map_append]; rfl
def faiF (m : Mac) : Nat → List (Nat × List Nat)
 | 0 => [(m.st.toNat, [])]
 | k + 1 => match (faiF m k)[k]? with
  | some p => faiIn (faiF m k) p.1 p.2 (movL m p.1)
  | none => faiF m k
theorem faiF_keys (m : Mac) : ∀ k, (faiF m k).map Prod.fst = reaF m k
 | 0 => rfl
 | k + 1 => by
  have ih := faiF_keys m k
  show (match (faiF m k)[k]? with | some p => faiIn (faiF m k) p.1 p.2 (movL m p.1) | none => faiF m k).map Prod.fst = (match (reaF m k)[k]? with | some s => reaIn (reaF m k) s (movL m s) | none => reaF m k)
  rw [← ih, List.getElem?_map]
  cases (faiF m k)[k]? with
  | none => rfl
  | some p => exact faiIn_keys ..
theorem movL_lt {m : Mac} {s c : Nat} (h : c ∈ movL m s) : c < m.br.length := by
 unfold movL at h
 exact List.mem_range.1 (List.mem_filter.1 h).1
theorem trn_lt' {n s i : Nat} (hn : n ≤ 6) (hs : s < 2 ^ n) (hi : i < n) : trn s i < 2 ^ n := turn_lt n (by omega) s hs i hi
structure Rea (m : Mac) (o : List Nat) : Prop where
 nd : o.Nodup
 lt : ∀ s ∈ o, s < 2 ^ m.br.length
 st : m.st.toNat ∈ o
theorem Rea.len {m : Mac} {o : List Nat} (h : Rea m o) (hm : MacV m) : o.length ≤ 64 := by
 have h3 := pigeon (2 ^ m.br.length) o.length (fun i => o.getD i 0) (fun i hi => by
  show o.getD i 0 < _
  rw [List.getD_eq_getElem?_getD, List.getElem?_eq_getElem hi]
  exact h.lt _ (List.getElem_mem hi)) (fun i j hij hj => by
  show o.getD i 0 ≠ o.getD j 0
  rw [List.getD_eq_getElem?_getD, List.getD_eq_getElem?_getD, List.getElem?_eq_getElem hj, List.getElem?_eq_getElem (show i < o.length by omega)]
  exact List.pairwise_iff_getElem.1 h.nd i j (by omega) hj hij)
 exact Nat.le_trans h3 (Nat.le_trans (Nat.pow_le_pow_right (by omega) hm.n1) (by decide))
theorem Rea.snoc {m : Mac} {o : List Nat} {t : Nat} (h : Rea m o) (ht : t ∉ o) (hl : t < 2 ^ m.br.length) : Rea m (o ++ [t]) :=
 ⟨List.nodup_append.2 ⟨h.nd, by simp, fun a ha b hb => by simp at hb; subst hb; rintro rfl; exact ht ha⟩, fun s hs => by
  rcases List.mem_append.1 hs with h1 | h1
  ·exact h.lt s h1
  ·simp at h1; subst h1; exact hl, List.mem_append_left _ h.st⟩
theorem Rea.inn {m : Mac} {o : List Nat} {s : Nat} (hm : MacV m) (h : Rea m o) (hs : s < 2 ^ m.br.length) : ∀ L : List Nat, (∀ c ∈ L, c < m.br.length) → Rea m (reaIn o s L) := by
 refine snoc_ind (fun _ => h) (fun L c ih hL => ?_)
 have ih := ih (fun c hc => hL c (List.mem_append_left _ hc))
 rw [reaIn_snoc]
 split
 ·exact ih
 ·rename_i hn
  exact ih.snoc hn (trn_lt' hm.n1 hs (hL c (by simp)))
theorem reaF_ok {m : Mac} (hm : MacV m) : ∀ k, Rea m (reaF m k)
 | 0 => by
  obtain ⟨s0, s1⟩ := hm.st
  refine ⟨by simp [reaF], fun s hs => ?_, by simp [reaF]⟩
  simp [reaF] at hs
  subst hs
  have : ((2 ^ m.br.length : Nat) : Int) = (2 : Int) ^ m.br.length := by push_cast; rfl
  omega
 | k + 1 => by
  have ih := reaF_ok hm k
  show Rea m (match (reaF m k)[k]? with | some s => reaIn (reaF m k) s (movL m s) | none => reaF m k)
  cases h : (reaF m k)[k]? with
  | none => exact ih
  | some s => exact Rea.inn hm ih (ih.lt s (List.mem_of_getElem? h)) _ (fun c hc => movL_lt hc)
theorem reaF_next {m : Mac} {k s : Nat} (h : (reaF m k)[k]? = some s) : reaF m (k + 1) = reaIn (reaF m k) s (movL m s) := by
 show (match (reaF m k)[k]? with | some s => reaIn (reaF m k) s (movL m s) | none => reaF m k) = _
 rw [h]
theorem faiF_next {m : Mac} {k : Nat} {p : Nat × List Nat} (h : (faiF m k)[k]? = some p) : faiF m (k + 1) = faiIn (faiF m k) p.1 p.2 (movL m p.1) := by
 show (match (faiF m k)[k]? with | some p => faiIn (faiF m k) p.1 p.2 (movL m p.1) | none => faiF m k) = _
 rw [h]
theorem reaF_stop {m : Mac} {k : Nat} (h : (reaF m k).length ≤ k) : ∀ j, reaF m (k + j) = reaF m k
 | 0 => rfl
 | j + 1 => by
  have ih := reaF_stop h j
  show (match (reaF m (k + j))[k + j]? with | some s => reaIn (reaF m (k + j)) s (movL m s) | none => reaF m (k + j)) = _
  rw [ih, List.getElem?_eq_none (by omega)]
def reaA (m : Mac) : List Nat := reaF m 64
theorem reaF_all {m : Mac} (hm : MacV m) {k : Nat} (h : (reaF m k).length ≤ k) (hk : k ≤ 64) : reaF m k = reaA m := by
 have := reaF_stop h (64 - k)
 rw [show k + (64 - k) = 64 by omega] at this
 exact this.symm
def reaS (m : Mac) : List Nat := (List.range (2 ^ m.br.length)).filter (fun s => decide (s ∈ reaA m))
def badC (m : Mac) (l : Lim) (s : Nat) : Option Nat := (movL m s).find? (fun c => decide (chgE m l s c ≠ 0))
def faiK (m : Mac) (l : Lim) (k : Nat) : Option (List Nat) :=
 match (faiF m k)[k]? with
 | some p => (badC m l p.1).map (fun c => p.2 ++ [c])
 | none => none
def faiFrom (m : Mac) (l : Lim) : Nat → Nat → Option (List Nat)
 | 0, _ => none
 | j + 1, k => match faiK m l k with
  | some r => some r
  | none => faiFrom m l j (k + 1)
def faiV (m : Mac) (l : Lim) : Option (List Nat) := if safE m l m.st.toNat ≠ 0 then some [] else faiFrom m l 64 0
theorem faiFrom_none {m : Mac} {l : Lim} {k : Nat} (h : (faiF m k).length ≤ k) : ∀ j i, faiFrom m l j (k + i) = none
 | 0, _ => rfl
 | j + 1, i => by
  have h1 : (reaF m k).length ≤ k := by rw [← faiF_keys, List.length_map]; exact h
  have h2 : (faiF m (k + i)).length ≤ k := by
   have := congrArg List.length (reaF_stop h1 i)
   rw [← faiF_keys, ← faiF_keys, List.length_map, List.length_map] at this
   omega
  show (match faiK m l (k + i) with | some r => some r | none => faiFrom m l j (k + i + 1)) = none
  have h3 : faiK m l (k + i) = none := by
   unfold faiK
   rw [List.getElem?_eq_none (by omega)]
  rw [h3]
  exact faiFrom_none h j (i + 1)
theorem faiFrom_step {m : Mac} {l : Lim} {k : Nat} (hk : k < 64) (h : faiK m l k = none) : faiFrom m l (64 - k) k = faiFrom m l (64 - (k + 1)) (k + 1) := by
 rw [show 64 - k = (64 - (k + 1)) + 1 by omega]
 show (match faiK m l k with | some r => some r | none => faiFrom m l (64 - (k + 1)) (k + 1)) = _
 rw [h]
theorem faiFrom_found {m : Mac} {l : Lim} {k : Nat} {r : List Nat} (hk : k < 64) (h : faiK m l k = some r) : faiFrom m l (64 - k) k = some r := by
 rw [show 64 - k = (64 - (k + 1)) + 1 by omega]
 show (match faiK m l k with | some r => some r | none => faiFrom m l (64 - (k + 1)) (k + 1)) = _
 rw [h]
theorem faiIn_run {o : List (Nat × List Nat)} {s : Nat} {r : List Nat} {q : Nat} (hr : r.length + 1 ≤ q) (ho : ∀ p ∈ o, p.2.length ≤ q) : ∀ L : List Nat, ∀ p ∈ faiIn o s r L, p.2.length ≤ q := by
 refine snoc_ind ho (fun L c ih => ?_)
 rw [faiIn_snoc]
 split
 ·exact ih
 ·intro p hp
  rcases List.mem_append.1 hp with h | h
  ·exact ih p h
  ·simp at h; subst h; simpa using hr
theorem faiF_run (m : Mac) : ∀ k, ∀ p ∈ faiF m k, p.2.length ≤ k
 | 0 => by simp [faiF]
 | k + 1 => by
  have ih := faiF_run m k
  show ∀ p ∈ (match (faiF m k)[k]? with | some p => faiIn (faiF m k) p.1 p.2 (movL m p.1) | none => faiF m k), p.2.length ≤ k + 1
  cases h : (faiF m k)[k]? with
  | none => exact fun p hp => Nat.le_succ_of_le (ih p hp)
  | some p => exact faiIn_run (by have := ih p (List.mem_of_getElem? h); omega) (fun q hq => Nat.le_succ_of_le (ih q hq)) _
/- The level of a series: the greatest size that enough pulses reach. No program in sight. -/
def srt (l : List Int) : List Int := l.mergeSort (fun x y => decide (x ≤ y))
theorem srt_perm (l : List Int) : (srt l).Perm l := List.mergeSort_perm l _
theorem srt_len (l : List Int) : (srt l).length = l.length := (srt_perm l).length_eq
theorem srt_sorted (l : List Int) : (srt l).Pairwise (fun x y => x ≤ y) := by
 have h := List.pairwise_mergeSort (le := fun x y : Int => decide (x ≤ y)) (fun a b c h1 h2 => by simp at *; omega) (fun a b => by simp; omega) l
 exact h.imp (fun h => by simpa using h)
/- The contracts of slices.Sort at integers, laid at this program (a tool of the kit wrote these rows). -/
open Go.Shelf Go.RowKit Go.Proofs
def sortInts_ren : Go.Shelf.Ren := ⟨fun | 189 => 109 | 125 => 150 | 257 => 149 | 128 => 180 | 129 => 181 | 294 => 171 | 295 => 172 | 296 => 173 | 297 => 174 | 298 => 175 | 299 => 176 | 216 => 177 | 300 => 178 | 301 => 179 | 328 => 187 | 329 => 188 | 330 => 189 | 331 => 190 | 332 => 191 | 215 => 121 | 343 => 192 | n => n, fun | 28 => 48 | 3 => 3 | 46 => 174 | 0 => 0 | 51 => 212 | 53 => 215 | 4 => 4 | 183 => 232 | 182 => 231 | 131 => 39 | 5 => 5 | 9 => 9 | 218 => 240 | 222 => 244 | 228 => 246 | 229 => 56 | n => n, fun | n => n⟩
theorem sortInts : Go.Proofs.Lays.n189 Tryz.prog sortInts_ren := {
 mixed := by kernel_rfl
 f125 := Tryz.func150.trans (congrArg some (by kernel_rfl))
 f128 := Tryz.func180.trans (congrArg some (by kernel_rfl))
 f129 := Tryz.func181.trans (congrArg some (by kernel_rfl))
 f189 := Tryz.func109.trans (congrArg some (by kernel_rfl))
 f215 := Tryz.func121.trans (congrArg some (by kernel_rfl))
 f216 := Tryz.func177.trans (congrArg some (by kernel_rfl))
 f257 := Tryz.func149.trans (congrArg some (by kernel_rfl))
 f294 := Tryz.func171.trans (congrArg some (by kernel_rfl))
 f295 := Tryz.func172.trans (congrArg some (by kernel_rfl))
 f296 := Tryz.func173.trans (congrArg some (by kernel_rfl))
 f297 := Tryz.func174.trans (congrArg some (by kernel_rfl))
 f298 := Tryz.func175.trans (congrArg some (by kernel_rfl))
 f299 := Tryz.func176.trans (congrArg some (by kernel_rfl))
 f300 := Tryz.func178.trans (congrArg some (by kernel_rfl))
 f301 := Tryz.func179.trans (congrArg some (by kernel_rfl))
 f328 := Tryz.func187.trans (congrArg some (by kernel_rfl))
 f329 := Tryz.func188.trans (congrArg some (by kernel_rfl))
 f330 := Tryz.func189.trans (congrArg some (by kernel_rfl))
 f331 := Tryz.func190.trans (congrArg some (by kernel_rfl))
 f332 := Tryz.func191.trans (congrArg some (by kernel_rfl))
 f343 := Tryz.func192.trans (congrArg some (by kernel_rfl))
 t0 := Tryz.underlying0
 a0 := Tryz.isAgg0
 z0 := Tryz.sizeOf0
 v0 := Tryz.zeroValue0
 t3 := Tryz.underlying3
 a3 := Tryz.isAgg3
 z3 := Tryz.sizeOf3
 v3 := Tryz.zeroValue3
 t4 := Tryz.underlying4
 a4 := Tryz.isAgg4
 z4 := Tryz.sizeOf4
 v4 := Tryz.zeroValue4
 t5 := Tryz.underlying5
 a5 := Tryz.isAgg5
 z5 := Tryz.sizeOf5
 v5 := Tryz.zeroValue5
 t9 := Tryz.underlying9
 a9 := Tryz.isAgg9
 z9 := Tryz.sizeOf9
 v9 := Tryz.zeroValue9
 t28 := Tryz.underlying48
 a28 := Tryz.isAgg48
 z28 := Tryz.sizeOf48
 v28 := Tryz.zeroValue48
 t46 := Tryz.underlying174
 a46 := Tryz.isAgg174
 z46 := Tryz.sizeOf174
 v46 := Tryz.zeroValue174
 t51 := Tryz.underlying212
 a51 := Tryz.isAgg212
 z51 := Tryz.sizeOf212
 v51 := Tryz.zeroValue212
 t53 := Tryz.underlying215
 a53 := Tryz.isAgg215
 z53 := Tryz.sizeOf215
 v53 := Tryz.zeroValue215
 t131 := Tryz.underlying39
 a131 := Tryz.isAgg39
 z131 := Tryz.sizeOf39
 v131 := Tryz.zeroValue39
 t182 := Tryz.underlying231
 a182 := Tryz.isAgg231
 z182 := Tryz.sizeOf231
 v182 := Tryz.zeroValue231
 t183 := Tryz.underlying232
 a183 := Tryz.isAgg232
 z183 := Tryz.sizeOf232
 v183 := Tryz.zeroValue232
 t218 := Tryz.underlying240
 a218 := Tryz.isAgg240
 z218 := Tryz.sizeOf240
 v218 := Tryz.zeroValue240
 t222 := Tryz.underlying244
 a222 := Tryz.isAgg244
 z222 := Tryz.sizeOf244
 v222 := Tryz.zeroValue244
 t228 := Tryz.underlying246
 a228 := Tryz.isAgg246
 z228 := Tryz.sizeOf246
 v228 := Tryz.zeroValue246
 t229 := Tryz.underlying56
 a229 := Tryz.isAgg56
 z229 := Tryz.sizeOf56
 v229 := Tryz.zeroValue56 }
/- slices.Sort at integers; the reached states ascending. -/
open Go.RowKit Go.Sort Go.Shelf
theorem below_sorted {α : Type} [Inhabited α] {enc : α → Value} {w : World} {B blk off q : Nat} {d : Array α} {os : Array Obj} (hB : B ≤ blk) (hlt : blk < w.heap.size) : Below B w (grow (putRow enc (Sort.ahead w q) blk off d) os) :=
 ⟨rfl, rfl, rfl, by simp [grow, putRow, mapBlock, Sort.ahead], fun b hb => by
  have h1 : b < w.heap.size := by omega
  have h2 : blk ≠ b := by omega
  simp [grow, putRow, mapBlock, Sort.ahead, Array.getElem?_append, h1, Array.getElem_modify, h2]⟩
theorem sortInts_any (w : World) (base n cv : Nat) (av : Option Addr) (L : List Int) (hO : w.ownsRow base 3 1 (.slice av n cv) n (icells L)) (hn : 0 < n) (hn2 : n ≤ 1000) :
    Calls Tryz.prog 109 #[.slice av n cv] w fun e w' => e = .returned (.tuple #[]) ∧ w'.ownsRow base 3 1 (.slice av n cv) n (icells (srt L)) ∧ Below base w w' ∧ w.grownBy w' (Value.slice av n cv).ownBlock := by
 have hlen : L.length = n := by have := hO.1; rw [icells_length] at this; omega
 subst hlen
 rcases hO.2 with ⟨h0, _⟩ | ⟨g, cap, cur, hv, hbase, hb, hc1, hc2, hc3, hc4⟩
 ·simp at h0; omega
 ·cases hv
  have hlt : g < w.heap.size := (Array.getElem?_eq_some_iff.1 hb).1
  have hH : Holds (Value.int .i64) w g 0 L.toArray := holds_of_blockI hb (by rw [Nat.mul_one] at hc4; exact hc4)
  refine (Any.slices_Sort_int sortInts g 0 cv L w hH hlt (by omega)).mono ?_
  rintro e w' ⟨rfl, q, os, rfl⟩
  exact ⟨rfl, ownsRow_sortedI (ss := L) (ts := srt L) (srt_len L) hbase hb hc1 hc2 hc3, below_sorted hbase hlt, grownBy_sortedI _⟩
theorem pair_eq : ∀ (a b : List Int), a.Perm b → a.Pairwise (fun x y => x ≤ y) → b.Pairwise (fun x y => x ≤ y) → a = b
 | [], b, h, _, _ => (List.nil_perm.1 h).symm
 | x :: a, [], h, _, _ => by simpa using h.length_eq
 | x :: a, y :: b, h, h1, h2 => by
  have hx : x ∈ y :: b := h.mem_iff.1 (by simp)
  have hy : y ∈ x :: a := h.mem_iff.2 (by simp)
  rw [List.pairwise_cons] at h1 h2
  have e : x = y := by
   have l1 : y ≤ x := by
    rcases List.mem_cons.1 hx with rfl | h3
    ·exact Int.le_refl _
    ·exact h2.1 _ h3
   have l2 : x ≤ y := by
    rcases List.mem_cons.1 hy with rfl | h3
    ·exact Int.le_refl _
    ·exact h1.1 _ h3
   omega
  subst e
  rw [pair_eq a b ((List.perm_cons x).1 h) h1.2 h2.2]
theorem srt_reaS {m : Mac} (hm : MacV m) : srt (nats (reaA m)) = nats (reaS m) := by
 have hr := reaF_ok hm 64
 have hp : (reaA m).Perm (reaS m) := by
  refine (List.perm_ext_iff_of_nodup hr.nd (List.Pairwise.filter _ List.nodup_range)).2 (fun s => ?_)
  show s ∈ reaA m ↔ s ∈ (List.range (2 ^ m.br.length)).filter (fun s => decide (s ∈ reaA m))
  rw [List.mem_filter, List.mem_range, decide_eq_true_eq]
  exact ⟨fun h => ⟨hr.lt s h, h⟩, fun h => h.2⟩
 refine pair_eq _ _ ((srt_perm _).trans (hp.map _)) (srt_sorted _) ?_
 unfold reaS nats
 rw [List.pairwise_map]
 exact (List.Pairwise.filter _ List.pairwise_lt_range).imp (fun h => by omega)
def knw (o : List Nat) : Array Value := ((List.range 64).map fun s => Value.bool (decide (s ∈ o))).toArray
theorem knw_get (o : List Nat) {s : Nat} (h : s < 64) : (knw o)[s]? = some (.bool (decide (s ∈ o))) := by
 unfold knw
 rw [List.getElem?_toArray, List.getElem?_map, List.getElem?_range h]
 rfl
theorem knw_set (o : List Nat) (s : Nat) : (knw o).setIfInBounds s (.bool true) = knw (o ++ [s]) := by
 apply Array.ext'
 unfold knw
 simp only [List.setIfInBounds_toArray]
 apply List.ext_getElem (by simp)
 intro i h1 h2
 rw [List.getElem_set]
 simp only [List.getElem_map, List.getElem_range]
 by_cases hi : s = i
 ·subst hi; simp
 ·simp [hi, Ne.symm hi]
end Go.Proofs.YtppkckbnjnenfaaGreat
