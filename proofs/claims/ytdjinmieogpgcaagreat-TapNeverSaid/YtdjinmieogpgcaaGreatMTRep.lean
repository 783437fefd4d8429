import Derived.Laws.CopyOwn
import Derived.Shelf.Bits.Mul64
import Derived.Sort.CutIn
import Derived.Test.YtdjinmieogpgcaaGreatMTDir
/- slices.Repeat of one fraction: the program. -/
namespace Go.Proofs.YtdjinmieogpgcaaGreat
open Go.RowKit Go.Shelf
set_option linter.unusedVariables false
set_option linter.unusedSimpArgs false
attribute [local go_sem] Oper.semAt_some
theorem run_copy_row2 (P : Program) (w : World) (dT sT ty elem : TypeId) (g o dLen dCap : Nat) (a : Addr) (sLen sCap : Nat) (cur : Array Value) (t : TypeId) (cs : List Value)
    (hu : P.underlying dT = some (.slice elem)) (hs : (P.info? elem).map (·.size) = some 2)
    (hg : w.heap[g]? = some (.cells cur t (0, 0))) (hn : cs.length = Nat.min sLen dLen * 2)
    (hsrc : ∀ j v, cs[j]? = some v → w.cell? (a.add j) = some v) (hfit : o + cs.length ≤ cur.size) (h1 : ∀ v ∈ cs, v.oneCell' = true) :
    (Builtin.copy_ #[dT, sT] ty #[.slice (some ⟨g, o, none⟩) dLen dCap, .slice (some a) sLen sCap]).run P w =
     .ok (goInt (Nat.min sLen dLen)) (w.setRow g (cur.toList.take o ++ cs ++ cur.toList.drop (o + cs.length)).toArray) := by
 have hl := run_loadCells_list (P := P) w a cs hsrc
 have hst := run_storeCells_at P g o t cs 0 cur w hg (by simpa using hfit) h1
 cases hq : P.info? elem with
 | none => simp [hq] at hs
 | some i =>
  have hi : i.size = 2 := by simpa [hq] using hs
  simp [Builtin.copy_, run_underlying hu, Builtin.lenOf, Builtin.firstCells, sizeOf, typeInfo, hq, hi, ← hn, hl, hst]
def frs (a b : Int) : Nat → Nat → List Value
 | 0, z => List.replicate (2 * z) (.int .i64 0)
 | k + 1, z => .int .i64 a :: .int .i64 b :: frs a b k z
theorem frs_len (a b : Int) : ∀ k z, (frs a b k z).length = 2 * (k + z)
 | 0, z => by simp [frs]
 | k + 1, z => by simp only [frs, List.length_cons, frs_len a b k z]; omega
theorem frs_app (a b : Int) : ∀ k z, frs a b k z = frs a b k 0 ++ List.replicate (2 * z) (.int .i64 0)
 | 0, z => by simp [frs]
 | k + 1, z => by simp only [frs, List.cons_append, frs_app a b k z]
theorem frs_add (a b : Int) : ∀ k j, frs a b k 0 ++ frs a b j 0 = frs a b (k + j) 0
 | 0, j => by simp [frs]
 | k + 1, j => by rw [Nat.add_right_comm]; simp only [frs, List.cons_append, frs_add a b k j]
theorem frs_splice (a b : Int) (k z m : Nat) (h : m ≤ z) : (frs a b k z).take (2 * k) ++ frs a b m 0 ++ (frs a b k z).drop (2 * k + (frs a b m 0).length) = frs a b (k + m) (z - m) := by
 have hk := frs_len a b k 0
 have hm := frs_len a b m 0
 rw [frs_app a b k z, List.take_append_of_le_length (by omega), List.take_of_length_le (by omega), hm, List.drop_append, List.drop_eq_nil_of_le (by omega), List.nil_append, hk, frs_add, frs_app a b (k + m) (z - m), List.drop_replicate]
 congr 2
 omega
theorem frs_one (a b : Int) : ∀ k z, ∀ v ∈ frs a b k z, v.oneCell' = true
 | 0, z, v, h => by rw [List.eq_of_mem_replicate h]; rfl
 | k + 1, z, v, h => by
  rcases List.mem_cons.1 h with rfl | h
  ·rfl
  rcases List.mem_cons.1 h with rfl | h
  ·rfl
  exact frs_one a b k z v h
theorem frs_pre (a b : Int) (k z m : Nat) (h : m ≤ k) (j : Nat) (v : Value) (hv : (frs a b m 0)[j]? = some v) : (frs a b k z)[j]? = some v := by
 have e : frs a b k z = frs a b m 0 ++ frs a b (k - m) z := by
  rw [frs_app a b k z, show k = m + (k - m) by omega, ← frs_add, List.append_assoc, ← frs_app, Nat.add_sub_cancel_left]
 rw [e, List.getElem?_append_left (List.getElem?_eq_some_iff.1 hv).1]
 exact hv
set_option maxHeartbeats 1000000 in
theorem t_mul64_any (x y : Nat) (hx : x < 4294967296) (hy : y < 4294967296) (w : World) :
    Calls Tryz.prog 152 #[.int .u64 (x : Int), .int .u64 (y : Int)] w fun e w' => e = .returned (.tuple #[.int .u64 0, .int .u64 ((x * y : Nat) : Int)]) ∧ w = w' := by
 have hm := Nat.mul_le_mul (show x ≤ 4294967295 by omega) (show y ≤ 4294967295 by omega)
 obtain ⟨m, hmm⟩ : ∃ m, m = x * y := ⟨_, rfl⟩
 rw [← hmm] at hm ⊢
 have e1 : (x : Int) * (y : Int) = (m : Int) := by rw [hmm]; simp
 have e2 : bits .and .u64 (x : Int) 4294967295 = (x : Int) := by rw [Mul64.maskN x (by omega)]; omega
 have e3 : bits .and .u64 (y : Int) 4294967295 = (y : Int) := by rw [Mul64.maskN y (by omega)]; omega
 have e4 : (x : Int) / 4294967296 = 0 := by omega
 have e5 : (y : Int) / 4294967296 = 0 := by omega
 have e6 : bits .and .u64 ((m : Int) / 4294967296) 4294967295 = (m : Int) / 4294967296 := by
  rw [show (m : Int) / 4294967296 = ((m / 4294967296 : Nat) : Int) by omega, Mul64.maskN _ (by omega)]; omega
 have e7 : (m : Int) / 4294967296 / 4294967296 = 0 := by omega
 have e8 : IntKind.u64.wrap (m : Int) = (m : Int) := Mul64.wrapN m (by omega)
 have e9 : IntKind.u64.wrap ((m : Int) / 4294967296) = (m : Int) / 4294967296 := by
  rw [show (m : Int) / 4294967296 = ((m / 4294967296 : Nat) : Int) by omega, Mul64.wrapN _ (by omega)]
 clear hmm
 go_enter Tryz.func152, Tryz.ntmps152
 go_wp2
 try simp only [e1, e2, e3, e4, e5, e6, e7, e8, e9, Int.zero_mul, Int.mul_zero, Int.zero_add, Int.add_zero, Int.zero_ediv]
 go_ret2
 exact ⟨rfl, rfl⟩
theorem t_mul_any (x y : Nat) (hx : x < 4294967296) (hy : y < 4294967296) (w : World) :
    Calls Tryz.prog 127 #[.int .u64 (x : Int), .int .u64 (y : Int)] w fun e w' => e = .returned (.tuple #[.int .u64 0, .int .u64 ((x * y : Nat) : Int)]) ∧ w = w' := by
 have e8 : IntKind.u64.wrap ((x * y : Nat) : Int) = ((x * y : Nat) : Int) := Mul64.wrapN _ (Nat.lt_of_le_of_lt (Nat.mul_le_mul (show x ≤ 4294967295 by omega) (show y ≤ 4294967295 by omega)) (by decide))
 have e1 : IntKind.u64.wrap (x : Int) = (x : Int) := Mul64.wrapN _ (by omega)
 have e2 : IntKind.u64.wrap (y : Int) = (y : Int) := Mul64.wrapN _ (by omega)
 have HM := Lib.hid (fun W => t_mul64_any x y hx hy W)
 generalize x * y = m at *
 go_enter Tryz.func127, Tryz.ntmps127
 go_wp2_with fail
 refine (HM.out _).mono ?_
 rintro e w' ⟨rfl, rfl⟩
 go_wp2
 go_ret2
 exact ⟨rfl, rfl⟩
theorem makeFracs (P : Program) (w : World) (t e : TypeId) (ht : P.underlying t = some (.slice e)) (hi : (P.info? e).map (fun i => (i.zero, i.size, i.bytes)) = some (some (.agg #[.int .i64 0, .int .i64 0]), 2, 16)) (n : Nat) (hn : n ≤ 100000) :
    (Instr.makeSlice t (.int .i64 n) (.int .i64 n)).run P w = .ok (.slice (some ⟨w.heap.size, 0, none⟩) n n) (w.alloc (.cells (madeCells #[.int .i64 0, .int .i64 0] (n * 2)) e)) := by
 obtain ⟨i, hi1, hi2, hi4, hi3⟩ : ∃ i, P.info? e = some i ∧ i.zero = some (.agg #[.int .i64 0, .int .i64 0]) ∧ i.bytes = 16 ∧ i.size = 2 := by cases hq : P.info? e <;> simp_all
 have hr := run_make (P := P) w t e i _ ht hi1 hi2 .i64 .i64 n n (by omega) (Int.le_refl _) (by rw [hi4]; omega) (by omega)
 simp only [Int.toNat_natCast, hi3] at hr
 exact hr
theorem madeFracs (a b : Int) (n : Nat) : madeCells #[Value.int .i64 0, Value.int .i64 0] (n * 2) = (frs a b 0 n).toArray := by
 apply Array.ext'
 apply List.ext_getElem?
 intro j
 simp only [madeCells, frs, Array.toList_map, List.getElem?_map, List.getElem?_replicate, Array.toList_range, List.getElem?_range]
 by_cases h : j < n * 2
 ·have : j % 2 = 0 ∨ j % 2 = 1 := by omega
  rcases this with h' | h' <;> simp [h, h', show j < 2 * n by omega]
 ·simp [h, show ¬ j < 2 * n by omega]
theorem setRow_heap' {w : World} {g : Nat} {t : TypeId} {cur cs : Array Value} (h : w.heap[g]? = some (.cells cur t (0, 0))) : (w.setRow g cs).heap[g]? = some (.cells cs t (0, 0)) := setRow_heap w g cur cs t (0, 0) h
set_option maxHeartbeats 4000000 in
set_option maxRecDepth 100000 in
theorem repeat_any (a b : Int) (n bx cx : Nat) (w : World) (h0 : 1 ≤ n) (h1 : n ≤ 1000) (hx : w.heap[bx]? = some (.cells #[.int .i64 a, .int .i64 b] 85)) :
    Calls Tryz.prog 96 #[.slice (some ⟨bx, 0, none⟩) 1 cx, .int .i64 (n : Int)] w fun e' w' => ∃ g, e' = .returned (.slice (some ⟨g, 0, none⟩) n n) ∧ w.heap.size ≤ g ∧ w'.heap[g]? = some (.cells (frs a b n 0).toArray 85) ∧ Below w.heap.size w w' := by
 have HM := Lib.hid (fun W => t_mul_any 1 n (by omega) (by omega) W)
 have hmk := fun w' => makeFracs Tryz.prog w' 71 85 Tryz.underlying71 (by rfl) n (by omega)
 rw [madeFracs a b n] at hmk
 have w1 : IntKind.u64.wrap (n : Int) = (n : Int) := Mul64.wrapN _ (by omega)
 have w2 : IntKind.i64.wrap (n : Int) = (n : Int) := by rw [IntKind.wrap_i64]; omega
 simp only [Nat.one_mul] at HM
 have lx : bx < w.heap.size := (Array.getElem?_eq_some_iff.1 hx).1
 obtain ⟨g, hg⟩ : ∃ g, g = w.heap.size := ⟨_, rfl⟩
 obtain ⟨W1, hW1⟩ : ∃ W1, W1 = (w.alloc (.cells (frs a b 0 n).toArray 85)).setRow g (frs a b 1 (n - 1)).toArray := ⟨_, rfl⟩
 have hga : (w.alloc (.cells (frs a b 0 n).toArray 85)).heap[g]? = some (.cells (frs a b 0 n).toArray 85 (0, 0)) := by rw [hg]; exact heap_alloc_new _ _
 have hcp : (Builtin.copy_ #[71, 71] 3 #[.slice (some ⟨w.heap.size, 0, none⟩) n n, .slice (some ⟨bx, 0, none⟩) 1 cx]).run Tryz.prog (w.alloc (.cells (frs a b 0 n).toArray 85)) = .ok (.int .i64 1) W1 := by
  have := run_copy_row2 Tryz.prog (w.alloc (.cells (frs a b 0 n).toArray 85)) 71 71 3 85 g 0 n n ⟨bx, 0, none⟩ 1 cx _ _ (frs a b 1 0) Tryz.underlying71 (by rfl) hga (by rw [frs_len]; simp only [show Nat.min 1 n = 1 from Nat.min_eq_left h0]) ?_ (by simp [frs_len]; omega) (frs_one a b 1 0)
  ·rw [← hg, this, hW1]
   have e := frs_splice a b 0 n 1 h0
   rw [Nat.mul_zero, Nat.zero_add] at e
   simp only [show Nat.min 1 n = 1 from Nat.min_eq_left h0]
   rw [Nat.zero_add, e]
   rfl
  ·intro j v hv
   have hxa := ((show Below w.heap.size w (w.alloc (.cells (frs a b 0 n).toArray 85)) by (first|exact bwg|go_size)).block _ lx).trans hx
   have c0 := cell_of_row _ _ 0 _ _ _ hxa
   have c1 := cell_of_row _ _ 1 _ _ _ hxa
   match j, hv with
   | 0, hv => simp only [frs, List.getElem?_cons_zero, Option.some.injEq] at hv; subst hv; exact c0
   | 1, hv => simp only [frs, List.getElem?_cons_zero, List.getElem?_cons_succ, Option.some.injEq] at hv; subst hv; exact c1
   | j + 2, hv => simp [frs] at hv
 have hb1 : Below w.heap.size w W1 := by rw [hW1]; exact below_setRow (by (first|exact bwg|go_size)) (by omega) _
 have hr1 : W1.heap[g]? = some (.cells (frs a b 1 (n - 1)).toArray 85) := by rw [hW1]; exact setRow_heap' hga
 clear hW1 hga hx
 go_enter Tryz.func96, Tryz.ntmps96
 go_wp2_with fail
 refine (HM.out _).mono ?_
 rintro e w' ⟨rfl, rfl⟩
 go_wp2_with fail
 go_loopw [8] (fun x wr => ∃ k : Nat, x = .int .i64 (k : Int) ∧ 1 ≤ k ∧ k ≤ n ∧ wr.heap[g]? = some (.cells (frs a b k (n - k)).toArray 85) ∧ Below w.heap.size w wr) (fun x _ => n - (intOf x).toNat)
 case atStart => exact ⟨1, rfl, by omega, h0, hr1, hb1⟩
 case round =>
  obtain ⟨k, rfl, k0, k1, hr, hb⟩ := hrel
  by_cases hk : k < n
  ·have hk' : (k : Int) < (n : Int) := by omega
   obtain ⟨m, hm⟩ : ∃ m, m = Nat.min k (n - k) := ⟨_, rfl⟩
   have hm1 : m ≤ n - k := by rw [hm]; exact Nat.min_le_right _ _
   have hm2 : m ≤ k := by rw [hm]; exact Nat.min_le_left _ _
   have hm3 : 1 ≤ m := by rw [hm]; exact Nat.le_min.2 ⟨k0, by omega⟩
   have hcq : ∀ W : World, W.heap = wr.heap → (Builtin.copy_ #[71, 71] 3 #[.slice (some ⟨w.heap.size, k * 2, none⟩) (n - k) (n - k), .slice (some ⟨w.heap.size, 0, none⟩) k n]).run Tryz.prog W = .ok (.int .i64 (m : Int)) (W.setRow w.heap.size (frs a b (k + m) (n - k - m)).toArray) := by
    intro W hW
    have hrW : W.heap[g]? = some (.cells (frs a b k (n - k)).toArray 85 (0, 0)) := by rw [hW]; exact hr
    have := run_copy_row2 Tryz.prog W 71 71 3 85 g (k * 2) (n - k) (n - k) ⟨g, 0, none⟩ k n _ _ (frs a b m 0) Tryz.underlying71 (by rfl) hrW (by rw [frs_len, ← hm]; omega) ?_ (by simp only [List.size_toArray, frs_len]; omega) (frs_one a b m 0)
    ·rw [← hg, this, ← hm]
     have e := frs_splice a b k (n - k) m hm1
     rw [Nat.mul_comm] at e
     rw [e]
     rfl
    ·intro j v hv
     have e := frs_pre a b k (n - k) m hm2 j v hv
     have c := cell_of_row _ _ j _ _ _ hrW
     rw [List.getElem?_toArray, e] at c
     rw [← c]
     simp only [Addr.add]
     split <;> simp_all
   have hcd := hcq wr.drew rfl
   clear hcq
   obtain ⟨W2, hW2⟩ : ∃ W2, W2 = wr.drew.setRow w.heap.size (frs a b (k + m) (n - k - m)).toArray := ⟨_, rfl⟩
   rw [← hW2] at hcd
   have HB2 := Lib.hid (show Below w.heap.size wr W2 by rw [hW2]; exact below_setRow (by (first|exact bwg|go_size)) (Nat.le_refl _) _)
   have HR2 := Lib.hid (show W2.heap[g]? = some (.cells (frs a b (k + m) (n - k - m)).toArray 85 (0, 0)) by rw [hW2, hg]; exact setRow_heap' (w := wr.drew) (by rw [← hg]; exact hr))
   have w3 : IntKind.i64.wrap ((k : Int) + (m : Int)) = (k : Int) + (m : Int) := by rw [IntKind.wrap_i64]; omega
   have HB := Lib.hid hb
   clear hr hb hr1 hb1 hm hW2 hmk hcp
   go_wp2_with fail
   refine wp_region_laterT (B := w.heap.size) (.head 0 (.head 1 (.head 2 (.head 4 (.head 5 (.two 3 (.one 6 (.one 7 (.one 8 (.one 9 .done)))) 6 (.one 3 (.one 7 (.one 8 (.one 9 .done)))))))))) (by kernel_rfl) (by kernel_rfl) ?_
   repeat (refine tree_head rfl ?_; (show wpQuiet _ _ _ _ (_ :: _) _; go_big_quiet_step (fail)); refine wpQuiet_nil ?_)
   refine tree_two rfl rfl ?_ ?_
   ·go_wp2_with fail
    refine tailL_mk (by (first|exact bwg|go_size)) ?_
    refine tree_one rfl ?_; go_wp2_with fail
    refine tailL_mk (by (first|exact bwg|go_size)) ?_
    refine tree_one rfl ?_; go_wp2_with fail
    refine tailL_mk HB2.out ?_
    refine tree_one rfl ?_; go_wp2_with fail
    refine tailL_mk HB2.out ?_
    refine tree_one rfl ?_; go_wp2_with fail
    refine tailL_mk HB2.out ?_
    refine tree_done ?_
    go_wp2_with fail
    refine ⟨⟨k + m, by rw [Int.natCast_add], by omega, by omega, by rw [show n - (k + m) = n - k - m by omega]; exact HR2.out, HB.out.trans (HB2.out.mono (Nat.le_refl _))⟩, ?_⟩
    simp only [intOf]
    omega
   ·go_wp2_with fail
    refine tailL_mk (by (first|exact bwg|go_size)) ?_
    refine tree_one rfl ?_; go_wp2_with fail
    refine tailL_mk (by (first|exact bwg|go_size)) ?_
    refine tree_one rfl ?_; go_wp2_with fail
    refine tailL_mk HB2.out ?_
    refine tree_one rfl ?_; go_wp2_with fail
    refine tailL_mk HB2.out ?_
    refine tree_one rfl ?_; go_wp2_with fail
    refine tailL_mk HB2.out ?_
    refine tree_done ?_
    go_wp2_with fail
    refine ⟨⟨k + m, by rw [Int.natCast_add], by omega, by omega, by rw [show n - (k + m) = n - k - m by omega]; exact HR2.out, HB.out.trans (HB2.out.mono (Nat.le_refl _))⟩, ?_⟩
    simp only [intOf]
    omega
  ·obtain rfl : k = n := by omega
   rw [Nat.sub_self] at hr
   have HR := Lib.hid hr
   have HB := Lib.hid hb
   clear hr hb hr1 hb1 hmk hcp
   have hk' : ¬ ((k : Int) < (k : Int)) := by omega
   go_wp2_with fail
   refine bodyPost_ret (v := .slice (some ⟨w.heap.size, 0, none⟩) k k) (by simp [results, Tryz.results96, go_sem]) rfl ⟨w.heap.size, rfl, Nat.le_refl _, by rw [← hg]; exact HR.out, HB.out⟩
end Go.Proofs.YtdjinmieogpgcaaGreat
/- A region that draws its order, by a tree of orders, in a round of a range over a function. -/
namespace Go.Proofs.YtdjinmieogpgcaaGreat
open Go.RowKit
set_option linter.unusedVariables false
section
variable {P : Program} {Q : Exit → Act → World → Prop} {f n : Nat}
theorem round_laterT {B : Nat} {id : Nat} {a : Act} {w : World} {l : List Oper} (s : Sch) (hm : P.follows .mixedOrders = true) (hd : noDeferB l = true) (hq : ¬ LetsOut Q) (hB : treeOk l.toArray s = true)
    (h : wpTree P l (fun w' => ∃ u : LaterB B w, w' = u.world) Q s a w.drew) : (Code.region id l.toArray true).wpIn (Fence.wide.inRound f) n P Q a w := by
 simp only [treeOk, Bool.and_eq_true, decide_eq_true_eq] at hB
 refine wpIn_mono (region_in_round (Q := NoPanic Q) hm hd (fun hl => hq hl) (wpAny_of_held _ _ _ _ (tree_anyH hB.1.1 s _ _ a _ hB.1.2 hB.2 ⟨⟨_, (Below.refl B w).drew⟩, rfl⟩ h))) ?_
 intro e a' w' he
 cases e <;> first | exact he | exact he.elim
end
end Go.Proofs.YtdjinmieogpgcaaGreat
