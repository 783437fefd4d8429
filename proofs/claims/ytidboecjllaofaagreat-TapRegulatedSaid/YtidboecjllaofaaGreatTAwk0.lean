import Derived.Test.YtidboecjllaofaaGreatTElx
import Derived.Test.YtidboecjllaofaaGreatTFrq
import Derived.Test.YtidboecjllaofaaGreatTReg1
/- The examples of the chapter: machine, limits, regulator; what the plain words give for them. -/
namespace Go.Proofs.YtidboecjllaofaaGreat
open Go.RowKit Go.Shelf
set_option linter.unusedVariables false
set_option linter.unusedSimpArgs false

theorem SlR.of_blk {w : World} {b t n sz : Nat} {cs : Array Value} (h : w.heap[b]? = some (.cells cs t)) (hl : cs.size = n * sz) (hn : n ≤ maxLen) : SlR w (some ⟨b, 0, none⟩) n sz cs.toList := by
  refine ⟨by simpa using hl, hn, fun _ => ⟨b, 0, rfl, (Array.getElem?_eq_some_iff.1 h).1, fun i u hu => ?_⟩⟩
  rw [Nat.zero_add, cell_of_row _ _ _ _ _ _ h]
  simpa using hu
def mac0 : Mac := ⟨[⟨0, 0⟩, ⟨0, 2⟩, ⟨1, 2⟩, ⟨1, 0⟩], 3, [⟨0, false, 2, 12⟩, ⟨2, true, 2, 9⟩, ⟨1, false, 4, 9⟩, ⟨3, true, 4, 3⟩]⟩
def mac1 : Mac := ⟨[⟨0, 0⟩, ⟨0, 2⟩, ⟨1, 2⟩, ⟨1, 0⟩], 3, [⟨0, false, 2, 12⟩, ⟨2, true, 2, 9⟩, ⟨1, false, 4, 9⟩, ⟨3, true, 4, 1⟩]⟩
def lim0 : Lim := ⟨12, 0, 10, 4, 10, 30⟩
def reg0 : Reg := ⟨100, 3, 2, 5, -4, 4⟩
set_option maxRecDepth 100000 in
theorem cur0_e : eleE mac0 lim0 6 10 = 0 := by decide
set_option maxRecDepth 100000 in
theorem cur0 : curT mac0 lim0 6 10 = [(0, 1), (2, 1), (8, 1), (0, 1)] := by decide
set_option maxRecDepth 100000 in
theorem opn0 : opnE mac0 lim0 = 0 := by decide
set_option maxRecDepth 100000 in
theorem opn1 : opnE mac1 lim0 = 0 := by decide
set_option maxRecDepth 100000 in
theorem saf0 : safE mac0 lim0 3 = 0 := by decide
set_option maxRecDepth 100000 in
theorem fai0_5 : faiF mac0 5 = [(3, []), (2, [0]), (6, [0, 2]), (4, [0, 2, 1]), (12, [0, 2, 1, 3])] := by decide
set_option maxRecDepth 100000 in
theorem faiK0 : ∀ k, k < 5 → faiK mac0 lim0 k = none := by decide
theorem fai0 : faiV mac0 lim0 = none := by
  unfold faiV
  rw [show mac0.st.toNat = 3 from rfl, saf0, if_neg (by simp)]
  have h := faiK0
  rw [show (64 : Nat) = 64 - 0 from rfl, faiFrom_step (by omega) (h 0 (by omega)), faiFrom_step (by omega) (h 1 (by omega)), faiFrom_step (by omega) (h 2 (by omega)), faiFrom_step (by omega) (h 3 (by omega)), faiFrom_step (by omega) (h 4 (by omega))]
  exact faiFrom_none (k := 5) (by rw [fai0_5]; decide) (64 - 5) 0
theorem inv0_e : invE mac0 lim0 = 0 := by
  unfold invE
  rw [opn0, fai0]
  rfl
set_option maxRecDepth 100000 in
theorem inv0 : invL mac0 lim0 = [2, 3, 4, 6, 12] := by
  unfold invL
  rw [inv0_e, if_neg (by simp)]
  have h5 : reaF mac0 5 = [3, 2, 6, 4, 12] := by rw [← faiF_keys, fai0_5]; rfl
  have hA : reaA mac0 = [3, 2, 6, 4, 12] := by rw [← h5]; exact (reaF_all (opnE_zero opn0).1 (by rw [h5]; decide) (by omega)).symm
  unfold reaS
  rw [hA]
  decide
set_option maxRecDepth 100000 in
theorem saf1 : safE mac1 lim0 3 = 0 := by decide
set_option maxRecDepth 100000 in
theorem faiK1 : ∀ k, k < 2 → faiK mac1 lim0 k = none := by decide
set_option maxRecDepth 100000 in
theorem faiK2 : faiK mac1 lim0 2 = some [0, 2, 3] := by decide
theorem fai1 : faiV mac1 lim0 = some [0, 2, 3] := by
  unfold faiV
  rw [show mac1.st.toNat = 3 from rfl, saf1, if_neg (by simp)]
  have h := faiK1
  rw [show (64 : Nat) = 64 - 0 from rfl, faiFrom_step (by omega) (h 0 (by omega)), faiFrom_step (by omega) (h 1 (by omega))]
  exact faiFrom_found (by omega) faiK2
theorem fail1_e : failE mac1 lim0 = 0 := by
  unfold failE
  rw [opn1, fai1]
  rfl
theorem fail1 : failL mac1 lim0 = [0, 2, 3] := by
  unfold failL
  rw [opn1, fai1]
  rfl
theorem reg0_v : RegV reg0 := regE_zero.1 (by decide)
set_option maxRecDepth 100000 in
theorem rep0 : Rep (tick reg0 90) ⟨0, 0⟩ 5 4 := ⟨by omega, by decide, fun i j h1 h2 => by
  have : ∀ j, j < 5 → ∀ i, i < j → itr (tick reg0 90) ⟨0, 0⟩ i ≠ itr (tick reg0 90) ⟨0, 0⟩ j := by decide
  exact this j h2 i h1⟩
set_option maxRecDepth 100000 in
theorem set0 : lastM (tick reg0 90) (mvT reg0 90) ⟨0, 0⟩ 5 = 4 ∧ (itr (tick reg0 90) ⟨0, 0⟩ 5).tap = 2 := by decide
def pai0 : Pai := ⟨reg0, reg0, ⟨0, 0⟩, ⟨0, 0⟩⟩
theorem pai0_v : PaiV pai0 := ⟨reg0_v, reg0_v, momE_zero.1 (by decide), momE_zero.1 (by decide)⟩
set_option maxRecDepth 100000 in
theorem repP0 : Rep (tickP 90) pai0 5 4 := ⟨by omega, by decide, fun i j h1 h2 => by
  have : ∀ j, j < 5 → ∀ i, i < j → itr (tickP 90) pai0 i ≠ itr (tickP 90) pai0 j := by decide
  exact this j h2 i h1⟩
set_option maxRecDepth 100000 in
theorem setP0 : lastM (tickP 90) (mvP 90) pai0 5 = 4 := by decide
theorem whole_any (n : Int) (w : World) : Calls Tryz.prog 35 #[.int .i64 n] w fun e' w' => e' = .returned (.agg #[.int .i64 n, .int .i64 1]) ∧ Below w.heap.size w w' := by
  go_enter Tryz.func35, Tryz.ntmps35
  go_wp2
  refine bodyPost_ret (v := .agg #[.int .i64 n, .int .i64 1]) (by simp [results, Tryz.results35, go_sem]) rfl ⟨rfl, by (repeat' (first | (with_reducible exact Below.refl _ _) | (with_reducible assumption) | (with_reducible refine Below.drewN ?_ _) | (with_reducible refine Below.alloc ?_ ?_ _) | (with_reducible refine Below.drew ?_) | (with_reducible refine Below.setCell ?_ ?_ _) | (with_reducible refine Below.step (by assumption) ?_ ?_) | (with_reducible exact And.left (by assumption)) | go_size))⟩
theorem limits_any (w : World) : Calls Tryz.prog 88 #[] w fun e' w' => e' = .returned (.agg #[.int .i64 12, .int .i64 0, .int .i64 10, .int .i64 4, .int .i64 10, .int .i64 30]) ∧ Below w.heap.size w w' := by
  go_enter Tryz.func88, Tryz.ntmps88
  go_wp2
  refine bodyPost_ret (v := .agg #[.int .i64 12, .int .i64 0, .int .i64 10, .int .i64 4, .int .i64 10, .int .i64 30]) (by simp [results, Tryz.results88, go_sem]) rfl ⟨rfl, by (repeat' (first | (with_reducible exact Below.refl _ _) | (with_reducible assumption) | (with_reducible refine Below.drewN ?_ _) | (with_reducible refine Below.alloc ?_ ?_ _) | (with_reducible refine Below.drew ?_) | (with_reducible refine Below.setCell ?_ ?_ _) | (with_reducible refine Below.step (by assumption) ?_ ?_) | (with_reducible exact And.left (by assumption)) | go_size))⟩
theorem regulator_any (w : World) : Calls Tryz.prog 89 #[] w fun e' w' => e' = .returned (.agg #[.int .i64 100, .int .i64 3, .int .i64 2, .int .i64 5, .int .i64 (-4), .int .i64 4]) ∧ Below w.heap.size w w' := by
  go_enter Tryz.func89, Tryz.ntmps89
  go_wp2
  refine bodyPost_ret (v := .agg #[.int .i64 100, .int .i64 3, .int .i64 2, .int .i64 5, .int .i64 (-4), .int .i64 4]) (by simp [results, Tryz.results89, go_sem]) rfl ⟨rfl, by (repeat' (first | (with_reducible exact Below.refl _ _) | (with_reducible assumption) | (with_reducible refine Below.drewN ?_ _) | (with_reducible refine Below.alloc ?_ ?_ _) | (with_reducible refine Below.drew ?_) | (with_reducible refine Below.setCell ?_ ?_ _) | (with_reducible refine Below.step (by assumption) ?_ ?_) | (with_reducible exact And.left (by assumption)) | go_size))⟩
def brs0 : Array Value := #[.int .i64 0, .int .i64 0, .int .i64 0, .int .i64 2, .int .i64 1, .int .i64 2, .int .i64 1, .int .i64 0]
def grs0 : Array Value := #[.int .i64 0, .bool false, .int .i64 2, .int .i64 12, .int .i64 2, .bool true, .int .i64 2, .int .i64 9, .int .i64 1, .bool false, .int .i64 4, .int .i64 9, .int .i64 3, .bool true, .int .i64 4, .int .i64 3]
def grs1 : Array Value := #[.int .i64 0, .bool false, .int .i64 2, .int .i64 12, .int .i64 2, .bool true, .int .i64 2, .int .i64 9, .int .i64 1, .bool false, .int .i64 4, .int .i64 9, .int .i64 3, .bool true, .int .i64 4, .int .i64 1]
theorem br0_of {w : World} {b : Nat} (h : BlkR w b (.cells brs0 73)) : BrR w (some ⟨b, 0, none⟩) 4 mac0.br := ⟨rfl, SlR.of_blk h rfl (by unfold maxLen; omega)⟩
theorem gr0_of {w : World} {b : Nat} (h : BlkR w b (.cells grs0 152)) : GrR w (some ⟨b, 0, none⟩) 4 mac0.gs := ⟨rfl, SlR.of_blk h rfl (by unfold maxLen; omega)⟩
theorem gr1_of {w : World} {b : Nat} (h : BlkR w b (.cells grs1 152)) : GrR w (some ⟨b, 0, none⟩) 4 mac1.gs := ⟨rfl, SlR.of_blk h rfl (by unfold maxLen; omega)⟩
set_option maxRecDepth 100000 in
theorem machine_any (w : World) : Calls Tryz.prog 87 #[] w fun e' w' => ∃ b1 b2, e' = .returned (.agg #[.slice (some ⟨b1, 0, none⟩) 4 4, .int .i64 3, .slice (some ⟨b2, 0, none⟩) 4 4]) ∧ Below w.heap.size w w' ∧ w.heap.size ≤ b2 ∧ BlkR w' b1 (.cells brs0 73) ∧ BlkR w' b2 (.cells grs0 152) ∧ b1 ≠ b2 := by
  go_enter Tryz.func87, Tryz.ntmps87
  go_wp2
  refine bodyPost_ret (v := .agg #[.slice (some ⟨w.heap.size + 1, 0, none⟩) 4 4, .int .i64 3, .slice (some ⟨w.heap.size + 1 + 1, 0, none⟩) 4 4]) (by simp [results, Tryz.results87, go_sem]) rfl ⟨w.heap.size + 1, w.heap.size + 1 + 1, rfl, by (repeat' (first | (with_reducible exact Below.refl _ _) | (with_reducible assumption) | (with_reducible refine Below.drewN ?_ _) | (with_reducible refine Below.alloc ?_ ?_ _) | (with_reducible refine Below.drew ?_) | (with_reducible refine Below.setCell ?_ ?_ _) | (with_reducible refine Below.step (by assumption) ?_ ?_) | (with_reducible exact And.left (by assumption)) | go_size)), by omega, ?_, ?_, by omega⟩
  · have := heap_alloc_new (w.alloc (Obj.cells #[.slice (some ⟨w.heap.size + 1, 0, none⟩) 4 4, .int .i64 3, .slice (some ⟨w.heap.size + 1 + 1, 0, none⟩) 4 4] 45)) (Obj.cells brs0 73)
    rw [World.size_alloc] at this
    exact (Below.heap_alloc _ _ _ (by simp)).trans this
  · have := heap_alloc_new ((w.alloc (Obj.cells #[.slice (some ⟨w.heap.size + 1, 0, none⟩) 4 4, .int .i64 3, .slice (some ⟨w.heap.size + 1 + 1, 0, none⟩) 4 4] 45)).alloc (Obj.cells brs0 73)) (Obj.cells grs0 152)
    rw [World.size_alloc, World.size_alloc] at this
    exact this
end Go.Proofs.YtidboecjllaofaaGreat
