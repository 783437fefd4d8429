import Derived.Test.YtbjgklifmillgaaQTail
import Derived.Test.YtbjgklifmillgaaSmall
/- Lines and states: the program's functions. -/
namespace Go.Proofs.Ytbjgklifmillgaa
open Go.RowKit
set_option linter.unusedVariables false

set_option maxRecDepth 100000 in
theorem indexInts_any (f : FuncId) (p : Int → Bool) (hf : ∀ args w, (callFunc f args).run Try.prog w = .ok (.enter f args) w) (hp : ∀ (x : Int) (w : World), Calls Try.prog f #[.int .i64 x] w fun e w' => e = .returned (.bool (p x)) ∧ w = w')
    (l : List Int) (a : Option Addr) (n c : Nat) (w : World) (hl : IntsR w a n l) :
    Calls Try.prog 153 #[.slice a n c, .func (.func f) #[] #[]] w fun e' w' => e' = .returned (.int .i64 (idxFrom p l 0)) ∧ w = w' := by
  have HL := Lib.hid hl
  have HP := Lib.hid hp
  have hn := hl.small
  clear hl hp
  go_enter Try.func153, Try.ntmps153
  go_wp2
  go_loop [8] (fun i => ∃ k : Nat, i = .int .i64 k ∧ k ≤ n ∧ Hid (idxFrom p (l.drop k) k = idxFrom p l 0)) (fun i => n - (intOf i).toNat)
  case atStart => exact ⟨0, rfl, Nat.zero_le _, rfl⟩
  case round =>
    obtain ⟨k, rfl, hk, hF⟩ := hrel
    by_cases hlt : k < n
    · obtain ⟨b, o, rfl, hb, hc⟩ := HL.out.addr (by omega)
      have hck := hc k hlt
      clear hc
      have hF' := hF.out
      rw [drop_at l k 0 (by rw [HL.out.len]; exact hlt), idxFrom] at hF'
      have HF := Lib.hid hF'; clear hF' hF
      obtain ⟨x, hx⟩ : ∃ x, x = l.getD k 0 := ⟨_, rfl⟩
      rw [← hx] at hck HF
      clear hx
      go_wp2_with fail
      refine (HP.out _ _).mono ?_
      rintro e w' ⟨rfl, rfl⟩
      by_cases hx : p x = true
      · rw [if_pos hx] at HF
        rw [hx]
        go_wp2
        go_ret
        exact ⟨ret_int HF.out, rfl⟩
      · rw [if_neg hx] at HF
        have hx' : p x = false := by simpa using hx
        rw [hx']
        clear hx hx'
        go_wp2
        go_round
        case rel => exact ⟨k + 1, by go_num, by omega, HF⟩
        case measure => simp [intOf]; omega
    · go_wp2
      go_ret
      exact ⟨ret_int (by rw [← hF.out, drop_end l k (by rw [HL.out.len]; omega)]; rfl), rfl⟩
set_option maxRecDepth 100000 in
theorem containsInts_any (f : FuncId) (p : Int → Bool) (hf : ∀ args w, (callFunc f args).run Try.prog w = .ok (.enter f args) w) (hp : ∀ (x : Int) (w : World), Calls Try.prog f #[.int .i64 x] w fun e w' => e = .returned (.bool (p x)) ∧ w = w')
    (l : List Int) (a : Option Addr) (n c : Nat) (w : World) (hl : IntsR w a n l) :
    Calls Try.prog 117 #[.slice a n c, .func (.func f) #[] #[]] w fun e' w' => e' = .returned (.bool (l.any p)) ∧ w = w' := by
  have HI := Lib.hid (indexInts_any f p hf hp l a n c w hl)
  clear hf hp hl
  go_enter Try.func117, Try.ntmps117
  go_wp2_with fail
  refine HI.out.mono ?_
  rintro e w' ⟨rfl, rfl⟩
  go_wp2
  go_ret
  exact ⟨ret_bool (idxFrom_any p l 0), rfl⟩
theorem checkLine1_any (x : Int) (w : World) : Calls Try.prog 118 #[.int .i64 x] w fun e w' => e = .returned (.bool (!wi x 1 20)) ∧ w = w' := by
  go_enter Try.func118, Try.ntmps118
  go_wp2_with (go_at_call 66; refine (within_any _ _ _ _).mono ?_; rintro e w' ⟨rfl, rfl⟩)
  go_ret
  exact ⟨rfl, rfl⟩
theorem stateErr1_any (x : Int) (w : World) : Calls Try.prog 120 #[.int .i64 x] w fun e w' => e = .returned (.bool (!wi x (-1000000) 1000000)) ∧ w = w' := by
  go_enter Try.func120, Try.ntmps120
  go_wp2_with (go_at_call 59; refine (isSized_any _ _ _ (by omega) (by omega)).mono ?_; rintro e w' ⟨rfl, rfl⟩)
  go_ret
  exact ⟨rfl, rfl⟩
theorem cf_checkLine1 (args : Array Value) (w : World) : (callFunc 118 args).run Try.prog w = .ok (.enter 118 args) w := by kernel_rfl
theorem cf_stateErr1 (args : Array Value) (w : World) : (callFunc 120 args).run Try.prog w = .ok (.enter 120 args) w := by kernel_rfl
set_option maxRecDepth 100000 in
theorem checkLine_any (l : List Int) (a : Option Addr) (n c : Nat) (b : Bool) (w : World) (hl : IntsR w a n l) :
    Calls Try.prog 72 #[.agg #[.slice a n c, .bool b]] w fun e' w' => e' = .returned (.int .i64 (lineErr l)) ∧ Below w.heap.size w w' := by
  have hn := hl.small
  have HI := Lib.hid (fun (w' : World) (hb : Below w.heap.size w w') => containsInts_any _ _ cf_checkLine1 checkLine1_any l a n c w' (hl.below hb))
  have HL := Lib.hid hl.len
  clear hl
  go_enter Try.func72, Try.ntmps72
  go_wp2_with fail
  refine (HI.out _ (by (repeat' (first | (with_reducible exact Below.refl _ _) | (with_reducible assumption) | (with_reducible refine Below.drewN ?_ _) | (with_reducible refine Below.alloc ?_ ?_ _) | (with_reducible refine Below.drew ?_) | (with_reducible refine Below.setCell ?_ ?_ _) | (with_reducible refine Below.step (by assumption) ?_ ?_) | (with_reducible exact And.left (by assumption)) | go_size)))).mono ?_
  rintro e w' ⟨rfl, rfl⟩
  generalize hg : l.any (fun x => !wi x 1 20) = g
  have HG := Lib.hid hg; clear hg
  go_wp2_with fail
  go_region_held3 (fun w' => w'.cell? ⟨w.heap.size, 0, none⟩ = some (.slice a n c)) (go_keep)
    (first
      | (go_at_call 62; refine (unless_any _ _ _).mono ?_; rintro e w' ⟨rfl, rfl⟩)
      | (go_at_call 61; refine (first3 _ _ _ _ _ _ _ (by rfl) (by simp)).mono ?_; rintro e w' ⟨rfl, rfl⟩))
  go_wp2
  go_ret
  refine ⟨ret_int ?_, ?_⟩
  · rw [lineErr, HL.out, HG.out]
  · (repeat' (first | (with_reducible exact Below.refl _ _) | (with_reducible assumption) | (with_reducible refine Below.drewN ?_ _) | (with_reducible refine Below.alloc ?_ ?_ _) | (with_reducible refine Below.drew ?_) | (with_reducible refine Below.setCell ?_ ?_ _) | (with_reducible refine Below.step (by assumption) ?_ ?_) | (with_reducible exact And.left (by assumption)) | go_size))
set_option maxRecDepth 100000 in
theorem grow_none (k : Nat) (w : World) (hk : k ≤ 1000) : Calls Try.prog 154 #[.slice none 0 0, .int .i64 k] w fun e' w' => ∃ v, e' = .returned v ∧ Below w.heap.size w w' ∧ w'.ownsRow w.heap.size 3 1 v 0 [] := by
  obtain ⟨i0, hi, hz0, hz1, hz2⟩ := info_parts infoInt
  by_cases h0 : k = 0
  · subst h0
    go_enter Try.func154, Try.ntmps154
    go_wp2
    go_ret
    exact ⟨_, rfl, Below.refl _ _, World.ownsRow_nil _ _ _ _⟩
  · have hrz := fun ty => Lib.run_append_grow_zeros w 31 3 ty 3 i0 _ .i64 .i64 Try.underlying31 Try.underlying3 hi hz0 none 0 0 [] (run_firstCells_none w.drew i0.size 0 0 0) k (by omega) (by omega) (by omega) (by omega) (by rw [hz2]; omega) (growslice_fits (by omega) (by rw [hz2]; omega))
    have hG1 : 0 + k ≤ grownCap w (0 + k) 0 3 := grownCap_ge w _ _ _
    have hG2 : grownCap w (0 + k) 0 3 ≤ maxLen := grownCap_le_maxLen w (0 + k) 0 3 (by unfold maxLen; omega)
    generalize grownCap w (0 + k) 0 3 = G at hrz hG1 hG2
    have hown := World.ownsRow_made (base := w.heap.size) (e := 3) (size := 1) w.drew ((([] : List Value)).toArray ++ Builtin.zeroCells (Value.int .i64 0).cells k ++ Builtin.zeroCells (Value.int .i64 0).cells (G - (0 + k))) G (by simp) hG2 (by simp [size_zeroCells, Value.cells]; omega)
    have hlt : (0 : Int) < (k : Int) := by omega
    have hG3 : G ≤ 9223372036854775807 := by unfold maxLen at hG2; omega
    simp only [Nat.zero_add] at hrz hG1 hown
    generalize (([] : List Value)).toArray ++ Builtin.zeroCells (Value.int .i64 0).cells k ++ Builtin.zeroCells (Value.int .i64 0).cells (G - k) = cs at hrz hown
    have HO := Lib.hid hown; clear hown hi hz0 hz1 hz2 hG2
    go_enter Try.func154, Try.ntmps154
    go_wp2_with (at_builtin; refine Lib.wpList_append_run _ rfl _ _ _ _ rfl _ _ rfl rfl _ _ (hrz _) ?_)
    go_ret
    refine ⟨_, rfl, ?_, HO.out⟩
    (repeat' (first | (with_reducible exact Below.refl _ _) | (with_reducible assumption) | (with_reducible refine Below.drewN ?_ _) | (with_reducible refine Below.alloc ?_ ?_ _) | (with_reducible refine Below.drew ?_) | (with_reducible refine Below.setCell ?_ ?_ _) | (with_reducible refine Below.step (by assumption) ?_ ?_) | (with_reducible exact And.left (by assumption)) | go_size))
set_option maxRecDepth 100000 in
theorem concat2 (l1 l2 : List Int) (a1 a2 : Option Addr) (n1 c1 n2 c2 B : Nat) (w : World) (h1 : IntsR w a1 n1 l1) (h2 : IntsR w a2 n2 l2) (hs1 : n1 ≤ 100) (hs2 : n2 ≤ 100) (hBw : B < w.heap.size)
    (hc1 : w.cell? ⟨B, 0, none⟩ = some (.slice a1 n1 c1)) (hc2 : w.cell? ⟨B, 1, none⟩ = some (.slice a2 n2 c2)) :
    Calls Try.prog 119 #[.slice (some ⟨B, 0, none⟩) 2 2] w fun e' w' => ∃ a c, e' = .returned (.slice a (n1 + n2) c) ∧ Below w.heap.size w w' ∧ IntsR w' a (n1 + n2) (l1 ++ l2) := by
  have H1 := Lib.hid h1
  have H2 := Lib.hid h2
  clear h1 h2
  have hgr := fun w' => grow_none (n1 + n2) w' (by omega)
  have HG := Lib.hid hgr; clear hgr
  go_enter Try.func119, Try.ntmps119
  go_wp2
  refine wp_loop_rounds 3 ?_
  rw [rounds_succ]
  go_wp2
  rw [rounds_succ]
  go_wp2
  rw [rounds_succ]
  go_wp2_with fail
  have hgw := HG.out w
  simp only [Int.natCast_add] at hgw
  refine hgw.mono ?_
  clear hgw
  rintro e1 w1 ⟨v, rfl, hb1, hown⟩
  obtain ⟨a, c, rfl, _, _⟩ := owns_slice hown
  have H1' := H1.out.below hb1
  have hc1' : w1.cell? ⟨B, 0, none⟩ = some (.slice a1 n1 c1) := by rw [cellB hb1 _ _ hBw]; exact hc1
  have hc2' : w1.cell? ⟨B, 1, none⟩ = some (.slice a2 n2 c2) := by rw [cellB hb1 _ _ hBw]; exact hc2
  have hsz1 := hb1.size
  have HO := Lib.hid hown
  have HS := Lib.hid H1'
  have HB1 := Lib.hid hb1
  clear hown H1' hb1 hc1 hc2
  go_wp2_with fail
  refine wp_loop_rounds 3 ?_
  rw [rounds_succ]
  go_wp2_with (at_builtin; refine wpList_append_sl _ rfl _ _ 31 rfl w.heap.size 3 _ 1 8 Try.underlying31 infoInt rfl (by omega) _ _ _ rfl HO.out a1 n1 c1 (icells l1) rfl HS.out (icells_one _) (by omega) (by omega) (by omega) ?_)
  intro v2 w2 hown2 _ hb2
  obtain ⟨a', c', rfl, _, _⟩ := owns_slice hown2
  have hs2 := hb2.size
  have hbw2 := HB1.out.trans hb2
  have HB2 := Lib.hid hbw2
  have hc1'' : w2.cell? ⟨B, 0, none⟩ = some (.slice a1 n1 c1) := by rw [cellB hb2 _ _ hBw]; exact hc1'
  have hc2'' : w2.cell? ⟨B, 1, none⟩ = some (.slice a2 n2 c2) := by rw [cellB hb2 _ _ hBw]; exact hc2'
  clear hc1' hc2' hb2 hbw2
  have HO2 := Lib.hid hown2
  clear hown2
  go_wp2
  rw [rounds_succ]
  have H2x := Lib.hid (SlR.below H2.out (w' := w2) HB2.out)
  go_wp2_with (at_builtin; refine wpList_append_sl _ rfl _ _ 31 rfl w.heap.size 3 _ 1 8 Try.underlying31 infoInt rfl (by omega) _ _ _ rfl HO2.out a2 n2 c2 (icells l2) rfl H2x.out (icells_one _) (by omega) (by omega) (by omega) ?_)
  intro v3 w3 hown3 _ hb3
  obtain ⟨a3, c3, rfl, _, _⟩ := owns_slice hown3
  have HB3 := Lib.hid (HB2.out.trans hb3)
  have HO3 := Lib.hid hown3
  clear hown3 hb3
  go_wp2
  rw [rounds_succ]
  go_wp2
  go_ret
  exact ⟨a3, c3, rfl, HB3.out, by have := SlR.of_owns HO3.out; simpa [IntsR, icells_append] using this⟩
end Go.Proofs.Ytbjgklifmillgaa

/- Lines and states: errors of a state, a step, the energy. -/
namespace Go.Proofs.Ytbjgklifmillgaa
open Go.RowKit
set_option linter.unusedVariables false

set_option maxRecDepth 100000 in
theorem stateErr_any (y f b : List Int) (a a1 a2 : Option Addr) (n c n1 c1 n2 c2 : Nat) (e : Bool) (w : World) (hy : IntsR w a n y) (hf : IntsR w a1 n1 f) (hb : IntsR w a2 n2 b) (hn1 : n1 ≤ 100) (hn2 : n2 ≤ 100) :
    Calls Try.prog 74 #[.agg #[.slice a n c, .bool e], .agg #[.slice a1 n1 c1, .slice a2 n2 c2]] w fun e' w' => e' = .returned (.int .i64 (stErr y f b)) ∧ Below w.heap.size w w' := by
  have hn := hy.small
  have HCL := Lib.hid (fun (w' : World) (hb' : Below w.heap.size w w') => checkLine_any y a n c e w' (hy.below hb'))
  have HCC := Lib.hid (fun (w' : World) (B : Nat) (hb' : Below w.heap.size w w') => concat2 f b a1 a2 n1 c1 n2 c2 B w' (hf.below hb') (hb.below hb') hn1 hn2)
  have HS := Lib.hid (show stErr y f b = firstErr [lineErr y, unl (decide (n1 = n) && decide (n2 = n)) 10, unl (!(f ++ b).any (fun x => !wi x (-1000000) 1000000)) 2] by unfold stErr; rw [hf.len, hb.len, hy.len])
  clear hy hf hb
  rw [HS.out]
  clear HS
  rcases (show ((n1 : Int) == (n : Int)) = false ∧ (decide (n1 = n) && decide (n2 = n)) = false ∨ ((n1 : Int) == (n : Int)) = true ∧ ((n2 : Int) == (n : Int)) = false ∧ (decide (n1 = n) && decide (n2 = n)) = false ∨ ((n1 : Int) == (n : Int)) = true ∧ ((n2 : Int) == (n : Int)) = true ∧ (decide (n1 = n) && decide (n2 = n)) = true by
    by_cases h1 : n1 = n <;> by_cases h2 : n2 = n <;> simp [h1, h2] <;> omega) with ⟨g1, g2⟩ | ⟨g1, g3, g2⟩ | ⟨g1, g3, g2⟩
  all_goals
    rw [g2]
    clear g2
    generalize lineErr y = el at HCL
    go_enter Try.func74, Try.ntmps74
    go_wp2_with fail
    refine (HCC.out _ _ (by (repeat' (first | (with_reducible exact Below.refl _ _) | (with_reducible assumption) | (with_reducible refine Below.drewN ?_ _) | (with_reducible refine Below.alloc ?_ ?_ _) | (with_reducible refine Below.drew ?_) | (with_reducible refine Below.setCell ?_ ?_ _) | (with_reducible refine Below.step (by assumption) ?_ ?_) | (with_reducible exact And.left (by assumption)) | go_size))) (by simp) (by go_simp) (by go_simp)).mono ?_
    rintro e1 w1 ⟨a3, c3, rfl, hb1, hi⟩
    have HI := Lib.hid (containsInts_any _ _ cf_stateErr1 stateErr1_any _ a3 _ c3 w1 hi)
    have hb1' := hb1
    clear hi
    go_wp2_with fail
    refine HI.out.mono ?_
    rintro e2 w2 ⟨rfl, rfl⟩
    clear HI
    generalize hg : (f ++ b).any (fun x => !wi x (-1000000) 1000000) = g
    have HGG := Lib.hid hg; clear hg
    go_wp2_with fail
    have hsz := hb1.size
    simp only [World.size_alloc] at hsz
    have q0 : w1.cell? ⟨w.heap.size, 0, none⟩ = some (.slice a n c) := by rw [cellB hb1 _ _ (by simp; omega)]; go_simp
    have q1 : w1.cell? ⟨w.heap.size, 1, none⟩ = some (.bool e) := by rw [cellB hb1 _ _ (by simp; omega)]; go_simp
    have q2 : w1.cell? ⟨w.heap.size + 1, 0, none⟩ = some (.slice a1 n1 c1) := by rw [cellB hb1 _ _ (by simp)]; go_simp
    have q3 : w1.cell? ⟨w.heap.size + 1, 1, none⟩ = some (.slice a2 n2 c2) := by rw [cellB hb1 _ _ (by simp)]; go_simp
    have hbw : Below w.heap.size w w1 := by (repeat' (first | (with_reducible exact Below.refl _ _) | (with_reducible assumption) | (with_reducible refine Below.drewN ?_ _) | (with_reducible refine Below.alloc ?_ ?_ _) | (with_reducible refine Below.drew ?_) | (with_reducible refine Below.setCell ?_ ?_ _) | (with_reducible refine Below.step (by assumption) ?_ ?_) | (with_reducible exact And.left (by assumption)) | go_size))
    clear hb1 hb1'
    refine later_of_eq 18 (by kernel_rfl) (by kernel_rfl) ?_; simp only [List.take_succ_cons, List.take_zero, List.drop_succ_cons, List.drop_zero]; repeat go_big_quiet_step (first
        | (go_at_call 72; exact calls_later (HCL.out _ (hbw.trans (Below.mono (Later.below _) (by omega)))))
        | (go_at_call 62; exact calls_later_same (unless_any _ _ _)))
    refine wpQuiet_nil ?_; intro uw hub
    have hu := hub.size
    go_wp2_with (first
        | (go_at_call 61; refine (first3 _ _ _ _ _ _ _ (by rfl) (by simp)).mono ?_; rintro e7 w7 ⟨rfl, rfl⟩))
    go_ret
    refine ⟨ret_int (by rw [HGG.out]), ?_⟩
    (repeat' (first | (with_reducible exact Below.refl _ _) | (with_reducible assumption) | (with_reducible refine Below.drewN ?_ _) | (with_reducible refine Below.alloc ?_ ?_ _) | (with_reducible refine Below.drew ?_) | (with_reducible refine Below.setCell ?_ ?_ _) | (with_reducible refine Below.step (by assumption) ?_ ?_) | (with_reducible exact And.left (by assumption)) | go_size))
end Go.Proofs.Ytbjgklifmillgaa
