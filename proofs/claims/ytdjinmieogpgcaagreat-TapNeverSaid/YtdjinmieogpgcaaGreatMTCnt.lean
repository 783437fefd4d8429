import Derived.Test.YtdjinmieogpgcaaGreatMTCirP
import Derived.Test.YtdjinmieogpgcaaGreatTCurr
/- slices.Contains and base.Has at integers. -/
namespace Go.Proofs.YtdjinmieogpgcaaGreat
open Go.RowKit
set_option linter.unusedVariables false
set_option maxHeartbeats 1000000 in
set_option maxRecDepth 100000 in
theorem cntIndex_any (x : Int) (l : List Int) (a : Option Addr) (n c : Nat) (w : World) (hl : IntsR w a n l) :
    Calls Tryz.prog 81 #[.slice a n c, .int .i64 x] w fun e' w' => e' = .returned (.int .i64 (idxFrom (fun q : Int => decide (x = q)) l 0)) ∧ w = w' := by
 have HL := Lib.hid hl
 have hn := hl.small
 clear hl
 go_enter Tryz.func81, Tryz.ntmps81
 go_wp2
 go_loop [8] (fun i => ∃ k : Nat, i = .int .i64 k ∧ k ≤ n ∧ Hid (idxFrom (fun q : Int => decide (x = q)) (l.drop k) k = idxFrom (fun q : Int => decide (x = q)) l 0)) (fun i => n - (intOf i).toNat)
 case atStart => exact ⟨0, rfl, Nat.zero_le _, rfl⟩
 case round =>
  obtain ⟨k, rfl, hk, hF⟩ := hrel
  by_cases hlt : k < n
  ·obtain ⟨b, o, rfl, hb, hc⟩ := HL.out.addr (by omega)
   have hck := hc k hlt
   clear hc
   have hF' := hF.out
   rw [drop_at l k 0 (by rw [HL.out.len]; exact hlt), idxFrom] at hF'
   have HF := Lib.hid hF'; clear hF' hF
   generalize l.getD k 0 = y at *
   by_cases hx : x = y
   ·subst hx
    rw [if_pos (by simp)] at HF
    go_wp2
    go_ret
    exact ⟨ret_int HF.out, rfl⟩
   ·rw [if_neg (by simpa using hx)] at HF
    have hx' : (x == y) = false := by simpa using hx
    clear hx
    go_wp2
    go_round
    case rel => exact ⟨k + 1, by go_num, by omega, HF⟩
    case measure => simp [intOf]; omega
  ·go_wp2
   go_ret
   exact ⟨ret_int (by rw [← hF.out, drop_end l k (by rw [HL.out.len]; omega)]; rfl), rfl⟩
set_option maxRecDepth 100000 in
theorem cntContains_any (x : Int) (l : List Int) (a : Option Addr) (n c : Nat) (w : World) (hl : IntsR w a n l) :
    Calls Tryz.prog 53 #[.slice a n c, .int .i64 x] w fun e' w' => e' = .returned (.bool (l.any (fun q : Int => decide (x = q)))) ∧ w = w' := by
 have HI := Lib.hid (cntIndex_any x l a n c w hl)
 clear hl
 go_enter Tryz.func53, Tryz.ntmps53
 go_wp2_with fail
 refine HI.out.mono ?_
 rintro e w' ⟨rfl, rfl⟩
 go_wp2
 go_ret
 exact ⟨ret_bool (idx_any l 0), rfl⟩
set_option maxHeartbeats 1000000 in
set_option maxRecDepth 100000 in
theorem cntHas_any (x : Int) (l : List Int) (a : Option Addr) (n c : Nat) (w : World) (hl : IntsR w a n l) :
    Calls Tryz.prog 26 #[.slice a n c, .int .i64 x] w fun e' w' => e' = .returned (.bool (l.any (fun q : Int => decide (x = q)))) ∧ w = w' := by
 have HL := Lib.hid hl
 have hn := hl.small
 clear hl
 obtain ⟨V, hV⟩ : ∃ V, V = l.any (fun q : Int => decide (x = q)) := ⟨_, rfl⟩
 have HV := Lib.hid hV
 rw [← hV]
 clear hV
 go_enter Tryz.func26, Tryz.ntmps26
 go_wp2_with fail
 go_loopw [5] (fun i wr => ∃ k : Nat, i = .int .i64 (k : Int) ∧ k ≤ n ∧ Hid (V = (l.drop k).any (fun q : Int => decide (x = q))) ∧ wr = w) (fun i _ => n - (intOf i).toNat)
 case atStart => exact ⟨0, rfl, Nat.zero_le _, HV, rfl⟩
 case round =>
  obtain ⟨k, rfl, hk, hF, rfl⟩ := hrel
  have i0 : (0 : Int) ≤ (k : Int) := by omega
  by_cases hlt : k < n
  ·have i1 : (k : Int) < (n : Int) := by omega
   obtain ⟨b, o, rfl, hb, hc⟩ := HL.out.addr (by omega)
   have hck := hc k hlt
   clear hc
   have hF' := hF.out
   rw [drop_at l k 0 (by rw [HL.out.len]; exact hlt), List.any_cons] at hF'
   generalize l.getD k 0 = y at *
   by_cases hx : y = x
   ·subst hx
    have HF := Lib.hid (show V = true by rw [hF']; simp)
    clear hF' hF
    go_wp2
    go_ret
    exact ⟨ret_bool HF.out.symm, rfl⟩
   ·have HF := Lib.hid (show V = (l.drop (k + 1)).any (fun q : Int => decide (x = q)) by rw [hF', decide_eq_false (fun e => hx e.symm), Bool.false_or])
    have hx' : (y == x) = false := by simpa using hx
    clear hF' hF hx
    go_wp2
    go_roundw
    case rel => exact ⟨k + 1, by go_num, by omega, HF, by first | rfl | trivial⟩
    case measure => simp [intOf]; omega
  ·obtain rfl : k = n := by omega
   have HF := Lib.hid (show V = false by rw [hF.out, List.drop_eq_nil_of_le (by rw [HL.out.len]; omega)]; rfl)
   go_wp2
   go_ret
   exact ⟨ret_bool HF.out.symm, rfl⟩
/- A state of an invariant, in plain words. -/
def kmE (m : Mac) (l : Lim) (L : List Int) (s c : Nat) : Int := firstErr [chgE m l s c, unl (L.any (fun q : Int => decide (((trn s c : Nat) : Int) = q))) 14]
def kmsE (m : Mac) (l : Lim) (L : List Int) (s : Nat) (cs : List Nat) : Int := firstErr (cs.map (kmE m l L s))
def kepB (L : List Int) (i : Nat) : Bool := decide (i = 0) || decide (L.getD (i - 1) 0 < L.getD i 0)
def kepF (m : Mac) (L : List Int) (i : Nat) : Int := firstErr [staE m.br.length (L.getD i 0), unl (kepB L i) 9]
def kepE (m : Mac) (l : Lim) (L : List Int) (i : Nat) : Int :=
 if kepF m L i ≠ 0 then kepF m L i else if safE m l (L.getD i 0).toNat ≠ 0 then safE m l (L.getD i 0).toNat else kmsE m l L (L.getD i 0).toNat (movL m (L.getD i 0).toNat)
def invX (m : Mac) (l : Lim) (L : List Int) : Int × Int :=
 if (firstAt (kepE m l L) L.length 0).2 ≠ 0 then firstAt (kepE m l L) L.length 0 else (0, unl (L.any (fun q : Int => decide (m.st = q))) 6)
/- New cells of a function's parameters. -/
open Go.RowKit Go.Shelf
theorem alA1 (w : World) (o1 : Obj) : Below w.heap.size w (w.alloc o1) ∧ BlkR (w.alloc o1) w.heap.size o1 := ⟨by (first|exact bwg|go_size), heap_alloc_new _ _⟩
theorem alA2 (w : World) (o1 o2 : Obj) : Below w.heap.size w ((w.alloc o1).alloc o2) ∧ BlkR ((w.alloc o1).alloc o2) w.heap.size o1 ∧ BlkR ((w.alloc o1).alloc o2) (w.heap.size + 1) o2 := by
 refine ⟨by (first|exact bwg|go_size), ?_, ?_⟩
 ·show _ = _
  rw [Below.heap_alloc _ _ _ (by simp)]
  exact heap_alloc_new _ _
 ·have := heap_alloc_new (w.alloc o1) o2
  show _ = _
  simpa using this
theorem alA3 (w : World) (o1 o2 o3 : Obj) : Below w.heap.size w (((w.alloc o1).alloc o2).alloc o3) ∧ BlkR (((w.alloc o1).alloc o2).alloc o3) w.heap.size o1 ∧ BlkR (((w.alloc o1).alloc o2).alloc o3) (w.heap.size + 1) o2 ∧ BlkR (((w.alloc o1).alloc o2).alloc o3) (w.heap.size + 1 + 1) o3 := by
 obtain ⟨h1, h2, h3⟩ := alA2 w o1 o2
 refine ⟨by (first|exact bwg|go_size), ?_, ?_, ?_⟩
 ·show _ = _
  rw [Below.heap_alloc _ _ _ h2.lt]
  exact h2
 ·show _ = _
  rw [Below.heap_alloc _ _ _ h3.lt]
  exact h3
 ·have := heap_alloc_new ((w.alloc o1).alloc o2) o3
  show _ = _
  simpa using this
end Go.Proofs.YtdjinmieogpgcaaGreat
