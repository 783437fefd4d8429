import Derived.Deep.CutRange
import Derived.Deep.AppendLies
import Derived.Test.YtdklmcicogmeaaaGreatDNet
/- Deformations: their error: the program's function. -/
namespace Go.Proofs.YtdklmcicogmeaaaGreat
open Go.RowKit
set_option linter.unusedVariables false

/-- The error of one change at n sections. -/
def devE (n : Nat) (p : T3) : Int := firstErr [unl (wi p.x 0 ((n : Int) - 1)) 6, unl (wi p.y 0 2) 15, unl (wi p.z (-10) 10) 2]
def defsE (n : Nat) (l : List T3) : Int := if 6 < l.length then 8 else (firstAt (fun k => devE n (pAt l k)) l.length 0).2
theorem defsE_zero {n : Nat} {l : List T3} (h : defsE n l = 0) : l.length ≤ 6 ∧ ∀ k, k < l.length → (0 ≤ (pAt l k).x ∧ (pAt l k).x < (n : Int)) ∧ (0 ≤ (pAt l k).y ∧ (pAt l k).y ≤ 2) ∧ (-10 ≤ (pAt l k).z ∧ (pAt l k).z ≤ 10) := by
  unfold defsE at h
  by_cases h6 : 6 < l.length
  · rw [if_pos h6] at h; simp at h
  · rw [if_neg h6] at h
    refine ⟨by omega, fun k hk => ?_⟩
    have h1 := (firstAt_none _ _ h).2 k (by omega) (by omega)
    simp only [devE] at h1
    obtain ⟨h2, h1⟩ := firstErr_cons.1 h1
    obtain ⟨h3, h1⟩ := firstErr_cons.1 h1
    obtain ⟨h4, _⟩ := firstErr_cons.1 h1
    rw [unl_eq_zero (by omega), wi_iff] at h2 h3 h4
    exact ⟨⟨h2.1, by omega⟩, h3, h4⟩
theorem pAt_get3 {l : List T3} {k : Nat} {p : T3} (h : l[k]? = some p) : pAt l k = p := by
  unfold pAt; rw [List.getD_eq_getElem?_getD, h]; rfl
set_option maxHeartbeats 1000000 in
set_option maxRecDepth 100000 in
theorem deformationsErr_any (n c m cm : Nat) (a ap : Option Addr) (l : List T3) (w : World) (hn : n ≤ 9223372036854775807) (hl : T3R w ap m l) :
    Calls Tryz.prog 106 #[.agg #[.slice a n c], .slice ap m cm] w fun e' w' => e' = .returned (.int .i64 (defsE n l)) ∧ Below w.heap.size w w' := by
  have hm := hl.small
  have HL := Lib.hid hl
  have HX := Lib.hid (fun (x a b : Int) w' => d_within_any x a b w')
  have HS := Lib.hid (fun (x : Int) w' => d_isSized_any x 10 w' (by omega) (by omega))
  have HU := Lib.hid (fun (b : Bool) (e : Int) w' => d_unless_any b e w')
  have hE : defsE n l = if 6 < m then 8 else (firstAt (fun k => devE n (pAt l k)) m 0).2 := by unfold defsE; rw [hl.len]
  rw [hE]
  clear hl hE
  have w1 : wrap64 ((n : Int) - 1) = (n : Int) - 1 := by unfold wrap64; omega
  by_cases h6 : 6 < m
  · rw [if_pos h6]
    have h6' : (6 : Int) < (m : Int) := by omega
    go_enter Tryz.func106, Tryz.ntmps106
    go_wp2
    go_ret
    exact ⟨rfl, by (repeat' (first | (with_reducible exact Below.refl _ _) | (with_reducible assumption) | (with_reducible refine Below.drewN ?_ _) | (with_reducible refine Below.alloc ?_ ?_ _) | (with_reducible refine Below.drew ?_) | (with_reducible refine Below.setCell ?_ ?_ _) | (with_reducible refine Below.step (by assumption) ?_ ?_) | (with_reducible exact And.left (by assumption)) | go_size))⟩
  · rw [if_neg h6]
    have h6' : ¬ (6 : Int) < (m : Int) := by omega
    go_enter Tryz.func106, Tryz.ntmps106
    go_wp2_with fail
    generalize hW : World.alloc _ _ = w5
    have hb5 : Below w.heap.size w w5 := by rw [← hW]; (repeat' (first | (with_reducible exact Below.refl _ _) | (with_reducible assumption) | (with_reducible refine Below.drewN ?_ _) | (with_reducible refine Below.alloc ?_ ?_ _) | (with_reducible refine Below.drew ?_) | (with_reducible refine Below.setCell ?_ ?_ _) | (with_reducible refine Below.step (by assumption) ?_ ?_) | (with_reducible exact And.left (by assumption)) | go_size))
    have q0 : w5.cell? ⟨w.heap.size, 0, none⟩ = some (.slice a n c) := by { rw [← hW]; clear hW; go_simp }
    have l0 : w.heap.size < w5.heap.size := by { rw [← hW]; clear hW; simp }
    have HB5 := Lib.hid hb5
    clear hW hb5
    go_loopw [13] (fun i wr => ∃ k : Nat, i = .int .i64 k ∧ k ≤ m ∧ Hid (firstAt (fun k => devE n (pAt l k)) (m - k) k = firstAt (fun k => devE n (pAt l k)) m 0) ∧ Hid (Below w5.heap.size w5 wr)) (fun i _ => m - (intOf i).toNat)
    case atStart => exact ⟨0, rfl, Nat.zero_le _, Lib.hid rfl, Lib.hid (Below.refl _ _)⟩
    case round =>
      obtain ⟨k, rfl, hk, hF, hB⟩ := hrel
      have i0 : (0 : Int) ≤ (k : Int) := by omega
      by_cases hlt : k < m
      · have hbw := HB5.out.trans (hB.out.mono HB5.out.size)
        have HBW := Lib.hid hbw
        obtain ⟨b0, o0, rfl, hb0, hcs⟩ := (HL.out.below hbw).addr (by omega)
        obtain ⟨⟨x, y, z⟩, hx⟩ := ER.get HL.out hlt
        obtain ⟨c0, c1, c2⟩ := hcs k _ hx
        have q0r : wr.cell? ⟨w.heap.size, 0, none⟩ = some (.slice a n c) := by rw [cellB hB.out _ _ l0]; exact q0
        have lw : w.heap.size < wr.heap.size := by have := hB.out.size; omega
        have hF' := hF.out
        rw [firstAt_step hlt] at hF'
        simp only [pAt_get3 hx] at hF'
        obtain ⟨E, hEE⟩ : ∃ E, E = devE n ⟨x, y, z⟩ := ⟨_, rfl⟩
        rw [← hEE] at hF'
        have HF := Lib.hid hF'
        have hE2 : E = firstErr [unl (wi x 0 ((n : Int) - 1)) 6, unl (wi y 0 2) 15, unl (wi z (-10) 10) 2] := hEE
        have i1 : (k : Int) < (m : Int) := by omega
        have HE := Lib.hid hE2
        simp only at c0 c1 c2
        clear hF' hF hx hE2 hEE hcs hbw
        go_wp2_with fail
        generalize hW : World.alloc _ _ = wd
        have hbd : Below wr.heap.size wr wd := by rw [← hW]; (repeat' (first | (with_reducible exact Below.refl _ _) | (with_reducible assumption) | (with_reducible refine Below.drewN ?_ _) | (with_reducible refine Below.alloc ?_ ?_ _) | (with_reducible refine Below.drew ?_) | (with_reducible refine Below.setCell ?_ ?_ _) | (with_reducible refine Below.step (by assumption) ?_ ?_) | (with_reducible exact And.left (by assumption)) | go_size))
        have y0 : wd.cell? ⟨wr.heap.size, 0, none⟩ = some (.int .i64 x) := by { rw [← hW]; clear hW; go_simp }
        have y1 : wd.cell? ⟨wr.heap.size, 1, none⟩ = some (.int .i64 y) := by { rw [← hW]; clear hW; go_simp }
        have y2 : wd.cell? ⟨wr.heap.size, 2, none⟩ = some (.int .i64 z) := by { rw [← hW]; clear hW; go_simp }
        have ly : wr.heap.size < wd.heap.size := by { rw [← hW]; clear hW; simp }
        have q0e : wd.cell? ⟨w.heap.size, 0, none⟩ = some (.slice a n c) := by rw [cellB hbd _ _ lw]; exact q0r
        have hwd : w.heap.size < wd.heap.size := by omega
        have HBD := Lib.hid (HBW.out.trans (hbd.mono HBW.out.size))
        have HB9 := Lib.hid (hB.out.trans (hbd.mono hB.out.size))
        clear hW hbd hB q0r c0 c1 c2 lw hb0
        refine later_of_eq 16 (by kernel_rfl) (by kernel_rfl) ?_; simp only [List.take_succ_cons, List.take_zero, List.drop_succ_cons, List.drop_zero]; repeat go_big_quiet_step (first | (with_reducible exact calls_later_same (HX.out _ _ _ _)) | (with_reducible exact calls_later_same (HS.out _ _)) | (with_reducible exact calls_later_same (HU.out _ _ _)))
        refine wpQuiet_nil ?_; intro w6 hb6
        have HB6 := Lib.hid (HBD.out.trans (Below.mono (show Below wd.heap.size wd w6 by (repeat' (first | (with_reducible exact Below.refl _ _) | (with_reducible assumption) | (with_reducible refine Below.drewN ?_ _) | (with_reducible refine Below.alloc ?_ ?_ _) | (with_reducible refine Below.drew ?_) | (with_reducible refine Below.setCell ?_ ?_ _) | (with_reducible refine Below.step (by assumption) ?_ ?_) | (with_reducible exact And.left (by assumption)) | go_size))) HBD.out.size))
        have HB7 := Lib.hid (HB9.out.trans (Below.mono (show Below wd.heap.size wd w6 by (repeat' (first | (with_reducible exact Below.refl _ _) | (with_reducible assumption) | (with_reducible refine Below.drewN ?_ _) | (with_reducible refine Below.alloc ?_ ?_ _) | (with_reducible refine Below.drew ?_) | (with_reducible refine Below.setCell ?_ ?_ _) | (with_reducible refine Below.step (by assumption) ?_ ?_) | (with_reducible exact And.left (by assumption)) | go_size))) HB9.out.size))
        clear hb6
        go_wp2_with fail
        refine (d_first3 _ _ _ _ _ _ _ (by rfl) (by simp)).mono ?_
        rintro e10 w10 ⟨rfl, hw10⟩
        have hb10 : Below w6.heap.size w6 w10 := by rw [← hw10]; (repeat' (first | (with_reducible exact Below.refl _ _) | (with_reducible assumption) | (with_reducible refine Below.drewN ?_ _) | (with_reducible refine Below.alloc ?_ ?_ _) | (with_reducible refine Below.drew ?_) | (with_reducible refine Below.setCell ?_ ?_ _) | (with_reducible refine Below.step (by assumption) ?_ ?_) | (with_reducible exact And.left (by assumption)) | go_size))
        have HB10 := Lib.hid (HB6.out.trans (hb10.mono HB6.out.size))
        have HB11 := Lib.hid (HB7.out.trans (hb10.mono HB7.out.size))
        clear hw10 hb10 HB6 HB7
        rw [← HE.out]
        by_cases hE0 : E ≠ 0
        · rw [if_pos hE0] at HF
          have hE1 : (E != 0) = true := by simpa using hE0
          clear hE0 HE
          go_wp2
          go_ret
          exact ⟨by rw [← HF.out]; rfl, HB10.out⟩
        · rw [if_neg hE0] at HF
          have hE1 : (E != 0) = false := by simpa using hE0
          clear hE0 HE
          go_wp2
          go_roundw
          case rel => exact ⟨k + 1, by go_num, by omega, HF, HB11⟩
          case measure => simp [intOf]; omega
      · have HE := Lib.hid (show (0 : Int) = (firstAt (fun k => devE n (pAt l k)) m 0).2 by rw [← hF.out, firstAt_end (by omega)])
        have HBW := Lib.hid (HB5.out.trans (hB.out.mono HB5.out.size))
        clear hF
        go_wp2
        go_ret
        exact ⟨by rw [← HE.out]; rfl, HBW.out⟩
end Go.Proofs.YtdklmcicogmeaaaGreat

/- A network that is deformed: plain words and the program's function. -/
namespace Go.Proofs.YtdklmcicogmeaaaGreat
open Go.RowKit
set_option linter.unusedVariables false

def bump (k z : Int) (p : T3) : T3 := if k = 0 then { p with x := p.x + z } else if k = 1 then { p with y := p.y + z } else { p with z := p.z + z }
/-- The sections, each change taken in turn. -/
def dfm (s l : List T3) : List T3 := l.foldl (fun s p => s.modify p.x.toNat (bump p.y p.z)) s
theorem dfm_len (s : List T3) : ∀ l, (dfm s l).length = s.length
  | [] => rfl
  | q :: r => by
    show (dfm (s.modify q.x.toNat (bump q.y q.z)) r).length = _
    rw [dfm_len _ r, List.length_modify]
theorem dfm_snoc (s l : List T3) (p : T3) : dfm s (l ++ [p]) = (dfm s l).modify p.x.toNat (bump p.y p.z) := by simp [dfm]
def Bd (k : Int) (p : T3) : Prop := (-(10 * k) ≤ p.x ∧ p.x ≤ 5 + 10 * k) ∧ (-(10 * k) ≤ p.y ∧ p.y ≤ 5 + 10 * k) ∧ (-(10 * k) ≤ p.z ∧ p.z ≤ 5 + 10 * k)
theorem bd_step {k : Int} {S : List T3} {i : Nat} {y z : Int} (h : ∀ p ∈ S, Bd k p) (hk : 0 ≤ k) (hz : -10 ≤ z ∧ z ≤ 10) : ∀ p ∈ S.modify i (bump y z), Bd (k + 1) p := by
  intro p hp
  obtain ⟨j, hj, rfl⟩ := List.mem_iff_getElem.1 hp
  rw [List.length_modify] at hj
  rw [List.getElem_modify]
  have hq := h S[j] (List.getElem_mem hj)
  generalize S[j] = q at *
  obtain ⟨a, b, c⟩ := q
  unfold Bd bump at *
  simp only at hq
  split
  · split
    · simp only; omega
    · split
      · simp only; omega
      · simp only; omega
  · simp only; omega
/-- One number of one section, stored. -/
theorem set_modify {v z : Int} {y : Nat} : ∀ {S : List T3} {i : Nat} {p : T3}, S[i]? = some p → (y = 0 ∧ v = p.x + z ∨ y = 1 ∧ v = p.y + z ∨ y = 2 ∧ v = p.z + z) → (ecells e3 S).set (i * 3 + y) (.int .i64 v) = ecells e3 (S.modify i (bump y z))
  | [], i, p, h, _ => by simp at h
  | q :: r, 0, p, h, hv => by
    simp only [List.getElem?_cons_zero, Option.some.injEq] at h
    subst h
    obtain ⟨a, b, c⟩ := q
    rcases hv with ⟨rfl, rfl⟩ | ⟨rfl, rfl⟩ | ⟨rfl, rfl⟩ <;> simp [ecells, e3, bump]
  | q :: r, i + 1, p, h, hv => by
    simp only [List.getElem?_cons_succ] at h
    have := set_modify (z := z) h hv
    obtain ⟨a, b, c⟩ := q
    have e : (i + 1) * 3 + y = (i * 3 + y) + 3 := by omega
    rw [e]
    simp only [ecells, List.flatMap_cons, e3, List.modify_succ_cons, List.cons_append, List.nil_append, List.set_cons_succ] at *
    rw [this]
theorem infoSec : (Tryz.prog.info? 178).map (fun i => (i.zero, i.size, i.bytes)) = some (some (.agg #[.int .i64 0, .int .i64 0, .int .i64 0]), 3, 24) := by kernel_rfl
set_option maxRecDepth 100000 in
theorem cloneSecs_any (l : List T3) (a : Option Addr) (n c : Nat) (w : World) (h : T3R w a n l) (h0 : 0 < n) (hn : n ≤ 100000) :
    Calls Tryz.prog 130 #[.slice a n c] w fun e' w' => ∃ a' c', e' = .returned (.slice a' n c') ∧ Below w.heap.size w w' ∧ w'.ownsRow w.heap.size 178 3 (.slice a' n c') n (ecells e3 l) := by
  obtain ⟨b, o, rfl, _, _⟩ := h.addr h0
  have H := Lib.hid h
  have qT : ∀ (w : World), (binOp .eql 79 (.slice (some ⟨b, o, none⟩) n c) (.slice none 0 0)).run Tryz.prog w = .ok (.bool false) w := fun w => by first | exact Lib.run_eql_slice_nil w _ _ _ _ _ _ _ Tryz.underlying79 | exact Go.run_eql_slice_nil w _ _ _ _ _ _ _ Tryz.underlying79 | kernel_rfl
  clear h
  go_enter Tryz.func130, Tryz.ntmps130
  go_wp2_with (at_builtin; refine wpList_append_sl _ rfl _ _ 79 rfl w.heap.size 178 _ 3 24 Tryz.underlying79 infoSec rfl (by omega) _ _ _ rfl (World.ownsRow_made w #[] 0 (by omega) (by simp [maxLen]) rfl) _ n c (ecells e3 l) rfl (H.out.2.below (by (repeat' (first | (with_reducible exact Below.refl _ _) | (with_reducible assumption) | (with_reducible refine Below.drewN ?_ _) | (with_reducible refine Below.alloc ?_ ?_ _) | (with_reducible refine Below.drew ?_) | (with_reducible refine Below.setCell ?_ ?_ _) | (with_reducible refine Below.step (by assumption) ?_ ?_) | (with_reducible exact And.left (by assumption)) | go_size)))) (ecells_ones e3_one _) (by omega) (by omega) (by simp) ?_)
  intro v2 w2 hown2 _ hb2
  try simp only [Nat.zero_add, List.nil_append] at hown2
  obtain ⟨a', c', rfl, _, _⟩ := owns_slice hown2
  have HO := Lib.hid hown2
  have HB := Lib.hid hb2
  clear hown2 hb2
  go_wp2
  go_ret
  exact ⟨a', c', rfl, Below.trans (by (repeat' (first | (with_reducible exact Below.refl _ _) | (with_reducible assumption) | (with_reducible refine Below.drewN ?_ _) | (with_reducible refine Below.alloc ?_ ?_ _) | (with_reducible refine Below.drew ?_) | (with_reducible refine Below.setCell ?_ ?_ _) | (with_reducible refine Below.step (by assumption) ?_ ?_) | (with_reducible exact And.left (by assumption)) | go_size))) HB.out, HO.out⟩
end Go.Proofs.YtdklmcicogmeaaaGreat
