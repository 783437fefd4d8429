import Derived.Deep.AppendLies
import Derived.Test.YtdklmcicogmeaaaGreatMDLvl
import Derived.Test.YtdklmcicogmeaaaGreatMDRec
/- The level of a series: the program's function. -/
namespace Go.Proofs.YtdklmcicogmeaaaGreat
open Go.RowKit
set_option linter.unusedVariables false

/-- The error of a level, then the level. -/
def lvErr (s : Ser) : Int := firstErr [(serE s).2, unl (decide (s.least ≤ (s.l.length : Int))) 12]
def lvAmp (l : List T3) : List Int := l.map fun p => sz p.y
def levE (s : Ser) : Int × Int := if lvErr s ≠ 0 then (0, lvErr s) else (lvlOf (lvAmp s.l) s.least.toNat, 0)
theorem lvErr_zero {s : Ser} (h : lvErr s = 0) : (serE s).2 = 0 ∧ s.least ≤ (s.l.length : Int) := by
  unfold lvErr at h
  obtain ⟨h1, h2⟩ := firstErr_cons.1 h
  obtain ⟨h3, _⟩ := firstErr_cons.1 h2
  exact ⟨h1, by rw [unl_eq_zero (by omega)] at h3; simpa using h3⟩
theorem lvAmp_take {l : List T3} {k : Nat} {p : T3} (h : l[k]? = some p) : lvAmp (l.take (k + 1)) = lvAmp (l.take k) ++ [sz p.y] := by
  unfold lvAmp
  rw [List.take_add_one, h]; simp
set_option maxHeartbeats 2000000 in
set_option maxRecDepth 100000 in
theorem levelOf_any (s : Ser) (ap : Option Addr) (n cp : Nat) (w : World) (hw : SerW s) (hl : T3R w ap n s.l) :
    Calls Tryz.prog 30 #[.agg #[.string s.nm, .int .i64 s.per, .int .i64 s.least, .int .i64 s.a, .int .i64 s.b, .int .i64 s.c, .int .i64 s.d, .slice ap n cp]] w
      fun e' w' => e' = .returned (.tuple #[.int .i64 (levE s).1, .int .i64 (levE s).2]) ∧ Below w.heap.size w w' := by
  have HO := Lib.hid (fun (w' : World) (hb : Below w.heap.size w w') => openS_any s ap n cp w' hw (hl.below hb))
  have hn := hl.small
  have HL := Lib.hid hl
  have HLN := Lib.hid hl.len
  have HU := Lib.hid (fun (b : Bool) (e : Int) w' => d_unless_any b e w')
  have HE0 := Lib.hid (show firstErr [(serE s).2, unl (decide (s.least ≤ (n : Int))) 12] = lvErr s by unfold lvErr; rw [hl.len])
  have HZ := Lib.hid (fun h : lvErr s = 0 => And.intro (headE_zero (serE_zero (lvErr_zero h).1).2.1) (And.intro (serE_zero (lvErr_zero h).1).2.2 (lvErr_zero h).2))
  have HV := Lib.hid (show levE s = if lvErr s ≠ 0 then (0, lvErr s) else (lvlOf (lvAmp s.l) s.least.toNat, 0) by rfl)
  generalize levE s = V at *
  generalize lvErr s = X at *
  generalize serE s = E at *
  obtain ⟨nm, per, least, a, b, c, d, l⟩ := s
  obtain ⟨ek, e⟩ := E
  simp only at HO HL HLN HE0 HZ HV ⊢
  clear hl hw
  go_enter Tryz.func30, Tryz.ntmps30
  go_wp2_with fail
  refine (HO.out _ (by (repeat' (first | (with_reducible exact Below.refl _ _) | (with_reducible assumption) | (with_reducible refine Below.drewN ?_ _) | (with_reducible refine Below.alloc ?_ ?_ _) | (with_reducible refine Below.drew ?_) | (with_reducible refine Below.setCell ?_ ?_ _) | (with_reducible refine Below.step (by assumption) ?_ ?_) | (with_reducible exact And.left (by assumption)) | go_size)))).mono ?_
  rintro e5 w5 ⟨rfl, hb5⟩
  have q0 : w5.cell? ⟨w.heap.size, 0, none⟩ = some (.string nm) := by { rw [cellB hb5 _ _ (by first | (simp; done) | (simp; omega) | omega)]; all_goals (first | assumption | go_simp) }; have q1 : w5.cell? ⟨w.heap.size, 1, none⟩ = some (.int .i64 per) := by { rw [cellB hb5 _ _ (by first | (simp; done) | (simp; omega) | omega)]; all_goals (first | assumption | go_simp) }; have q2 : w5.cell? ⟨w.heap.size, 2, none⟩ = some (.int .i64 least) := by { rw [cellB hb5 _ _ (by first | (simp; done) | (simp; omega) | omega)]; all_goals (first | assumption | go_simp) }; have q3 : w5.cell? ⟨w.heap.size, 3, none⟩ = some (.int .i64 a) := by { rw [cellB hb5 _ _ (by first | (simp; done) | (simp; omega) | omega)]; all_goals (first | assumption | go_simp) }; have q4 : w5.cell? ⟨w.heap.size, 4, none⟩ = some (.int .i64 b) := by { rw [cellB hb5 _ _ (by first | (simp; done) | (simp; omega) | omega)]; all_goals (first | assumption | go_simp) }; have q5 : w5.cell? ⟨w.heap.size, 5, none⟩ = some (.int .i64 c) := by { rw [cellB hb5 _ _ (by first | (simp; done) | (simp; omega) | omega)]; all_goals (first | assumption | go_simp) }; have q6 : w5.cell? ⟨w.heap.size, 6, none⟩ = some (.int .i64 d) := by { rw [cellB hb5 _ _ (by first | (simp; done) | (simp; omega) | omega)]; all_goals (first | assumption | go_simp) }; have q7 : w5.cell? ⟨w.heap.size, 7, none⟩ = some (.slice ap n cp) := by { rw [cellB hb5 _ _ (by first | (simp; done) | (simp; omega) | omega)]; all_goals (first | assumption | go_simp) }
  have hz5 := hb5.size
  simp only [World.size_alloc] at hz5
  have l1 : w.heap.size < w5.heap.size := by omega
  have HB5 := Lib.hid (show Below w.heap.size w w5 by (repeat' (first | (with_reducible exact Below.refl _ _) | (with_reducible assumption) | (with_reducible refine Below.drewN ?_ _) | (with_reducible refine Below.alloc ?_ ?_ _) | (with_reducible refine Below.drew ?_) | (with_reducible refine Below.setCell ?_ ?_ _) | (with_reducible refine Below.step (by assumption) ?_ ?_) | (with_reducible exact And.left (by assumption)) | go_size)))
  clear hb5 HO
  go_wp2_with fail
  refine (HU.out _ _ _).mono ?_
  rintro e6 w6 ⟨rfl, rfl⟩
  go_wp2_with fail
  refine (d_first2 _ _ _ _ _ _ (by rfl) (by simp)).mono ?_
  rintro e7 w7 ⟨rfl, hw7⟩
  rw [HE0.out]
  have hb7 : Below w5.heap.size w5 w7 := by rw [← hw7]; (repeat' (first | (with_reducible exact Below.refl _ _) | (with_reducible assumption) | (with_reducible refine Below.drewN ?_ _) | (with_reducible refine Below.alloc ?_ ?_ _) | (with_reducible refine Below.drew ?_) | (with_reducible refine Below.setCell ?_ ?_ _) | (with_reducible refine Below.step (by assumption) ?_ ?_) | (with_reducible exact And.left (by assumption)) | go_size))
  have p2 : w7.cell? ⟨w.heap.size, 2, none⟩ = some (.int .i64 least) := by rw [cellB hb7 _ _ l1]; exact q2
  have p7 : w7.cell? ⟨w5.heap.size, 7, none⟩ = some (.slice ap n cp) := by { rw [← hw7]; clear hw7; go_simp }
  have hz7 : w5.heap.size + 2 ≤ w7.heap.size := by rw [← hw7]; simp
  have HB7 := Lib.hid (HB5.out.trans (hb7.mono HB5.out.size))
  clear hw7 hb7 q0 q1 q2 q3 q4 q5 q6 q7 HE0 HU
  by_cases hX : X ≠ 0
  · have hV := HV.out
    rw [if_pos hX] at hV
    have hX' : (X != 0) = true := by simpa using hX
    subst hV
    go_wp2
    go_ret2
    exact ⟨rfl, HB7.out⟩
  · have hX1 : X = 0 := Decidable.not_not.1 hX
    have hV := HV.out
    rw [if_neg hX] at hV
    obtain ⟨⟨_, _, ⟨hl1, hl2⟩, _, hl3⟩, hpl, hle⟩ := HZ.out hX1
    subst hX1
    rw [HLN.out] at hl3 hle
    have HP := Lib.hid hpl
    clear HZ HV hX hpl
    go_wp2_with fail
    go_loopw [6, 31] (fun v i wr => ∃ (k : Nat) (av : Option Addr) (cv : Nat), i = .int .i64 k ∧ v = .slice av k cv ∧ k ≤ n ∧ Hid (wr.ownsRow w7.heap.size 3 1 (.slice av k cv) k (icells (lvAmp (l.take k)))) ∧ Hid (Below w7.heap.size w7 wr)) (fun _ i _ => n - (intOf i).toNat)
    case atStart => exact ⟨0, none, 0, rfl, rfl, Nat.zero_le _, Lib.hid (World.ownsRow_nil _ _ _ _), Lib.hid (Below.refl _ _)⟩
    case round =>
      obtain ⟨k, av, cv, rfl, rfl, hk, hO, hB⟩ := hrel
      have i0 : (0 : Int) ≤ (k : Int) := by omega
      by_cases hlt : k < n
      · have hbw := HB7.out.trans (hB.out.mono HB7.out.size)
        obtain ⟨b0, o0, rfl, hb0, hcs⟩ := (HL.out.below hbw).addr (by omega)
        obtain ⟨⟨x, y, z⟩, hx⟩ := ER.get HL.out hlt
        obtain ⟨c0, c1, c2⟩ := hcs k _ hx
        have hy := (pulE_zero (HP.out k (by rw [HLN.out]; exact hlt))).2.1
        rw [pAt_get hx] at hy
        have hT := lvAmp_take hx
        simp only at hy hT c0 c1 c2
        have i1 : (k : Int) < (n : Int) := by omega
        have hA : icells (lvAmp (l.take (k + 1))) = icells (lvAmp (l.take k)) ++ [.int .i64 (sz y)] := by rw [hT, icells_append]; rfl
        have HA := Lib.hid hA
        have hzr := hB.out.size
        clear hT hx hcs hbw hA
        go_wp2_with (first | (go_at_call 74; refine (d_size_any _ _ (by omega) (by omega)).mono ?_; rintro e w' ⟨rfl, rfl⟩) | (at_builtin; refine wpList_append_sl _ rfl _ _ 27 rfl w7.heap.size 3 _ 1 8 Tryz.underlying27 infoInt rfl (by omega) (.slice av k cv) k _ rfl ((hO.out.alloc _).alloc _) _ 1 1 [.int .i64 (sz y)] rfl (SlR.lit _ _ _ _ _ 1 1 (by rfl) (by simp) rfl (by omega)) (by simp [Value.oneCell']) (by omega) (by omega) (by simp; omega) ?_))
        intro v2 w2 hown2 hgr2 hb2
        obtain ⟨av2, cv2, rfl, _, _⟩ := owns_slice hown2
        rw [← HA.out] at hown2
        have HO2 := Lib.hid hown2
        have HB2 := Lib.hid (show Below w7.heap.size w7 w2 from (((hB.out.alloc (by omega) _).alloc (by simp; omega) _)).trans hb2)
        clear hown2 hgr2 hb2 hO hB HA
        go_wp2
        go_roundw
        case rel => exact ⟨k + 1, av2, cv2, by go_num, rfl, by omega, HO2, HB2⟩
        case measure => simp [intOf]; omega
      · obtain rfl : n = k := by omega
        have hO' := hO.out
        rw [List.take_of_length_le (by rw [HLN.out]; omega)] at hO'
        have HO := Lib.hid hO'
        have HLV := Lib.hid (show (srt (lvAmp l)).length = n by rw [srt_len]; unfold lvAmp; rw [List.length_map]; exact HLN.out)
        have HLA := Lib.hid (show (lvAmp l).length = n by unfold lvAmp; rw [List.length_map]; exact HLN.out)
        have p2r : wr.cell? ⟨w.heap.size, 2, none⟩ = some (.int .i64 least) := by rw [cellB hB.out _ _ (by omega)]; exact p2
        have HBR := Lib.hid hB.out
        clear hO hO' hB p2 p7
        obtain ⟨q, rfl⟩ : ∃ q : Nat, least = q := ⟨least.toNat, by omega⟩
        go_wp2_with fail
        refine (sortInts_any _ _ _ _ _ _ HO.out (by omega) (by omega)).mono ?_
        rintro e9 w9 ⟨rfl, hO9, hb9⟩
        have p2s : w9.cell? ⟨w.heap.size, 2, none⟩ = some (.int .i64 q) := by rw [cellB hb9 _ _ (by omega)]; exact p2r
        obtain ⟨m, hm⟩ : ∃ m : Nat, n = m + q := ⟨n - q, by omega⟩
        obtain ⟨bg, og, rfl, hbg, hcl⟩ := (SlR.of_owns hO9).2.2 (by omega)
        have hcm := hcl m (.int .i64 V.1) (by rw [icells_get (by rw [HLV.out]; omega)]; rw [hV]; simp only [lvlOf]; rw [HLA.out, Int.toNat_natCast, show n - q = m by omega])
        have hi1 : wrap64 ((n : Int) - (q : Int)) = (m : Int) := by unfold wrap64; omega
        have hi2 : (m : Int) < (n : Int) := by omega
        have hi3 : (0 : Int) ≤ (m : Int) := by omega
        have HB9 := Lib.hid (HB7.out.trans ((HBR.out.mono HB7.out.size).trans (hb9.mono HB7.out.size)))
        have hV2 : V.2 = 0 := by rw [hV]
        clear HBR hb9 hO9 HO p2r hcl hV
        go_wp2
        go_ret2
        exact ⟨by rw [hV2]; rfl, HB9.out⟩
end Go.Proofs.YtdklmcicogmeaaaGreat

/- A region that draws its order, by a tree of schedules: reads first, forced operations, and forks where one of two comes. -/
namespace Go.Proofs.YtdklmcicogmeaaaGreat
open Go.RowKit

inductive Sch where
  | done : Sch
  | head : Nat → Sch → Sch
  | one : Nat → Sch → Sch
  | two : Nat → Sch → Nat → Sch → Sch
  | three : Nat → Sch → Nat → Sch → Nat → Sch → Sch

def Sch.depth : Sch → Nat
  | .done => 0
  | .head _ k => k.depth + 1
  | .one _ k => k.depth + 1
  | .two _ k _ l => max k.depth l.depth + 1
  | .three _ k _ l _ n => max k.depth (max l.depth n.depth) + 1

section
variable {P : Program} {l : List Oper} {md : Region.Mode} {S : World → Prop} {Q : Exit → Act → World → Prop}

def treeB (md : Region.Mode) (ops : Array Oper) : Sch → Array Bool → Bool
  | .done, listed => decide (Region.ready md ops listed = [])
  | .head h k, listed => (Region.ready md ops listed).contains h && Region.free md ops listed h && (match ops[h]? with | some o => plainOp o | none => false) && treeB md ops k (listed.setIfInBounds h true)
  | .one t k, listed => decide (Region.ready md ops listed = [t]) && decide (t < ops.size) && treeB md ops k (listed.setIfInBounds t true)
  | .two i k j m, listed => decide (Region.ready md ops listed = [i, j]) && decide (i < ops.size) && decide (j < ops.size) && treeB md ops k (listed.setIfInBounds i true) && treeB md ops m (listed.setIfInBounds j true)
  | .three i k j m t n, listed => decide (Region.ready md ops listed = [i, j, t]) && decide (i < ops.size) && decide (j < ops.size) && decide (t < ops.size) && treeB md ops k (listed.setIfInBounds i true) && treeB md ops m (listed.setIfInBounds j true) && treeB md ops n (listed.setIfInBounds t true)

def wpTree (P : Program) (l : List Oper) (S : World → Prop) (Q : Exit → Act → World → Prop) : Sch → Act → World → Prop
  | .done, a, w => Q .normal a w
  | .head h k, a, w => match l[h]? with | some o => wpQuiet P l.toArray S (fun a' => wpTree P l S Q k a' w) [o] a | none => False
  | .one t k, a, w => match l[t]? with | some o => wpList P l.toArray (tailQ S Q (wpTree P l S Q k)) [o] a w | none => False
  | .two i k j m, a, w => (match l[i]? with | some o => wpList P l.toArray (tailQ S Q (wpTree P l S Q k)) [o] a w | none => False) ∧
      (match l[j]? with | some o => wpList P l.toArray (tailQ S Q (wpTree P l S Q m)) [o] a w | none => False)
  | .three i k j m t n, a, w => (match l[i]? with | some o => wpList P l.toArray (tailQ S Q (wpTree P l S Q k)) [o] a w | none => False) ∧
      (match l[j]? with | some o => wpList P l.toArray (tailQ S Q (wpTree P l S Q m)) [o] a w | none => False) ∧
      (match l[t]? with | some o => wpList P l.toArray (tailQ S Q (wpTree P l S Q n)) [o] a w | none => False)

theorem tree_anyH (hsel : Region.noSelect l.toArray = true) : ∀ (s : Sch) (fuel : Nat) (listed : Array Bool) (a : Act) (w : World), s.depth ≤ fuel → treeB md l.toArray s listed = true → S w →
    wpTree P l S Q s a w → wpAnyH P md l.toArray (NoPanic Q) S fuel listed a w
  | .done, fuel, listed, a, w, _, hB, _, h => by
    simp only [treeB, decide_eq_true_eq] at hB
    exact wpAnyH_done (Q := NoPanic Q) hB h fuel
  | .head x k, 0, listed, a, w, hd, _, _, _ => by simp [Sch.depth] at hd
  | .one x k, 0, listed, a, w, hd, _, _, _ => by simp [Sch.depth] at hd
  | .two x k y m, 0, listed, a, w, hd, _, _, _ => by simp [Sch.depth] at hd
  | .three x k y m t n, 0, listed, a, w, hd, _, _, _ => by simp [Sch.depth] at hd
  | .head x k, fuel + 1, listed, a, w, hd, hB, hS, h => by
    simp only [treeB, Bool.and_eq_true] at hB
    simp only [Sch.depth] at hd
    have hx : x < l.length := by
      have h2 := hB.1.2
      by_cases hx : x < l.length
      · exact hx
      · rw [Array.getElem?_eq_none (by simpa using hx)] at h2; cases h2
    have ho : l.toArray[x]? = some l[x] := by simp [hx]
    have ho' : l[x]? = some l[x] := by simp [hx]
    rw [ho] at hB
    simp only [wpTree, ho'] at h
    have hst : qOp P l.toArray S x (wpQuiet P l.toArray S (fun a' => wpTree P l S Q k a' w) []) a := by unfold qOp; simp only [ho]; exact h
    obtain ⟨v, hy, hK⟩ := yieldsIn_of_qOp ho hst
    exact wpAnyH_take ho hsel hB.1.1.2 hB.1.1.1 (fun _ _ _ h => h.elim) (yieldsIf_of_in hB.1.2 hy) hS (tree_anyH hsel k fuel _ _ w (by omega) hB.2 hS hK)
  | .one t k, fuel + 1, listed, a, w, hd, hB, hS, h => by
    simp only [treeB, Bool.and_eq_true, decide_eq_true_eq] at hB
    simp only [Sch.depth] at hd
    have ht : t < l.length := by simpa using hB.1.2
    have ho : l.toArray[t]? = some l[t] := by simp [ht]
    have ho' : l[t]? = some l[t] := by simp [ht]
    simp only [wpTree, ho'] at h
    refine wpAnyH_all hB.1.1 (by simp) (fun i hi => ?_)
    have hit : i = t := by simpa using hi
    subst hit
    exact wpOp_mono (fun a' w' hh => ⟨hh.1, tree_anyH hsel k fuel _ a' w' (by omega) hB.2 hh.1 hh.2⟩) (wpOp_of_tail ho h)
  | .two x k y m, fuel + 1, listed, a, w, hd, hB, hS, h => by
    simp only [treeB, Bool.and_eq_true, decide_eq_true_eq] at hB
    simp only [Sch.depth] at hd
    obtain ⟨⟨⟨⟨hr, hx⟩, hy⟩, hk⟩, hm⟩ := hB
    have hx' : x < l.length := by simpa using hx
    have hy' : y < l.length := by simpa using hy
    have ho : l.toArray[x]? = some l[x] := by simp [hx']
    have ho' : l[x]? = some l[x] := by simp [hx']
    have hq : l.toArray[y]? = some l[y] := by simp [hy']
    have hq' : l[y]? = some l[y] := by simp [hy']
    simp only [wpTree, ho', hq'] at h
    refine wpAnyH_all hr (by simp) (fun i hi => ?_)
    rcases (by simpa using hi : i = x ∨ i = y) with rfl | rfl
    · exact wpOp_mono (fun a' w' hh => ⟨hh.1, tree_anyH hsel k fuel _ a' w' (by omega) hk hh.1 hh.2⟩) (wpOp_of_tail ho h.1)
    · exact wpOp_mono (fun a' w' hh => ⟨hh.1, tree_anyH hsel m fuel _ a' w' (by omega) hm hh.1 hh.2⟩) (wpOp_of_tail hq h.2)
  | .three x k y m z n, fuel + 1, listed, a, w, hd, hB, hS, h => by
    simp only [treeB, Bool.and_eq_true, decide_eq_true_eq] at hB
    simp only [Sch.depth] at hd
    obtain ⟨⟨⟨⟨⟨⟨hr, hx⟩, hy⟩, hz⟩, hk⟩, hm⟩, hn⟩ := hB
    have hx' : x < l.length := by simpa using hx
    have hy' : y < l.length := by simpa using hy
    have hz' : z < l.length := by simpa using hz
    have ho : l.toArray[x]? = some l[x] := by simp [hx']
    have ho' : l[x]? = some l[x] := by simp [hx']
    have hq : l.toArray[y]? = some l[y] := by simp [hy']
    have hq' : l[y]? = some l[y] := by simp [hy']
    have hp : l.toArray[z]? = some l[z] := by simp [hz']
    have hp' : l[z]? = some l[z] := by simp [hz']
    simp only [wpTree, ho', hq', hp'] at h
    refine wpAnyH_all hr (by simp) (fun i hi => ?_)
    rcases (by simpa using hi : i = x ∨ i = y ∨ i = z) with rfl | rfl | rfl
    · exact wpOp_mono (fun a' w' hh => ⟨hh.1, tree_anyH hsel k fuel _ a' w' (by omega) hk hh.1 hh.2⟩) (wpOp_of_tail ho h.1)
    · exact wpOp_mono (fun a' w' hh => ⟨hh.1, tree_anyH hsel m fuel _ a' w' (by omega) hm hh.1 hh.2⟩) (wpOp_of_tail hq h.2.1)
    · exact wpOp_mono (fun a' w' hh => ⟨hh.1, tree_anyH hsel n fuel _ a' w' (by omega) hn hh.1 hh.2⟩) (wpOp_of_tail hp h.2.2)

def treeOk (ops : Array Oper) (s : Sch) : Bool :=
  Region.noSelect ops && decide (s.depth ≤ ops.size) && treeB .any ops s (Array.replicate ops.size false)

theorem wp_region_tree {id : Nat} {a : Act} {w : World} (s : Sch) (S : World → Prop) (hm : P.follows .mixedOrders = true) (hB : treeOk l.toArray s = true) (hS : S w.drew)
    (h : wpTree P l S Q s a w.drew) : (Code.region id l.toArray true).wp P Q a w := by
  simp only [treeOk, Bool.and_eq_true, decide_eq_true_eq] at hB
  refine wp_region_noPanic (wp_region_held (S := S) hm ?_)
  exact tree_anyH hB.1.1 s _ _ a _ hB.1.2 hB.2 hS h

theorem wp_region_laterT {B : Nat} {id : Nat} {a : Act} {w : World} (s : Sch) (hm : P.follows .mixedOrders = true) (hB : treeOk l.toArray s = true)
    (h : wpTree P l (fun w' => ∃ u : LaterB B w, w' = u.world) Q s a w.drew) : (Code.region id l.toArray true).wp P Q a w :=
  wp_region_tree s _ hm hB ⟨⟨_, (Below.refl B w).drew⟩, rfl⟩ h
theorem tree_head {h : Nat} {o : Oper} {k : Sch} {a : Act} {w : World} (ho : l[h]? = some o) (hh : wpQuiet P l.toArray S (fun a' => wpTree P l S Q k a' w) [o] a) : wpTree P l S Q (.head h k) a w := by
  simp only [wpTree, ho]; exact hh
theorem tree_one {t : Nat} {o : Oper} {k : Sch} {a : Act} {w : World} (ho : l[t]? = some o) (hh : wpList P l.toArray (tailQ S Q (wpTree P l S Q k)) [o] a w) : wpTree P l S Q (.one t k) a w := by
  simp only [wpTree, ho]; exact hh
theorem tree_two {i j : Nat} {o o2 : Oper} {k m : Sch} {a : Act} {w : World} (ho : l[i]? = some o) (hq : l[j]? = some o2) (h1 : wpList P l.toArray (tailQ S Q (wpTree P l S Q k)) [o] a w) (h2 : wpList P l.toArray (tailQ S Q (wpTree P l S Q m)) [o2] a w) : wpTree P l S Q (.two i k j m) a w := by
  simp only [wpTree, ho, hq]; exact ⟨h1, h2⟩
theorem tree_three {i j t : Nat} {o o2 o3 : Oper} {k m n : Sch} {a : Act} {w : World} (ho : l[i]? = some o) (hq : l[j]? = some o2) (hp : l[t]? = some o3) (h1 : wpList P l.toArray (tailQ S Q (wpTree P l S Q k)) [o] a w) (h2 : wpList P l.toArray (tailQ S Q (wpTree P l S Q m)) [o2] a w) (h3 : wpList P l.toArray (tailQ S Q (wpTree P l S Q n)) [o3] a w) : wpTree P l S Q (.three i k j m t n) a w := by
  simp only [wpTree, ho, hq, hp]; exact ⟨h1, h2, h3⟩
theorem tree_done {a : Act} {w : World} (h : Q .normal a w) : wpTree P l S Q .done a w := h
end
end Go.Proofs.YtdklmcicogmeaaaGreat
