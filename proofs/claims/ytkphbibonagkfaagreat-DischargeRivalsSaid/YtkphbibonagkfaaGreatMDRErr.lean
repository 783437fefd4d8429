import Derived.Test.YtkphbibonagkfaaGreatMPlainFrac
import Derived.Test.YtkphbibonagkfaaGreatMSched
/- The error of responses: the program's function. -/
namespace Go.Proofs.YtkphbibonagkfaaGreat
open Go.RowKit
set_option linter.unusedVariables false

def gB (p : Int × Int) : Bool := wi p.1 (-100000000) 100000000 && wi p.2 (-100000000) 100000000
def respsE (l : List (Int × Int)) : Int := firstErr [unl (decide ((l.length : Int) ≤ 8)) 8, unl (!l.any (fun p => !gB p)) 2]
theorem re1_any (x : Int × Int) (w : World) : Calls Tryz.prog 158 #[.agg #[.int .i64 x.1, .int .i64 x.2]] w fun e w' => e = .returned (.bool (!gB x)) ∧ Below w.heap.size w w' := by
  obtain ⟨x, y⟩ := x
  simp only
  have HX := Lib.hid (fun w' => d_isSized_any x 100000000 w' (by omega) (by omega))
  have HY := Lib.hid (fun w' => d_isSized_any y 100000000 w' (by omega) (by omega))
  have hg : gB (x, y) = (wi x (-100000000) 100000000 && wi y (-100000000) 100000000) := rfl
  rw [hg]
  clear hg
  generalize wi x (-100000000) 100000000 = b1 at *
  generalize wi y (-100000000) 100000000 = b2 at *
  cases b1
  all_goals
    go_enter Tryz.func158, Tryz.ntmps158
    go_wp2_with (first | (go_at_call 145; (with_reducible refine (HX.out _).mono ?_); rintro e w' ⟨rfl, rfl⟩) | (go_at_call 145; (with_reducible refine (HY.out _).mono ?_); rintro e w' ⟨rfl, rfl⟩))
    go_ret
    exact ⟨ret_bool (by simp), by (repeat' (first | (with_reducible exact Below.refl _ _) | (with_reducible assumption) | (with_reducible refine Below.drewN ?_ _) | (with_reducible refine Below.alloc ?_ ?_ _) | (with_reducible refine Below.drew ?_) | (with_reducible refine Below.setCell ?_ ?_ _) | (with_reducible refine Below.step (by assumption) ?_ ?_) | (with_reducible exact And.left (by assumption)) | go_size))⟩
theorem cf_re1 (args : Array Value) (w : World) : (callFunc 158 args).run Tryz.prog w = .ok (.enter 158 args) w := by kernel_rfl
set_option maxRecDepth 100000 in
theorem indexGauss_any (f : FuncId) (p : Int × Int → Bool) (hf : ∀ args w, (callFunc f args).run Tryz.prog w = .ok (.enter f args) w) (hp : ∀ (x : Int × Int) (w : World), Calls Tryz.prog f #[.agg #[.int .i64 x.1, .int .i64 x.2]] w fun e w' => e = .returned (.bool (p x)) ∧ Below w.heap.size w w')
    (l : List (Int × Int)) (a : Option Addr) (n c : Nat) (w : World) (hl : PairsR w a n l) :
    Calls Tryz.prog 173 #[.slice a n c, .func (.func f) #[] #[]] w fun e' w' => e' = .returned (.int .i64 (idxFrom p l 0)) ∧ Below w.heap.size w w' := by
  have HL := Lib.hid hl
  have HP := Lib.hid hp
  have hn := hl.small
  clear hl hp
  go_enter Tryz.func173, Tryz.ntmps173
  go_wp2
  go_loopw [8] (fun i wr => ∃ k : Nat, i = .int .i64 k ∧ k ≤ n ∧ Hid (idxFrom p (l.drop k) k = idxFrom p l 0) ∧ Hid (Below w.heap.size w wr)) (fun i _ => n - (intOf i).toNat)
  case atStart => exact ⟨0, rfl, Nat.zero_le _, rfl, Lib.hid (Below.refl _ _)⟩
  case round =>
    obtain ⟨k, rfl, hk, hF, hB⟩ := hrel
    by_cases hlt : k < n
    · obtain ⟨b, o, rfl, hb, hc⟩ := HL.out.addr (by omega)
      obtain ⟨⟨x, y⟩, hxy⟩ : ∃ p, p = l.getD k (0, 0) := ⟨_, rfl⟩
      have hkl : k < l.length := by rw [HL.out.len]; exact hlt
      have hx : l[k]? = some (x, y) := by rw [hxy, List.getD_eq_getElem?_getD, List.getElem?_eq_getElem hkl]; rfl
      obtain ⟨q0, q1⟩ := hc k hlt
      rw [← hxy] at q0 q1
      rw [← cellB hB.out _ _ hb] at q0 q1
      have hF' := hF.out
      rw [drop_cons' hx, idxFrom] at hF'
      have HF := Lib.hid hF'
      have HPX := Lib.hid (fun w' => HP.out ⟨x, y⟩ w')
      simp only at HPX q0 q1
      clear hF' hF hx hc hxy
      obtain ⟨v, hv⟩ : ∃ v, v = p ⟨x, y⟩ := ⟨_, rfl⟩
      rw [← hv] at HF HPX
      have i0 : (0 : Int) ≤ (k : Int) := by omega
      clear hv
      go_wp2_with fail
      refine (HPX.out _).mono ?_
      rintro e w' ⟨rfl, hb'⟩
      have HB := Lib.hid (hB.out.trans (hb'.mono hB.out.size))
      clear hb' hB
      cases v
      · rw [if_neg (by decide)] at HF
        go_wp2
        go_roundw
        case rel => exact ⟨k + 1, by go_num, by omega, HF, HB⟩
        case measure => simp [intOf]; omega
      · rw [if_pos rfl] at HF
        go_wp2
        go_ret
        exact ⟨ret_int HF.out, HB.out⟩
    · have HE := Lib.hid (show (-1 : Int) = idxFrom p l 0 by rw [← hF.out, drop_end l k (by rw [HL.out.len]; omega)]; rfl)
      clear hF
      go_wp2
      go_ret
      exact ⟨ret_int HE.out, hB.out⟩
theorem containsGauss_any (f : FuncId) (p : Int × Int → Bool) (hf : ∀ args w, (callFunc f args).run Tryz.prog w = .ok (.enter f args) w) (hp : ∀ (x : Int × Int) (w : World), Calls Tryz.prog f #[.agg #[.int .i64 x.1, .int .i64 x.2]] w fun e w' => e = .returned (.bool (p x)) ∧ Below w.heap.size w w')
    (l : List (Int × Int)) (a : Option Addr) (n c : Nat) (w : World) (hl : PairsR w a n l) :
    Calls Tryz.prog 157 #[.slice a n c, .func (.func f) #[] #[]] w fun e' w' => e' = .returned (.bool (l.any p)) ∧ Below w.heap.size w w' := by
  have HI := Lib.hid (indexGauss_any f p hf hp l a n c w hl)
  clear hf hp hl
  go_enter Tryz.func157, Tryz.ntmps157
  go_wp2_with fail
  refine HI.out.mono ?_
  rintro e w' ⟨rfl, hb⟩
  go_wp2
  go_ret
  exact ⟨ret_bool (idxFrom_any p l 0), hb⟩
theorem responsesErr_any (l : List (Int × Int)) (a : Option Addr) (n c : Nat) (w : World) (hl : PairsR w a n l) : Calls Tryz.prog 116 #[.slice a n c] w fun e w' => e = .returned (.int .i64 (respsE l)) ∧ Below w.heap.size w w' := by
  have hn := hl.small
  have HI := Lib.hid (containsGauss_any _ _ cf_re1 re1_any l a n c w hl)
  have hE : respsE l = firstErr [unl (decide ((n : Int) ≤ 8)) 8, unl (!l.any (fun x => !gB x)) 2] := by unfold respsE; rw [hl.len]
  rw [hE]
  generalize l.any (fun x => !gB x) = g at *
  have HU := Lib.hid (fun (b : Bool) (e : Int) w' => d_unless_any b e w')
  clear hl hE
  go_enter Tryz.func116, Tryz.ntmps116
  go_wp2_with fail
  refine (HI.out).mono ?_
  rintro e w5 ⟨rfl, hb5⟩
  have HB5 := Lib.hid hb5
  clear hb5
  go_wp2_with fail
  refine (HU.out _ _ _).mono ?_
  rintro e w' ⟨rfl, rfl⟩
  go_wp2_with fail
  refine (HU.out _ _ _).mono ?_
  rintro e w' ⟨rfl, rfl⟩
  go_wp2_with fail
  refine (d_first2 _ _ _ _ _ _ (by rfl) (by simp)).mono ?_
  rintro e w' ⟨rfl, hw8⟩
  have hb8 : Below w5.heap.size w5 w' := by rw [← hw8]; (repeat' (first | (with_reducible exact Below.refl _ _) | (with_reducible assumption) | (with_reducible refine Below.drewN ?_ _) | (with_reducible refine Below.alloc ?_ ?_ _) | (with_reducible refine Below.drew ?_) | (with_reducible refine Below.setCell ?_ ?_ _) | (with_reducible refine Below.step (by assumption) ?_ ?_) | (with_reducible exact And.left (by assumption)) | go_size))
  have HB8 := Lib.hid (HB5.out.trans (hb8.mono HB5.out.size))
  clear hw8 hb8
  go_wp2
  go_ret
  exact ⟨rfl, HB8.out⟩
end Go.Proofs.YtkphbibonagkfaaGreat

/- A region that draws its order, by a schedule whose class of worlds becomes smaller behind a forced operation: what a call has handed out may then be read first. -/
namespace Go.Proofs.YtkphbibonagkfaaGreat
open Go.RowKit

section
variable {P : Program} {ops : Array Oper} {md : Region.Mode} {Q : Exit → Act → World → Prop}

theorem anyH_mono {S S' : World → Prop} (hs : ∀ w, S' w → S w) : ∀ (fuel : Nat) (listed : Array Bool) (a : Act) (w : World), wpAnyH P md ops Q S' fuel listed a w → wpAnyH P md ops Q S fuel listed a w
  | 0, _, _, _, h => h
  | fuel + 1, listed, a, w, h => by
    refine ⟨h.1, fun i hi => wpOp_mono (fun a' w' hh => ⟨hs _ hh.1, anyH_mono hs fuel _ a' w' hh.2⟩) (h.2 i hi)⟩

def wpMixC (P : Program) (ops : Array Oper) (Q : Exit → Act → World → Prop) : List (Bool × Oper) → (World → Prop) → Act → World → Prop
  | [], _, a, w => Q .normal a w
  | (true, o) :: r, S, a, w => wpQuiet P ops S (fun a' => wpMixC P ops Q r S a' w) [o] a
  | (false, o) :: r, S, a, w => wpList P ops (tailQ S Q (fun a' w' => ∃ S' : World → Prop, (∀ x, S' x → S x) ∧ S' w' ∧ wpMixC P ops Q r S' a' w')) [o] a w

theorem mixC_anyH (hsel : Region.noSelect ops = true) : ∀ (l : List (Bool × Nat)) (S : World → Prop) (listed : Array Bool) (a : Act) (w : World), mixB md ops l listed = true → (∀ x ∈ l, x.2 < ops.size) → S w →
    wpMixC P ops Q (opsOf ops l) S a w → wpAnyH P md ops (NoPanic Q) S l.length listed a w
  | [], S, listed, a, w, hB, _, _, h => by
    simp only [mixB, decide_eq_true_eq] at hB
    exact ⟨hB, h⟩
  | (true, x) :: r, S, listed, a, w, hB, hlt, hS, h => by
    simp only [mixB, Bool.and_eq_true] at hB
    have hx := hlt (true, x) (by simp)
    have ho : ops[x]? = some ops[x] := by simp [hx]
    rw [ho] at hB
    have h' : wpQuiet P ops S (fun a' => wpMixC P ops Q (opsOf ops r) S a' w) [ops[x]] a := by
      have : opsOf ops ((true, x) :: r) = (true, ops[x]) :: opsOf ops r := by simp [opsOf, ho]
      rw [this] at h; exact h
    have hst : qOp P ops S x (wpQuiet P ops S (fun a' => wpMixC P ops Q (opsOf ops r) S a' w) []) a := by unfold qOp; simp only [ho]; exact h'
    obtain ⟨v, hy, hK⟩ := yieldsIn_of_qOp ho hst
    exact wpAnyH_take ho hsel hB.1.1.2 hB.1.1.1 (fun _ _ _ h => h.elim) (yieldsIf_of_in hB.1.2 hy) hS (mixC_anyH hsel r S _ _ w hB.2 (fun y hy => hlt y (by simp [hy])) hS hK)
  | (false, t) :: r, S, listed, a, w, hB, hlt, hS, h => by
    simp only [mixB, Bool.and_eq_true, decide_eq_true_eq] at hB
    have ht := hlt (false, t) (by simp)
    have ho : ops[t]? = some ops[t] := by simp [ht]
    have h' : wpList P ops (tailQ S Q (fun a' w' => ∃ S' : World → Prop, (∀ x, S' x → S x) ∧ S' w' ∧ wpMixC P ops Q (opsOf ops r) S' a' w')) [ops[t]] a w := by
      have : opsOf ops ((false, t) :: r) = (false, ops[t]) :: opsOf ops r := by simp [opsOf, ho]
      rw [this] at h; exact h
    refine wpAnyH_all hB.1 (by simp) (fun i hi => ?_)
    have hit : i = t := by simpa using hi
    subst hit
    refine wpOp_mono (fun a' w' hh => ⟨hh.1, ?_⟩) (wpOp_of_tail ho h')
    obtain ⟨S', h1, h2, h3⟩ := hh.2
    exact anyH_mono h1 _ _ _ _ (mixC_anyH hsel r S' _ a' w' hB.2 (fun x hx => hlt x (by simp [hx])) h2 h3)

theorem wp_region_laterC {B b0 : Nat} {id : Nat} {a : Act} {w : World} {l : List Oper} (sc : List (Bool × Nat)) (hm : P.follows .mixedOrders = true) (hB : mixOk l.toArray sc = true)
    (h : wpMixC P l.toArray Q (opsOf l.toArray sc) (fun w' => ∃ u : LaterX B b0 w, w' = u.world) a w.drew) : (Code.region id l.toArray true).wp P Q a w := by
  simp only [mixOk, Bool.and_eq_true, decide_eq_true_eq, List.all_eq_true] at hB
  obtain ⟨⟨⟨h1, h2⟩, h3⟩, h5⟩ := hB
  refine wp_region_noPanic (wp_region_held (S := fun w' => ∃ u : LaterX B b0 w, w' = u.world) hm ?_)
  rw [← h2] at h5 ⊢
  exact mixC_anyH h1 sc _ _ a _ h5 (fun x hx => h3 x hx) ⟨⟨_, SameX.drew (fun _ _ _ _ => rfl)⟩, rfl⟩ h
theorem mixc_head {S : World → Prop} {o : Oper} {r : List (Bool × Oper)} {a : Act} {w : World} (h : wpQuiet P ops S (fun a' => wpMixC P ops Q r S a' w) [o] a) : wpMixC P ops Q ((true, o) :: r) S a w := h
theorem mixc_tail {S : World → Prop} {o : Oper} {r : List (Bool × Oper)} {a : Act} {w : World} (h : wpList P ops (tailQ S Q (fun a' w' => ∃ S' : World → Prop, (∀ x, S' x → S x) ∧ S' w' ∧ wpMixC P ops Q r S' a' w')) [o] a w) : wpMixC P ops Q ((false, o) :: r) S a w := h
theorem mixc_nil {S : World → Prop} {a : Act} {w : World} (h : Q .normal a w) : wpMixC P ops Q [] S a w := h
/-- The class stays. -/
theorem tailC_stay {B b0 : Nat} {r : List (Bool × Oper)} {a : Act} {w w' : World} (hs : SameX B b0 w w') (hk : wpMixC P ops Q r (fun x => ∃ u : LaterX B b0 w, x = u.world) a w') :
    tailQ (fun x => ∃ u : LaterX B b0 w, x = u.world) Q (fun a' w' => ∃ S' : World → Prop, (∀ x, S' x → (∃ u : LaterX B b0 w, x = u.world)) ∧ S' w' ∧ wpMixC P ops Q r S' a' w') .normal a w' :=
  ⟨⟨⟨w', hs⟩, rfl⟩, _, fun _ h => h, ⟨⟨w', hs⟩, rfl⟩, hk⟩
/-- A smaller class, from here on. -/
theorem tailC_new {B b0 : Nat} (B' : Nat) {r : List (Bool × Oper)} {a : Act} {w w' : World} (hs : SameX B b0 w w') (hB : B ≤ B') (hk : wpMixC P ops Q r (fun x => ∃ u : LaterX B' b0 w', x = u.world) a w') :
    tailQ (fun x => ∃ u : LaterX B b0 w, x = u.world) Q (fun a' w' => ∃ S' : World → Prop, (∀ x, S' x → (∃ u : LaterX B b0 w, x = u.world)) ∧ S' w' ∧ wpMixC P ops Q r S' a' w') .normal a w' := by
  refine ⟨⟨⟨w', hs⟩, rfl⟩, _, ?_, ⟨⟨w', fun _ _ _ _ => rfl⟩, rfl⟩, hk⟩
  rintro x ⟨u, rfl⟩
  exact ⟨⟨u.world, fun b o hb hne => (u.same b o (by omega) hne).trans (hs b o hb hne)⟩, rfl⟩
end
end Go.Proofs.YtkphbibonagkfaaGreat
