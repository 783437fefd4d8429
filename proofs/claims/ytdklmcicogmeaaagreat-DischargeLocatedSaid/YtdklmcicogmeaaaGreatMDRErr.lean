import Derived.Test.YtdklmcicogmeaaaGreatDDfmd
import Derived.Test.YtdklmcicogmeaaaGreatMDRec
import Derived.Test.YtdklmcicogmeaaaGreatMPlainInit
/- The error of responses: the program's function. -/
namespace Go.Proofs.YtdklmcicogmeaaaGreat
open Go.RowKit
set_option linter.unusedVariables false

def gB (p : Int × Int) : Bool := wi p.1 (-100000000) 100000000 && wi p.2 (-100000000) 100000000
def respsE (l : List (Int × Int)) : Int := firstErr [unl (decide ((l.length : Int) ≤ 8)) 8, unl (!l.any (fun p => !gB p)) 2]
theorem re1_any (x : Int × Int) (w : World) : Calls Tryz.prog 128 #[.agg #[.int .i64 x.1, .int .i64 x.2]] w fun e w' => e = .returned (.bool (!gB x)) ∧ Below w.heap.size w w' := by
  obtain ⟨x, y⟩ := x
  simp only
  have HX := Lib.hid (fun w' => d_isSized_any x 100000000 w' (by omega) (by omega))
  have HY := Lib.hid (fun w' => d_isSized_any y 100000000 w' (by omega) (by omega))
  have hg : gB (x, y) = (wi x (-100000000) 100000000 && wi y (-100000000) 100000000) := rfl
  rw [hg]
  clear hg
  generalize wi x (-100000000) 100000000 = b1 at *
  generalize wi y (-100000000) 100000000 = b2 at *
  cases b1
  all_goals
    go_enter Tryz.func128, Tryz.ntmps128
    go_wp2_with (first | (go_at_call 71; (with_reducible refine (HX.out _).mono ?_); rintro e w' ⟨rfl, rfl⟩) | (go_at_call 71; (with_reducible refine (HY.out _).mono ?_); rintro e w' ⟨rfl, rfl⟩))
    go_ret
    exact ⟨ret_bool (by simp), by (repeat' (first | (with_reducible exact Below.refl _ _) | (with_reducible assumption) | (with_reducible refine Below.drewN ?_ _) | (with_reducible refine Below.alloc ?_ ?_ _) | (with_reducible refine Below.drew ?_) | (with_reducible refine Below.setCell ?_ ?_ _) | (with_reducible refine Below.step (by assumption) ?_ ?_) | (with_reducible exact And.left (by assumption)) | go_size))⟩
theorem cf_re1 (args : Array Value) (w : World) : (callFunc 128 args).run Tryz.prog w = .ok (.enter 128 args) w := by kernel_rfl
set_option maxRecDepth 100000 in
theorem indexGauss_any (f : FuncId) (p : Int × Int → Bool) (hf : ∀ args w, (callFunc f args).run Tryz.prog w = .ok (.enter f args) w) (hp : ∀ (x : Int × Int) (w : World), Calls Tryz.prog f #[.agg #[.int .i64 x.1, .int .i64 x.2]] w fun e w' => e = .returned (.bool (p x)) ∧ Below w.heap.size w w')
    (l : List (Int × Int)) (a : Option Addr) (n c : Nat) (w : World) (hl : PairsR w a n l) :
    Calls Tryz.prog 160 #[.slice a n c, .func (.func f) #[] #[]] w fun e' w' => e' = .returned (.int .i64 (idxFrom p l 0)) ∧ Below w.heap.size w w' := by
  have HL := Lib.hid hl
  have HP := Lib.hid hp
  have hn := hl.small
  clear hl hp
  go_enter Tryz.func160, Tryz.ntmps160
  go_wp2
  go_loopw [8] (fun i wr => ∃ k : Nat, i = .int .i64 k ∧ k ≤ n ∧ Hid (idxFrom p (l.drop k) k = idxFrom p l 0) ∧ Hid (Below w.heap.size w wr)) (fun i _ => n - (intOf i).toNat)
  case atStart => exact ⟨0, rfl, Nat.zero_le _, rfl, Lib.hid (Below.refl _ _)⟩
  case round =>
    obtain ⟨k, rfl, hk, hF, hB⟩ := hrel
    by_cases hlt : k < n
    · obtain ⟨b, o, rfl, hb, hc⟩ := HL.out.addr (by omega)
      obtain ⟨⟨x, y⟩, hxy⟩ : ∃ p, p = l.getD k (0, 0) := ⟨_, rfl⟩
      have hkl : k < l.length := by rw [HL.out.len]; exact hlt
      have hx : l[k]? = some (x, y) := by rw [hxy, List.getD_eq_getElem?_getD, List.getElem?_eq_getElem hkl]; rfl
      obtain ⟨q0, q1⟩ := hc k hlt
      rw [← hxy] at q0 q1
      rw [← cellB hB.out _ _ hb] at q0 q1
      have hF' := hF.out
      rw [drop_cons' hx, idxFrom] at hF'
      have HF := Lib.hid hF'
      have HPX := Lib.hid (fun w' => HP.out ⟨x, y⟩ w')
      simp only at HPX q0 q1
      clear hF' hF hx hc hxy
      obtain ⟨v, hv⟩ : ∃ v, v = p ⟨x, y⟩ := ⟨_, rfl⟩
      rw [← hv] at HF HPX
      have i0 : (0 : Int) ≤ (k : Int) := by omega
      clear hv
      go_wp2_with fail
      refine (HPX.out _).mono ?_
      rintro e w' ⟨rfl, hb'⟩
      have HB := Lib.hid (hB.out.trans (hb'.mono hB.out.size))
      clear hb' hB
      cases v
      · rw [if_neg (by decide)] at HF
        go_wp2
        go_roundw
        case rel => exact ⟨k + 1, by go_num, by omega, HF, HB⟩
        case measure => simp [intOf]; omega
      · rw [if_pos rfl] at HF
        go_wp2
        go_ret
        exact ⟨ret_int HF.out, HB.out⟩
    · have HE := Lib.hid (show (-1 : Int) = idxFrom p l 0 by rw [← hF.out, drop_end l k (by rw [HL.out.len]; omega)]; rfl)
      clear hF
      go_wp2
      go_ret
      exact ⟨ret_int HE.out, hB.out⟩
theorem containsGauss_any (f : FuncId) (p : Int × Int → Bool) (hf : ∀ args w, (callFunc f args).run Tryz.prog w = .ok (.enter f args) w) (hp : ∀ (x : Int × Int) (w : World), Calls Tryz.prog f #[.agg #[.int .i64 x.1, .int .i64 x.2]] w fun e w' => e = .returned (.bool (p x)) ∧ Below w.heap.size w w')
    (l : List (Int × Int)) (a : Option Addr) (n c : Nat) (w : World) (hl : PairsR w a n l) :
    Calls Tryz.prog 127 #[.slice a n c, .func (.func f) #[] #[]] w fun e' w' => e' = .returned (.bool (l.any p)) ∧ Below w.heap.size w w' := by
  have HI := Lib.hid (indexGauss_any f p hf hp l a n c w hl)
  clear hf hp hl
  go_enter Tryz.func127, Tryz.ntmps127
  go_wp2_with fail
  refine HI.out.mono ?_
  rintro e w' ⟨rfl, hb⟩
  go_wp2
  go_ret
  exact ⟨ret_bool (idxFrom_any p l 0), hb⟩
theorem responsesErr_any (l : List (Int × Int)) (a : Option Addr) (n c : Nat) (w : World) (hl : PairsR w a n l) : Calls Tryz.prog 99 #[.slice a n c] w fun e w' => e = .returned (.int .i64 (respsE l)) ∧ Below w.heap.size w w' := by
  have hn := hl.small
  have HI := Lib.hid (containsGauss_any _ _ cf_re1 re1_any l a n c w hl)
  have hE : respsE l = firstErr [unl (decide ((n : Int) ≤ 8)) 8, unl (!l.any (fun x => !gB x)) 2] := by unfold respsE; rw [hl.len]
  rw [hE]
  generalize l.any (fun x => !gB x) = g at *
  have HU := Lib.hid (fun (b : Bool) (e : Int) w' => d_unless_any b e w')
  clear hl hE
  go_enter Tryz.func99, Tryz.ntmps99
  go_wp2_with fail
  refine (HI.out).mono ?_
  rintro e w5 ⟨rfl, hb5⟩
  have HB5 := Lib.hid hb5
  clear hb5
  go_wp2_with fail
  refine (HU.out _ _ _).mono ?_
  rintro e w' ⟨rfl, rfl⟩
  go_wp2_with fail
  refine (HU.out _ _ _).mono ?_
  rintro e w' ⟨rfl, rfl⟩
  go_wp2_with fail
  refine (d_first2 _ _ _ _ _ _ (by rfl) (by simp)).mono ?_
  rintro e w' ⟨rfl, hw8⟩
  have hb8 : Below w5.heap.size w5 w' := by rw [← hw8]; (repeat' (first | (with_reducible exact Below.refl _ _) | (with_reducible assumption) | (with_reducible refine Below.drewN ?_ _) | (with_reducible refine Below.alloc ?_ ?_ _) | (with_reducible refine Below.drew ?_) | (with_reducible refine Below.setCell ?_ ?_ _) | (with_reducible refine Below.step (by assumption) ?_ ?_) | (with_reducible exact And.left (by assumption)) | go_size))
  have HB8 := Lib.hid (HB5.out.trans (hb8.mono HB5.out.size))
  clear hw8 hb8
  go_wp2
  go_ret
  exact ⟨rfl, HB8.out⟩
end Go.Proofs.YtdklmcicogmeaaaGreat

/- A region that draws its order, by a schedule whose class of worlds becomes smaller behind a forced operation: what a call has handed out may then be read first. -/
namespace Go.Proofs.YtdklmcicogmeaaaGreat
open Go.RowKit

section
variable {P : Program} {ops : Array Oper} {md : Region.Mode} {Q : Exit → Act → World → Prop}

theorem anyH_mono {S S' : World → Prop} (hs : ∀ w, S' w → S w) : ∀ (fuel : Nat) (listed : Array Bool) (a : Act) (w : World), wpAnyH P md ops Q S' fuel listed a w → wpAnyH P md ops Q S fuel listed a w
  | 0, _, _, _, h => h
  | fuel + 1, listed, a, w, h => by
    refine ⟨h.1, fun i hi => wpOp_mono (fun a' w' hh => ⟨hs _ hh.1, anyH_mono hs fuel _ a' w' hh.2⟩) (h.2 i hi)⟩

def wpMixC (P : Program) (ops : Array Oper) (Q : Exit → Act → World → Prop) : List (Bool × Oper) → (World → Prop) → Act → World → Prop
  | [], _, a, w => Q .normal a w
  | (true, o) :: r, S, a, w => wpQuiet P ops S (fun a' => wpMixC P ops Q r S a' w) [o] a
  | (false, o) :: r, S, a, w => wpList P ops (tailQ S Q (fun a' w' => ∃ S' : World → Prop, (∀ x, S' x → S x) ∧ S' w' ∧ wpMixC P ops Q r S' a' w')) [o] a w

theorem mixC_anyH (hsel : Region.noSelect ops = true) : ∀ (l : List (Bool × Nat)) (S : World → Prop) (listed : Array Bool) (a : Act) (w : World), mixB md ops l listed = true → (∀ x ∈ l, x.2 < ops.size) → S w →
    wpMixC P ops Q (opsOf ops l) S a w → wpAnyH P md ops (NoPanic Q) S l.length listed a w
  | [], S, listed, a, w, hB, _, _, h => by
    simp only [mixB, decide_eq_true_eq] at hB
    exact ⟨hB, h⟩
  | (true, x) :: r, S, listed, a, w, hB, hlt, hS, h => by
    simp only [mixB, Bool.and_eq_true] at hB
    have hx := hlt (true, x) (by simp)
    have ho : ops[x]? = some ops[x] := by simp [hx]
    rw [ho] at hB
    have h' : wpQuiet P ops S (fun a' => wpMixC P ops Q (opsOf ops r) S a' w) [ops[x]] a := by
      have : opsOf ops ((true, x) :: r) = (true, ops[x]) :: opsOf ops r := by simp [opsOf, ho]
      rw [this] at h; exact h
    have hst : qOp P ops S x (wpQuiet P ops S (fun a' => wpMixC P ops Q (opsOf ops r) S a' w) []) a := by unfold qOp; simp only [ho]; exact h'
    obtain ⟨v, hy, hK⟩ := yieldsIn_of_qOp ho hst
    exact wpAnyH_take ho hsel hB.1.1.2 hB.1.1.1 (fun _ _ _ h => h.elim) (yieldsIf_of_in hB.1.2 hy) hS (mixC_anyH hsel r S _ _ w hB.2 (fun y hy => hlt y (by simp [hy])) hS hK)
  | (false, t) :: r, S, listed, a, w, hB, hlt, hS, h => by
    simp only [mixB, Bool.and_eq_true, decide_eq_true_eq] at hB
    have ht := hlt (false, t) (by simp)
    have ho : ops[t]? = some ops[t] := by simp [ht]
    have h' : wpList P ops (tailQ S Q (fun a' w' => ∃ S' : World → Prop, (∀ x, S' x → S x) ∧ S' w' ∧ wpMixC P ops Q (opsOf ops r) S' a' w')) [ops[t]] a w := by
      have : opsOf ops ((false, t) :: r) = (false, ops[t]) :: opsOf ops r := by simp [opsOf, ho]
      rw [this] at h; exact h
    refine wpAnyH_all hB.1 (by simp) (fun i hi => ?_)
    have hit : i = t := by simpa using hi
    subst hit
    refine wpOp_mono (fun a' w' hh => ⟨hh.1, ?_⟩) (wpOp_of_tail ho h')
    obtain ⟨S', h1, h2, h3⟩ := hh.2
    exact anyH_mono h1 _ _ _ _ (mixC_anyH hsel r S' _ a' w' hB.2 (fun x hx => hlt x (by simp [hx])) h2 h3)

theorem wp_region_laterC {B b0 : Nat} {id : Nat} {a : Act} {w : World} {l : List Oper} (sc : List (Bool × Nat)) (hm : P.follows .mixedOrders = true) (hB : mixOk l.toArray sc = true)
    (h : wpMixC P l.toArray Q (opsOf l.toArray sc) (fun w' => ∃ u : LaterX B b0 w, w' = u.world) a w.drew) : (Code.region id l.toArray true).wp P Q a w := by
  simp only [mixOk, Bool.and_eq_true, decide_eq_true_eq, List.all_eq_true] at hB
  obtain ⟨⟨⟨h1, h2⟩, h3⟩, h5⟩ := hB
  refine wp_region_noPanic (wp_region_held (S := fun w' => ∃ u : LaterX B b0 w, w' = u.world) hm ?_)
  rw [← h2] at h5 ⊢
  exact mixC_anyH h1 sc _ _ a _ h5 (fun x hx => h3 x hx) ⟨⟨_, SameX.drew (fun _ _ _ _ => rfl)⟩, rfl⟩ h
theorem mixc_head {S : World → Prop} {o : Oper} {r : List (Bool × Oper)} {a : Act} {w : World} (h : wpQuiet P ops S (fun a' => wpMixC P ops Q r S a' w) [o] a) : wpMixC P ops Q ((true, o) :: r) S a w := h
theorem mixc_tail {S : World → Prop} {o : Oper} {r : List (Bool × Oper)} {a : Act} {w : World} (h : wpList P ops (tailQ S Q (fun a' w' => ∃ S' : World → Prop, (∀ x, S' x → S x) ∧ S' w' ∧ wpMixC P ops Q r S' a' w')) [o] a w) : wpMixC P ops Q ((false, o) :: r) S a w := h
theorem mixc_nil {S : World → Prop} {a : Act} {w : World} (h : Q .normal a w) : wpMixC P ops Q [] S a w := h
/-- The class stays. -/
theorem tailC_stay {B b0 : Nat} {r : List (Bool × Oper)} {a : Act} {w w' : World} (hs : SameX B b0 w w') (hk : wpMixC P ops Q r (fun x => ∃ u : LaterX B b0 w, x = u.world) a w') :
    tailQ (fun x => ∃ u : LaterX B b0 w, x = u.world) Q (fun a' w' => ∃ S' : World → Prop, (∀ x, S' x → (∃ u : LaterX B b0 w, x = u.world)) ∧ S' w' ∧ wpMixC P ops Q r S' a' w') .normal a w' :=
  ⟨⟨⟨w', hs⟩, rfl⟩, _, fun _ h => h, ⟨⟨w', hs⟩, rfl⟩, hk⟩
/-- A smaller class, from here on. -/
theorem tailC_new {B b0 : Nat} (B' : Nat) {r : List (Bool × Oper)} {a : Act} {w w' : World} (hs : SameX B b0 w w') (hB : B ≤ B') (hk : wpMixC P ops Q r (fun x => ∃ u : LaterX B' b0 w', x = u.world) a w') :
    tailQ (fun x => ∃ u : LaterX B b0 w, x = u.world) Q (fun a' w' => ∃ S' : World → Prop, (∀ x, S' x → (∃ u : LaterX B b0 w, x = u.world)) ∧ S' w' ∧ wpMixC P ops Q r S' a' w') .normal a w' := by
  refine ⟨⟨⟨w', hs⟩, rfl⟩, _, ?_, ⟨⟨w', fun _ _ _ _ => rfl⟩, rfl⟩, hk⟩
  rintro x ⟨u, rfl⟩
  exact ⟨⟨u.world, fun b o hb hne => (u.same b o (by omega) hne).trans (hs b o hb hne)⟩, rfl⟩
end
end Go.Proofs.YtdklmcicogmeaaaGreat

/- A question about a network: its error: the program's function. -/
namespace Go.Proofs.YtdklmcicogmeaaaGreat
open Go.RowKit
set_option linter.unusedVariables false

def askE (s l : List T3) (fs : List Int) (rs : List (Int × Int)) : Int := firstErr [(netE s).2, defsE s.length l, freE fs, respsE rs, unl ((rs.length : Int) == (fs.length : Int)) 10]
set_option maxHeartbeats 2000000 in
set_option maxRecDepth 100000 in
theorem ask_any (n c m cm nf cf nr cr : Nat) (a ap af ar : Option Addr) (s l : List T3) (fs : List Int) (rs : List (Int × Int)) (w : World) (hs : T3R w a n s) (hl : T3R w ap m l) (hf : IntsR w af nf fs) (hr : PairsR w ar nr rs) :
    Calls Tryz.prog 104 #[.agg #[.slice a n c], .slice ap m cm, .agg #[.slice af nf cf, .slice ar nr cr]] w fun e' w' => e' = .returned (.tuple #[.agg #[.slice a n c, .slice ap m cm, .slice af nf cf, .slice ar nr cr], .int .i64 (askE s l fs rs)]) ∧ Below w.heap.size w w' := by
  have hn := hs.small
  have hm := hl.small
  have hnf := hf.small
  have hnr := hr.small
  have HN := Lib.hid (fun (w' : World) (hb : Below w.heap.size w w') => networkErr_any s a n c w' (hs.below hb))
  have HD := Lib.hid (fun (w' : World) (hb : Below w.heap.size w w') => deformationsErr_any n c m cm a ap l w' hn (hl.below hb))
  have HF := Lib.hid (fun (w' : World) (hb : Below w.heap.size w w') => frequenciesErr_any fs af nf cf w' (hf.below hb))
  have HR := Lib.hid (fun (w' : World) (hb : Below w.heap.size w w') => responsesErr_any rs ar nr cr w' (hr.below hb))
  have HE := Lib.hid (show askE s l fs rs = firstErr [(netE s).2, defsE n l, freE fs, respsE rs, unl ((nr : Int) == (nf : Int)) 10] by unfold askE; rw [hs.len, hf.len, hr.len])
  generalize askE s l fs rs = E at *
  generalize (netE s).2 = e1 at *
  generalize defsE n l = e2 at *
  generalize freE fs = e3 at *
  generalize respsE rs = e4 at *
  clear hs hl hf hr
  go_enter Tryz.func104, Tryz.ntmps104
  go_wp2_with fail
  generalize hW : World.alloc _ _ = w5
  have hb5 : Below w.heap.size w w5 := by rw [← hW]; (repeat' (first | (with_reducible exact Below.refl _ _) | (with_reducible assumption) | (with_reducible refine Below.drewN ?_ _) | (with_reducible refine Below.alloc ?_ ?_ _) | (with_reducible refine Below.drew ?_) | (with_reducible refine Below.setCell ?_ ?_ _) | (with_reducible refine Below.step (by assumption) ?_ ?_) | (with_reducible exact And.left (by assumption)) | go_size))
  have q0 : w5.cell? ⟨w.heap.size, 0, none⟩ = some (.slice a n c) := by { rw [← hW]; clear hW; go_simp }
  have p0 : w5.cell? ⟨w.heap.size + 1, 0, none⟩ = some (.slice af nf cf) := by { rw [← hW]; clear hW; go_simp }
  have p1 : w5.cell? ⟨w.heap.size + 1, 1, none⟩ = some (.slice ar nr cr) := by { rw [← hW]; clear hW; go_simp }
  have z0 : w5.cell? ⟨w.heap.size + 1 + 1, 0, none⟩ = some (.slice none 0 0) := by { rw [← hW]; clear hW; go_simp }
  have z1 : w5.cell? ⟨w.heap.size + 1 + 1, 1, none⟩ = some (.slice none 0 0) := by { rw [← hW]; clear hW; go_simp }
  have z2 : w5.cell? ⟨w.heap.size + 1 + 1, 2, none⟩ = some (.slice none 0 0) := by { rw [← hW]; clear hW; go_simp }
  have z3 : w5.cell? ⟨w.heap.size + 1 + 1, 3, none⟩ = some (.slice none 0 0) := by { rw [← hW]; clear hW; go_simp }
  have f0 : w5.frozen? ⟨w.heap.size + 1 + 1, 0, none⟩ = false := by { rw [← hW]; clear hW; go_simp }
  have f1 : w5.frozen? ⟨w.heap.size + 1 + 1, 1, none⟩ = false := by { rw [← hW]; clear hW; go_simp }
  have f2 : w5.frozen? ⟨w.heap.size + 1 + 1, 2, none⟩ = false := by { rw [← hW]; clear hW; go_simp }
  have f3 : w5.frozen? ⟨w.heap.size + 1 + 1, 3, none⟩ = false := by { rw [← hW]; clear hW; go_simp }
  have l2 : w.heap.size + 1 + 1 < w5.heap.size := by { rw [← hW]; clear hW; simp }
  have ok0 : OkB w.heap.size w5.heap.size (w.heap.size + 1 + 1) := ⟨by omega, by omega⟩
  have ok1 : OkB (w.heap.size + 1) w5.heap.size (w.heap.size + 1 + 1) := ⟨by omega, by omega⟩
  have HB5 := Lib.hid hb5
  clear hW hb5
  refine wp_region_laterC (B := w5.heap.size) (b0 :=  w.heap.size + 1 + 1) [(true, 0), (true, 1), (true, 2), (true, 3), (true, 4), (true, 6), (true, 7), (true, 9), (true, 10), (true, 12), (true, 13), (true, 15), (true, 16), (true, 17), (true, 18), (true, 19), (true, 20), (true, 21), (false, 5), (false, 8), (false, 11), (false, 14), (false, 22), (false, 23), (false, 24), (false, 25), (true, 26)] (by kernel_rfl) (by kernel_rfl) ?_; simp only [opsOf, List.filterMap_cons, List.filterMap_nil, List.getElem?_toArray, List.getElem?_cons_zero, List.getElem?_cons_succ, Option.map_some]
  repeat (refine mixc_head ?_; (show wpQuiet _ _ _ _ (_ :: _) _; go_big_quiet_step (fail)); refine wpQuiet_nil ?_)
  refine mixc_tail ?_; go_wp2_with fail
  refine (HN.out _ HB5.out.drew).mono ?_
  rintro e6 w6 ⟨rfl, hb6⟩
  have HX := Lib.hid ((Below.refl w5.heap.size w5).drew.trans hb6)
  clear hb6
  go_wp2_with fail
  refine tailC_stay (SameX.of_below HX.out) ?_
  repeat (refine mixc_head ?_; (show wpQuiet _ _ _ _ (_ :: _) _; go_big_quiet_step (fail)); refine wpQuiet_nil ?_)
  refine mixc_tail ?_; go_wp2_with fail
  refine (HD.out _ (HB5.out.trans (HX.out.mono HB5.out.size))).mono ?_
  rintro e7 w7 ⟨rfl, hb7⟩
  have HX := Lib.hid (HX.out.trans (hb7.mono HX.out.size))
  clear hb7
  go_wp2_with fail
  refine tailC_stay (SameX.of_below HX.out) ?_
  repeat (refine mixc_head ?_; (show wpQuiet _ _ _ _ (_ :: _) _; go_big_quiet_step (fail)); refine wpQuiet_nil ?_)
  refine mixc_tail ?_; go_wp2_with fail
  refine (HF.out _ (HB5.out.trans (HX.out.mono HB5.out.size))).mono ?_
  rintro e8 w8 ⟨rfl, hb8⟩
  have HX := Lib.hid (HX.out.trans (hb8.mono HX.out.size))
  clear hb8
  go_wp2_with fail
  refine tailC_stay (SameX.of_below HX.out) ?_
  repeat (refine mixc_head ?_; (show wpQuiet _ _ _ _ (_ :: _) _; go_big_quiet_step (fail)); refine wpQuiet_nil ?_)
  refine mixc_tail ?_; go_wp2_with fail
  refine (HR.out _ (HB5.out.trans (HX.out.mono HB5.out.size))).mono ?_
  rintro e9 w9 ⟨rfl, hb9⟩
  have HX := Lib.hid (HX.out.trans (hb9.mono HX.out.size))
  clear hb9
  go_wp2_with fail
  refine tailC_stay (SameX.of_below HX.out) ?_
  repeat (refine mixc_head ?_; (show wpQuiet _ _ _ _ (_ :: _) _; go_big_quiet_step (fail)); refine wpQuiet_nil ?_)
  refine mixc_tail ?_; go_wp2_with fail
  refine (d_unless_any _ _ _).mono ?_
  rintro e10 w10 ⟨rfl, rfl⟩
  go_wp2_with fail
  refine tailC_stay (SameX.of_below HX.out) ?_
  repeat (refine mixc_head ?_; (show wpQuiet _ _ _ _ (_ :: _) _; go_big_quiet_step (fail)); refine wpQuiet_nil ?_)
  refine mixc_tail ?_; go_wp2_with fail
  refine tailC_stay (SameX.of_below (HX.out.alloc HX.out.size _)) ?_
  repeat (refine mixc_head ?_; (show wpQuiet _ _ _ _ (_ :: _) _; go_big_quiet_step (fail)); refine wpQuiet_nil ?_)
  refine mixc_tail ?_; go_wp2_with fail
  have HX := Lib.hid (HX.out.alloc HX.out.size (Obj.cells #[.int .i64 e1, .int .i64 e2, .int .i64 e3, .int .i64 e4, .int .i64 (unl ((nr : Int) == (nf : Int)) 10)] 43))
  refine (d_first5 _ _ _ _ _ _ _ _ _ (by rfl) (by simp)).mono ?_
  rintro e11 w11 ⟨rfl, hw11⟩
  rw [hw11] at HX
  rw [← HE.out]
  have hbx := HX.out
  have z0d : w11.cell? ⟨w.heap.size + 1 + 1, 0, none⟩ = some (.slice none 0 0) := by { rw [cellB hbx _ _ (by first | (simp; done) | (simp; omega) | omega)]; all_goals (first | assumption | go_simp) }; have z1d : w11.cell? ⟨w.heap.size + 1 + 1, 1, none⟩ = some (.slice none 0 0) := by { rw [cellB hbx _ _ (by first | (simp; done) | (simp; omega) | omega)]; all_goals (first | assumption | go_simp) }; have z2d : w11.cell? ⟨w.heap.size + 1 + 1, 2, none⟩ = some (.slice none 0 0) := by { rw [cellB hbx _ _ (by first | (simp; done) | (simp; omega) | omega)]; all_goals (first | assumption | go_simp) }; have z3d : w11.cell? ⟨w.heap.size + 1 + 1, 3, none⟩ = some (.slice none 0 0) := by { rw [cellB hbx _ _ (by first | (simp; done) | (simp; omega) | omega)]; all_goals (first | assumption | go_simp) }; have f0d : w11.frozen? ⟨w.heap.size + 1 + 1, 0, none⟩ = false := by { rw [frozenB hbx _ _ (by first | (simp; done) | (simp; omega) | omega)]; all_goals (first | assumption | go_simp) }; have f1d : w11.frozen? ⟨w.heap.size + 1 + 1, 1, none⟩ = false := by { rw [frozenB hbx _ _ (by first | (simp; done) | (simp; omega) | omega)]; all_goals (first | assumption | go_simp) }; have f2d : w11.frozen? ⟨w.heap.size + 1 + 1, 2, none⟩ = false := by { rw [frozenB hbx _ _ (by first | (simp; done) | (simp; omega) | omega)]; all_goals (first | assumption | go_simp) }; have f3d : w11.frozen? ⟨w.heap.size + 1 + 1, 3, none⟩ = false := by { rw [frozenB hbx _ _ (by first | (simp; done) | (simp; omega) | omega)]; all_goals (first | assumption | go_simp) }
  clear hbx hw11
  go_wp2_with fail
  refine tailC_stay (SameX.of_below HX.out) ?_
  repeat (refine mixc_head ?_; (show wpQuiet _ _ _ _ (_ :: _) _; go_big_quiet_step (fail)); refine wpQuiet_nil ?_)
  refine mixc_tail ?_; go_wp2_with fail
  refine tailC_stay (.set (.set (.set (.set (SameX.of_below HX.out) _) _) _) _) ?_
  repeat (refine mixc_head ?_; (show wpQuiet _ _ _ _ (_ :: _) _; go_big_quiet_step (fail)); refine wpQuiet_nil ?_)
  refine mixc_nil ?_
  go_wp2_with fail
  generalize hW : World.setCell _ _ _ = w12
  have r0 : w12.cell? ⟨w.heap.size + 1 + 1, 0, none⟩ = some (.slice a n c) := by { rw [← hW]; clear hW; go_simp }
  have r1 : w12.cell? ⟨w.heap.size + 1 + 1, 1, none⟩ = some (.slice ap m cm) := by { rw [← hW]; clear hW; go_simp }
  have r2 : w12.cell? ⟨w.heap.size + 1 + 1, 2, none⟩ = some (.slice af nf cf) := by { rw [← hW]; clear hW; go_simp }
  have r3 : w12.cell? ⟨w.heap.size + 1 + 1, 3, none⟩ = some (.slice ar nr cr) := by { rw [← hW]; clear hW; go_simp }
  have hb12 : Below w.heap.size w w12 := by { rw [← hW]; have := HB5.out.trans (HX.out.mono HB5.out.size); (repeat' (first | (with_reducible exact Below.refl _ _) | (with_reducible assumption) | (with_reducible refine Below.drewN ?_ _) | (with_reducible refine Below.alloc ?_ ?_ _) | (with_reducible refine Below.drew ?_) | (with_reducible refine Below.setCell ?_ ?_ _) | (with_reducible refine Below.step (by assumption) ?_ ?_) | (with_reducible exact And.left (by assumption)) | go_size)) }
  clear hW
  exact bodyPost_ret (v := .tuple #[.agg #[.slice a n c, .slice ap m cm, .slice af nf cf, .slice ar nr cr], .int .i64 E]) (by simp [results, Tryz.results104, go_sem, r0, r1, r2, r3]) rfl ⟨rfl, hb12⟩
end Go.Proofs.YtdklmcicogmeaaaGreat
