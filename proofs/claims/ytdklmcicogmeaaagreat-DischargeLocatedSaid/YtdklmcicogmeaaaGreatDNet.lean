import Derived.Test.YtdklmcicogmeaaaGreatMDLst
import Derived.Test.YtdklmcicogmeaaaGreatMDRec
import Derived.Test.YtdklmcicogmeaaaGreatMDSmall
import Derived.Test.YtdklmcicogmeaaaGreatMDSubs
import Derived.Test.YtdklmcicogmeaaaGreatMQTail
/- Networks: their sections, the errors: plain words and the program's functions. -/
namespace Go.Proofs.YtdklmcicogmeaaaGreat
open Go.RowKit
set_option linter.unusedVariables false

def secB (p : T3) : Bool := (wi p.x 0 5 && wi p.y 0 3) && wi p.z 0 3
def netH (n : Nat) : Int := firstErr [unl (decide (0 < n)) 10, unl (decide ((n : Int) ≤ 3)) 8]
def netE (l : List T3) : Int × Int := if netH l.length ≠ 0 then (0, netH l.length) else if 0 ≤ idxFrom (fun p => !secB p) l 0 then (idxFrom (fun p => !secB p) l 0, 2) else (0, 0)
theorem calls_drew_k {P : Program} {f : FuncId} {args : Array Value} {w : World} {k n : Nat} {v : Value}
    (h : Calls P f args (w.drewN (k + n)) fun e w' => e = .returned v ∧ w.drewN (k + n) = w') : Calls P f args (w.drewN (k + n)) fun e w'' => e = .returned v ∧ ∃ m, w'' = w.drewN (k + m) :=
  h.mono fun _ _ ⟨he, hm⟩ => ⟨he, n, hm.symm⟩
theorem mosts_any (w : World) : Calls Tryz.prog 169 #[] w fun e' w' => e' = .returned (.agg #[.int .i64 5, .int .i64 3, .int .i64 3]) ∧ Below w.heap.size w w' := by
  go_enter Tryz.func169, Tryz.ntmps169
  go_wp2
  refine bodyPost_ret (v := .agg #[.int .i64 5, .int .i64 3, .int .i64 3]) (by simp [results, Tryz.results169, go_sem]) rfl ⟨rfl, ?_⟩
  (repeat' (first | (with_reducible exact Below.refl _ _) | (with_reducible assumption) | (with_reducible refine Below.drewN ?_ _) | (with_reducible refine Below.alloc ?_ ?_ _) | (with_reducible refine Below.drew ?_) | (with_reducible refine Below.setCell ?_ ?_ _) | (with_reducible refine Below.step (by assumption) ?_ ?_) | (with_reducible exact And.left (by assumption)) | go_size))
set_option maxRecDepth 100000 in
theorem numbers_any (b o : Nat) (w : World) : Calls Tryz.prog 131 #[.pointer (some ⟨b, o, none⟩)] w fun e' w' => e' = .returned (.agg #[.pointer (some ⟨b, o, none⟩), .pointer (some ⟨b, o + 1, none⟩), .pointer (some ⟨b, o + 2, none⟩)]) ∧ Below w.heap.size w w' := by
  go_enter Tryz.func131, Tryz.ntmps131
  go_wp2_with fail
  refine drew_of_eq 10 (by kernel_rfl) (by kernel_rfl) ?_; simp only [List.take_succ_cons, List.take_zero, List.drop_succ_cons, List.drop_zero]; repeat go_big_quiet_step (fail)
  refine wpQuiet_nil ?_; intro m7
  go_wp2
  refine bodyPost_ret (v := .agg #[.pointer (some ⟨b, o, none⟩), .pointer (some ⟨b, o + 1, none⟩), .pointer (some ⟨b, o + 2, none⟩)]) (by simp [results, Tryz.results131, go_sem]) rfl ⟨rfl, ?_⟩
  (repeat' (first | (with_reducible exact Below.refl _ _) | (with_reducible assumption) | (with_reducible refine Below.drewN ?_ _) | (with_reducible refine Below.alloc ?_ ?_ _) | (with_reducible refine Below.drew ?_) | (with_reducible refine Below.setCell ?_ ?_ _) | (with_reducible refine Below.step (by assumption) ?_ ?_) | (with_reducible exact And.left (by assumption)) | go_size))
set_option maxHeartbeats 1000000 in
set_option maxRecDepth 100000 in
theorem isSection_any (p : T3) (w : World) : Calls Tryz.prog 159 #[.agg #[.int .i64 p.x, .int .i64 p.y, .int .i64 p.z]] w fun e' w' => e' = .returned (.bool (secB p)) ∧ Below w.heap.size w w' := by
  obtain ⟨x, y, z⟩ := p
  unfold secB
  simp only
  have HX := Lib.hid (fun w' => d_within_any x 0 5 w')
  have HY := Lib.hid (fun w' => d_within_any y 0 3 w')
  have HZ := Lib.hid (fun w' => d_within_any z 0 3 w')
  generalize wi x 0 5 = x1 at *
  generalize wi y 0 3 = x2 at *
  generalize wi z 0 3 = x3 at *
  go_enter Tryz.func159, Tryz.ntmps159
  go_wp2_with fail
  refine (mosts_any _).mono ?_
  rintro e5 w5 ⟨rfl, hb5⟩
  have hz5 := hb5.size
  simp only [World.size_alloc] at hz5
  have q0 : w5.cell? ⟨w.heap.size, 0, none⟩ = some (.int .i64 x) := by { rw [cellB hb5 _ _ (by first | (simp; done) | (simp; omega) | omega)]; all_goals (first | assumption | go_simp) }; have q1 : w5.cell? ⟨w.heap.size, 1, none⟩ = some (.int .i64 y) := by { rw [cellB hb5 _ _ (by first | (simp; done) | (simp; omega) | omega)]; all_goals (first | assumption | go_simp) }; have q2 : w5.cell? ⟨w.heap.size, 2, none⟩ = some (.int .i64 z) := by { rw [cellB hb5 _ _ (by first | (simp; done) | (simp; omega) | omega)]; all_goals (first | assumption | go_simp) }; have l0 : w.heap.size < w5.heap.size := by { omega }
  have HB5 := Lib.hid (show Below w.heap.size w w5 by (repeat' (first | (with_reducible exact Below.refl _ _) | (with_reducible assumption) | (with_reducible refine Below.drewN ?_ _) | (with_reducible refine Below.alloc ?_ ?_ _) | (with_reducible refine Below.drew ?_) | (with_reducible refine Below.setCell ?_ ?_ _) | (with_reducible refine Below.step (by assumption) ?_ ?_) | (with_reducible exact And.left (by assumption)) | go_size)))
  clear hb5
  go_wp2_with fail
  have hb6' : Below w5.heap.size w5 (w5.alloc (Obj.cells #[.int .i64 5, .int .i64 3, .int .i64 3] 22)) := by (repeat' (first | (with_reducible exact Below.refl _ _) | (with_reducible assumption) | (with_reducible refine Below.drewN ?_ _) | (with_reducible refine Below.alloc ?_ ?_ _) | (with_reducible refine Below.drew ?_) | (with_reducible refine Below.setCell ?_ ?_ _) | (with_reducible refine Below.step (by assumption) ?_ ?_) | (with_reducible exact And.left (by assumption)) | go_size))
  have m0 : (w5.alloc (Obj.cells #[.int .i64 5, .int .i64 3, .int .i64 3] 22)).cell? ⟨w5.heap.size, 0, none⟩ = some (.int .i64 5) := by go_simp
  have m1 : (w5.alloc (Obj.cells #[.int .i64 5, .int .i64 3, .int .i64 3] 22)).cell? ⟨w5.heap.size, 1, none⟩ = some (.int .i64 3) := by go_simp
  have m2 : (w5.alloc (Obj.cells #[.int .i64 5, .int .i64 3, .int .i64 3] 22)).cell? ⟨w5.heap.size, 2, none⟩ = some (.int .i64 3) := by go_simp
  have lm : w5.heap.size < (w5.alloc (Obj.cells #[.int .i64 5, .int .i64 3, .int .i64 3] 22)).heap.size := by simp
  generalize w5.alloc (Obj.cells #[.int .i64 5, .int .i64 3, .int .i64 3] 22) = wm at *
  obtain ⟨XM, hXM⟩ : ∃ X, X = w5.heap.size := ⟨_, rfl⟩
  rw [← hXM] at m0 m1 m2 lm ⊢
  have q0d : wm.cell? ⟨w.heap.size, 0, none⟩ = some (.int .i64 x) := by { rw [cellB hb6' _ _ (by first | (simp; done) | (simp; omega) | omega)]; all_goals (first | assumption | go_simp) }; have q1d : wm.cell? ⟨w.heap.size, 1, none⟩ = some (.int .i64 y) := by { rw [cellB hb6' _ _ (by first | (simp; done) | (simp; omega) | omega)]; all_goals (first | assumption | go_simp) }; have q2d : wm.cell? ⟨w.heap.size, 2, none⟩ = some (.int .i64 z) := by { rw [cellB hb6' _ _ (by first | (simp; done) | (simp; omega) | omega)]; all_goals (first | assumption | go_simp) }; have l0d : w.heap.size < wm.heap.size := by { omega }
  refine (numbers_any _ _ _).mono ?_
  rintro e6 w6 ⟨rfl, hb6⟩
  have q0 : w6.cell? ⟨w.heap.size, 0, none⟩ = some (.int .i64 x) := by { rw [cellB hb6 _ _ (by first | (simp; done) | (simp; omega) | omega)]; all_goals (first | assumption | go_simp) }; have q1 : w6.cell? ⟨w.heap.size, 1, none⟩ = some (.int .i64 y) := by { rw [cellB hb6 _ _ (by first | (simp; done) | (simp; omega) | omega)]; all_goals (first | assumption | go_simp) }; have q2 : w6.cell? ⟨w.heap.size, 2, none⟩ = some (.int .i64 z) := by { rw [cellB hb6 _ _ (by first | (simp; done) | (simp; omega) | omega)]; all_goals (first | assumption | go_simp) }; have n0 : w6.cell? ⟨XM, 0, none⟩ = some (.int .i64 5) := by { rw [cellB hb6 _ _ (by first | (simp; done) | (simp; omega) | omega)]; all_goals (first | assumption | go_simp) }; have n1 : w6.cell? ⟨XM, 1, none⟩ = some (.int .i64 3) := by { rw [cellB hb6 _ _ (by first | (simp; done) | (simp; omega) | omega)]; all_goals (first | assumption | go_simp) }; have n2 : w6.cell? ⟨XM, 2, none⟩ = some (.int .i64 3) := by { rw [cellB hb6 _ _ (by first | (simp; done) | (simp; omega) | omega)]; all_goals (first | assumption | go_simp) }
  have HB6 := Lib.hid (HB5.out.trans ((hb6'.trans (hb6.mono hb6'.size)).mono HB5.out.size))
  clear hb6 hb6' m0 m1 m2 q0d q1d q2d hXM HB5 l0 lm l0d hz5
  go_wp2_with fail
  go_loopw [8] (fun i wr => ∃ m, wr = w6.drewN m ∧ (i = .int .i64 0 ∨ (i = .int .i64 1 ∧ x1 = true) ∨ (i = .int .i64 2 ∧ x1 = true ∧ x2 = true) ∨ (i = .int .i64 3 ∧ x1 = true ∧ x2 = true ∧ x3 = true))) (fun i _ => 3 - (intOf i).toNat)
  case atStart => exact ⟨0, rfl, .inl rfl⟩
  case round =>
    obtain ⟨m, rfl, hrel⟩ := hrel
    rcases hrel with rfl | ⟨rfl, rfl⟩ | ⟨rfl, rfl, rfl⟩ | ⟨rfl, rfl, rfl, rfl⟩
    · go_wp2_with fail
      go_quiet (exact calls_drew_k (HX.out _))
      cases x1
      · go_wp2
        go_ret
        exact ⟨ret_bool (by simp), (HB6.out.drewN _).drewN _⟩
      · go_wp2
        go_roundw
        case rel => exact ⟨_, rfl, by simp⟩
        case measure => simp [intOf]
    · go_wp2_with fail
      go_quiet (exact calls_drew_k (HY.out _))
      cases x2
      · go_wp2
        go_ret
        exact ⟨ret_bool (by simp), (HB6.out.drewN _).drewN _⟩
      · go_wp2
        go_roundw
        case rel => exact ⟨_, rfl, by simp⟩
        case measure => simp [intOf]
    · go_wp2_with fail
      go_quiet (exact calls_drew_k (HZ.out _))
      cases x3
      · go_wp2
        go_ret
        exact ⟨ret_bool (by simp), (HB6.out.drewN _).drewN _⟩
      · go_wp2
        go_roundw
        case rel => exact ⟨_, rfl, by simp⟩
        case measure => simp [intOf]
    · go_wp2
      go_ret
      exact ⟨ret_bool (by simp), HB6.out.drewN _⟩
theorem cn1_any (p : T3) (w : World) : Calls Tryz.prog 158 #[.agg #[.int .i64 p.x, .int .i64 p.y, .int .i64 p.z]] w fun e w' => e = .returned (.bool (!secB p)) ∧ Below w.heap.size w w' := by
  have HS := Lib.hid (fun w' => isSection_any p w')
  generalize secB p = b at *
  obtain ⟨x, y, z⟩ := p
  simp only at HS ⊢
  go_enter Tryz.func158, Tryz.ntmps158
  go_wp2_with fail
  refine (HS.out _).mono ?_
  rintro e5 w5 ⟨rfl, hb5⟩
  go_wp2
  go_ret
  exact ⟨rfl, by (repeat' (first | (with_reducible exact Below.refl _ _) | (with_reducible assumption) | (with_reducible refine Below.drewN ?_ _) | (with_reducible refine Below.alloc ?_ ?_ _) | (with_reducible refine Below.drew ?_) | (with_reducible refine Below.setCell ?_ ?_ _) | (with_reducible refine Below.step (by assumption) ?_ ?_) | (with_reducible exact And.left (by assumption)) | go_size))⟩
theorem cf_cn1 (args : Array Value) (w : World) : (callFunc 158 args).run Tryz.prog w = .ok (.enter 158 args) w := by kernel_rfl
theorem drop_cons3 {α : Type} {l : List α} {k : Nat} {x : α} (h : l[k]? = some x) : l.drop k = x :: l.drop (k + 1) := drop_cons' h
set_option maxRecDepth 100000 in
theorem indexSecs_any (f : FuncId) (p : T3 → Bool) (hf : ∀ args w, (callFunc f args).run Tryz.prog w = .ok (.enter f args) w) (hp : ∀ (x : T3) (w : World), Calls Tryz.prog f #[.agg #[.int .i64 x.x, .int .i64 x.y, .int .i64 x.z]] w fun e w' => e = .returned (.bool (p x)) ∧ Below w.heap.size w w')
    (l : List T3) (a : Option Addr) (n c : Nat) (w : World) (hl : T3R w a n l) :
    Calls Tryz.prog 157 #[.slice a n c, .func (.func f) #[] #[]] w fun e' w' => e' = .returned (.int .i64 (idxFrom p l 0)) ∧ Below w.heap.size w w' := by
  have HL := Lib.hid hl
  have HP := Lib.hid hp
  have hn := hl.small
  clear hl hp
  go_enter Tryz.func157, Tryz.ntmps157
  go_wp2
  go_loopw [8] (fun i wr => ∃ k : Nat, i = .int .i64 k ∧ k ≤ n ∧ Hid (idxFrom p (l.drop k) k = idxFrom p l 0) ∧ Hid (Below w.heap.size w wr)) (fun i _ => n - (intOf i).toNat)
  case atStart => exact ⟨0, rfl, Nat.zero_le _, rfl, Lib.hid (Below.refl _ _)⟩
  case round =>
    obtain ⟨k, rfl, hk, hF, hB⟩ := hrel
    by_cases hlt : k < n
    · obtain ⟨b, o, rfl, hb, hc⟩ := HL.out.addr (by omega)
      obtain ⟨⟨x, y, z⟩, hx⟩ := ER.get HL.out hlt
      obtain ⟨q0, q1, q2⟩ := hc k _ hx
      rw [← cellB hB.out _ _ hb] at q0 q1 q2
      have hF' := hF.out
      rw [drop_cons' hx, idxFrom] at hF'
      have HF := Lib.hid hF'
      have HPX := Lib.hid (fun w' => HP.out ⟨x, y, z⟩ w')
      simp only at HPX
      clear hF' hF hx hc
      obtain ⟨v, hv⟩ : ∃ v, v = p ⟨x, y, z⟩ := ⟨_, rfl⟩
      rw [← hv] at HF HPX
      have i0 : (0 : Int) ≤ (k : Int) := by omega
      clear hv
      go_wp2_with fail
      refine (HPX.out _).mono ?_
      rintro e w' ⟨rfl, hb'⟩
      have HB := Lib.hid (hB.out.trans (hb'.mono hB.out.size))
      clear hb' hB
      cases v
      · rw [if_neg (by decide)] at HF
        go_wp2
        go_roundw
        case rel => exact ⟨k + 1, by go_num, by omega, HF, HB⟩
        case measure => simp [intOf]; omega
      · rw [if_pos rfl] at HF
        go_wp2
        go_ret
        exact ⟨ret_int HF.out, HB.out⟩
    · have HE := Lib.hid (show (-1 : Int) = idxFrom p l 0 by rw [← hF.out, drop_end l k (by rw [ER.len HL.out]; omega)]; rfl)
      clear hF
      go_wp2
      go_ret
      exact ⟨ret_int HE.out, hB.out⟩
set_option maxHeartbeats 1000000 in
set_option maxRecDepth 100000 in
theorem checkNetwork_any (l : List T3) (a : Option Addr) (n c : Nat) (w : World) (hl : T3R w a n l) :
    Calls Tryz.prog 123 #[.agg #[.slice a n c]] w fun e' w' => e' = .returned (.tuple #[.int .i64 (netE l).1, .int .i64 (netE l).2]) ∧ Below w.heap.size w w' := by
  have hn := hl.small
  have HI := Lib.hid (fun (w' : World) (hb : Below w.heap.size w w') => indexSecs_any _ (fun p => !secB p) cf_cn1 cn1_any l a n c w' (hl.below hb))
  have HU := Lib.hid (fun (b : Bool) (e : Int) w' => d_unless_any b e w')
  have hlen := hl.len
  unfold netE
  rw [hlen]
  have hix := idxFrom_le (fun p => !secB p) l 0
  obtain ⟨I, hI⟩ : ∃ I, I = idxFrom (fun p => !secB p) l 0 := ⟨_, rfl⟩
  rw [← hI] at HI hix ⊢
  obtain ⟨H, hH⟩ : ∃ H, H = netH n := ⟨_, rfl⟩
  rw [← hH]
  have HH := Lib.hid (hH.trans (show netH n = firstErr [unl (decide (0 < n)) 10, unl (decide ((n : Int) ≤ 3)) 8] from rfl))
  clear hl hI hH hlen
  by_cases h0 : H ≠ 0
  · rw [if_pos h0]
    have h0' : (H != 0) = true := by simpa using h0
    clear h0
    go_enter Tryz.func123, Tryz.ntmps123
    go_wp2_with fail
    refine later_of_eq 10 (by kernel_rfl) (by kernel_rfl) ?_; simp only [List.take_succ_cons, List.take_zero, List.drop_succ_cons, List.drop_zero]; repeat go_big_quiet_step (with_reducible exact calls_later_same (HU.out _ _ _))
    refine wpQuiet_nil ?_; intro w5 hb5
    have HB5 := Lib.hid (show Below w.heap.size w w5 by (repeat' (first | (with_reducible exact Below.refl _ _) | (with_reducible assumption) | (with_reducible refine Below.drewN ?_ _) | (with_reducible refine Below.alloc ?_ ?_ _) | (with_reducible refine Below.drew ?_) | (with_reducible refine Below.setCell ?_ ?_ _) | (with_reducible refine Below.step (by assumption) ?_ ?_) | (with_reducible exact And.left (by assumption)) | go_size)))
    clear hb5
    go_wp2_with fail
    refine (d_first2 _ _ _ _ _ _ (by rfl) (by simp)).mono ?_
    rintro e8 w8 ⟨rfl, hw8⟩
    have HB8 := Lib.hid (show Below w.heap.size w w8 from HB5.out.trans ((show Below w5.heap.size w5 w8 by rw [← hw8]; (repeat' (first | (with_reducible exact Below.refl _ _) | (with_reducible assumption) | (with_reducible refine Below.drewN ?_ _) | (with_reducible refine Below.alloc ?_ ?_ _) | (with_reducible refine Below.drew ?_) | (with_reducible refine Below.setCell ?_ ?_ _) | (with_reducible refine Below.step (by assumption) ?_ ?_) | (with_reducible exact And.left (by assumption)) | go_size))).mono HB5.out.size))
    clear hw8
    first | rw [← HH.out] | (have := HH.out; simp at this; rw [← this])
    go_wp2
    go_ret2
    exact ⟨rfl, HB8.out⟩
  · have h1 : H = 0 := Decidable.not_not.1 h0
    rw [if_neg h0]
    subst h1
    clear h0
    by_cases hI0 : 0 ≤ I
    · rw [if_pos hI0]
      go_enter Tryz.func123, Tryz.ntmps123
      go_wp2_with fail
      refine later_of_eq 10 (by kernel_rfl) (by kernel_rfl) ?_; simp only [List.take_succ_cons, List.take_zero, List.drop_succ_cons, List.drop_zero]; repeat go_big_quiet_step (with_reducible exact calls_later_same (HU.out _ _ _))
      refine wpQuiet_nil ?_; intro w5 hb5
      have hz5 := hb5.size
      simp only [World.size_alloc] at hz5
      have q0 : w5.cell? ⟨w.heap.size, 0, none⟩ = some (.slice a n c) := by { rw [cellB hb5 _ _ (by first | (simp; done) | (simp; omega) | omega)]; all_goals (first | assumption | go_simp) }; have l0 : w.heap.size < w5.heap.size := by { omega }
      have HB5 := Lib.hid (show Below w.heap.size w w5 by (repeat' (first | (with_reducible exact Below.refl _ _) | (with_reducible assumption) | (with_reducible refine Below.drewN ?_ _) | (with_reducible refine Below.alloc ?_ ?_ _) | (with_reducible refine Below.drew ?_) | (with_reducible refine Below.setCell ?_ ?_ _) | (with_reducible refine Below.step (by assumption) ?_ ?_) | (with_reducible exact And.left (by assumption)) | go_size)))
      clear hb5
      go_wp2_with fail
      refine (d_first2 _ _ _ _ _ _ (by rfl) (by simp)).mono ?_
      rintro e8 w8 ⟨rfl, hw8⟩
      have hb8 : Below w5.heap.size w5 w8 := by rw [← hw8]; (repeat' (first | (with_reducible exact Below.refl _ _) | (with_reducible assumption) | (with_reducible refine Below.drewN ?_ _) | (with_reducible refine Below.alloc ?_ ?_ _) | (with_reducible refine Below.drew ?_) | (with_reducible refine Below.setCell ?_ ?_ _) | (with_reducible refine Below.step (by assumption) ?_ ?_) | (with_reducible exact And.left (by assumption)) | go_size))
      have q0d : w8.cell? ⟨w.heap.size, 0, none⟩ = some (.slice a n c) := by { rw [cellB hb8 _ _ (by first | (simp; done) | (simp; omega) | omega)]; all_goals (first | assumption | go_simp) }
      have HB8 := Lib.hid (HB5.out.trans (hb8.mono HB5.out.size))
      clear hw8 hb8 q0
      first | rw [← HH.out] | (have := HH.out; simp at this; rw [← this])
      go_wp2_with fail
      refine (HI.out _ HB8.out).mono ?_
      rintro e9 w9 ⟨rfl, hb9⟩
      have HB9 := Lib.hid (HB8.out.trans (hb9.mono HB8.out.size))
      clear hb9
      go_wp2
      go_ret2
      exact ⟨rfl, HB9.out⟩
    · rw [if_neg hI0]
      go_enter Tryz.func123, Tryz.ntmps123
      go_wp2_with fail
      refine later_of_eq 10 (by kernel_rfl) (by kernel_rfl) ?_; simp only [List.take_succ_cons, List.take_zero, List.drop_succ_cons, List.drop_zero]; repeat go_big_quiet_step (with_reducible exact calls_later_same (HU.out _ _ _))
      refine wpQuiet_nil ?_; intro w5 hb5
      have hz5 := hb5.size
      simp only [World.size_alloc] at hz5
      have q0 : w5.cell? ⟨w.heap.size, 0, none⟩ = some (.slice a n c) := by { rw [cellB hb5 _ _ (by first | (simp; done) | (simp; omega) | omega)]; all_goals (first | assumption | go_simp) }; have l0 : w.heap.size < w5.heap.size := by { omega }
      have HB5 := Lib.hid (show Below w.heap.size w w5 by (repeat' (first | (with_reducible exact Below.refl _ _) | (with_reducible assumption) | (with_reducible refine Below.drewN ?_ _) | (with_reducible refine Below.alloc ?_ ?_ _) | (with_reducible refine Below.drew ?_) | (with_reducible refine Below.setCell ?_ ?_ _) | (with_reducible refine Below.step (by assumption) ?_ ?_) | (with_reducible exact And.left (by assumption)) | go_size)))
      clear hb5
      go_wp2_with fail
      refine (d_first2 _ _ _ _ _ _ (by rfl) (by simp)).mono ?_
      rintro e8 w8 ⟨rfl, hw8⟩
      have hb8 : Below w5.heap.size w5 w8 := by rw [← hw8]; (repeat' (first | (with_reducible exact Below.refl _ _) | (with_reducible assumption) | (with_reducible refine Below.drewN ?_ _) | (with_reducible refine Below.alloc ?_ ?_ _) | (with_reducible refine Below.drew ?_) | (with_reducible refine Below.setCell ?_ ?_ _) | (with_reducible refine Below.step (by assumption) ?_ ?_) | (with_reducible exact And.left (by assumption)) | go_size))
      have q0d : w8.cell? ⟨w.heap.size, 0, none⟩ = some (.slice a n c) := by { rw [cellB hb8 _ _ (by first | (simp; done) | (simp; omega) | omega)]; all_goals (first | assumption | go_simp) }
      have HB8 := Lib.hid (HB5.out.trans (hb8.mono HB5.out.size))
      clear hw8 hb8 q0
      first | rw [← HH.out] | (have := HH.out; simp at this; rw [← this])
      go_wp2_with fail
      refine (HI.out _ HB8.out).mono ?_
      rintro e9 w9 ⟨rfl, hb9⟩
      have HB9 := Lib.hid (HB8.out.trans (hb9.mono HB8.out.size))
      clear hb9
      go_wp2
      go_ret2
      exact ⟨rfl, HB9.out⟩
theorem networkErr_any (l : List T3) (a : Option Addr) (n c : Nat) (w : World) (hl : T3R w a n l) :
    Calls Tryz.prog 96 #[.agg #[.slice a n c]] w fun e' w' => e' = .returned (.int .i64 (netE l).2) ∧ Below w.heap.size w w' := by
  have HC := Lib.hid (fun (w' : World) (hb : Below w.heap.size w w') => checkNetwork_any l a n c w' (hl.below hb))
  generalize netE l = E at *
  obtain ⟨k, e⟩ := E
  simp only at HC ⊢
  clear hl
  go_enter Tryz.func96, Tryz.ntmps96
  go_wp2_with fail
  refine (HC.out _ (by (repeat' (first | (with_reducible exact Below.refl _ _) | (with_reducible assumption) | (with_reducible refine Below.drewN ?_ _) | (with_reducible refine Below.alloc ?_ ?_ _) | (with_reducible refine Below.drew ?_) | (with_reducible refine Below.setCell ?_ ?_ _) | (with_reducible refine Below.step (by assumption) ?_ ?_) | (with_reducible exact And.left (by assumption)) | go_size)))).mono ?_
  rintro e5 w5 ⟨rfl, hb5⟩
  go_wp2
  go_ret
  exact ⟨rfl, by (repeat' (first | (with_reducible exact Below.refl _ _) | (with_reducible assumption) | (with_reducible refine Below.drewN ?_ _) | (with_reducible refine Below.alloc ?_ ?_ _) | (with_reducible refine Below.drew ?_) | (with_reducible refine Below.setCell ?_ ?_ _) | (with_reducible refine Below.step (by assumption) ?_ ?_) | (with_reducible exact And.left (by assumption)) | go_size))⟩
end Go.Proofs.YtdklmcicogmeaaaGreat
