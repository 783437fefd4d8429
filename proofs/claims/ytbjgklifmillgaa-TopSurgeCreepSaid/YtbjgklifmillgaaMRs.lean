import Derived.Shelf.SlSortCmp.SmallK
import Derived.Test.YtbjgklifmillgaaMNm
import Derived.Test.YtbjgklifmillgaaMSt
import Derived.Test.YtbjgklifmillgaaSortLay
import Derived.Test.YtbjgklifmillgaaStress
/- The order of ranks, in the program: the closure that slices.SortFunc is given. -/
namespace Go.Proofs.Ytbjgklifmillgaa
open Go.RowKit Go.Lib
set_option linter.unusedVariables false

def rEnc (r : RankV) : List Value := [.string r.nm, .int .i64 r.q.num, .int .i64 (r.q.den : Int), .bool r.kp]
theorem rEnc_len (r : RankV) : (rEnc r).length = 4 := rfl
theorem grw2 (W : World) (a b : Obj) (m : Nat) : ∃ q os', ((W.alloc a).alloc b).drewN m = Go.Sort.grow (W.drewN q) os' := by
  refine ⟨m, #[a] ++ #[b], ?_⟩
  rw [Go.Sort.alloc_eq_grow, Go.Sort.alloc_eq_grow, Go.Sort.grow_grow]
  rfl
set_option maxHeartbeats 1000000 in
set_option maxRecDepth 100000 in
theorem rankCmp_any (x y : RankV) (W : World) (hx : smallQ x.q = true) (hy : smallQ y.q = true) :
    Calls Try.prog 93 #[.agg (rEnc x).toArray, .agg (rEnc y).toArray] W fun e w' => e = .returned (.int .i64 (rkC x y)) ∧ ∃ q os', w' = Go.Sort.grow (W.drewN q) os' := by
  obtain ⟨s, q, k⟩ := x
  obtain ⟨t, r, l⟩ := y
  simp only at hx hy
  unfold smallQ at hx hy
  simp only [Bool.and_eq_true, wi_iff] at hx hy
  have e1 : (r < q) ↔ r.num * q.den < q.num * r.den := Rat.lt_iff _ _
  have e2 : (q < r) ↔ q.num * r.den < r.num * q.den := Rat.lt_iff _ _
  have HR0 : rkC ⟨s, q, k⟩ ⟨t, r, l⟩ = if r.num * q.den < q.num * r.den then -1
    else if q.num * r.den < r.num * q.den then 1
    else if Op.bytesLess s.toList t.toList = true then -1
    else if (s.toList == t.toList) = true then 0 else 1 := by
    unfold rkC
    simp only [e1, e2]
  have HR := Lib.hid HR0
  clear HR0 e1 e2
  show Calls Try.prog 93 #[.agg #[.string s, .int .i64 q.num, .int .i64 (q.den : Int), .bool k], .agg #[.string t, .int .i64 r.num, .int .i64 (r.den : Int), .bool l]] W _
  generalize rkC ⟨s, q, k⟩ ⟨t, r, l⟩ = R at *
  generalize q.num = a at *
  generalize (q.den : Int) = b at *
  generalize r.num = c at *
  generalize (r.den : Int) = d at *
  have p1 := Int.mul_le_mul_of_nonneg_right (show a ≤ 1000000000 by omega) (show 0 ≤ d by omega)
  have p2 := Int.mul_le_mul_of_nonneg_right (show -1000000000 ≤ a by omega) (show 0 ≤ d by omega)
  have p3 := Int.mul_le_mul_of_nonneg_right (show c ≤ 1000000000 by omega) (show 0 ≤ b by omega)
  have p4 := Int.mul_le_mul_of_nonneg_right (show -1000000000 ≤ c by omega) (show 0 ≤ b by omega)
  obtain ⟨X, hX⟩ : ∃ X, X = a * d := ⟨_, rfl⟩
  obtain ⟨Y, hY⟩ : ∃ X, X = c * b := ⟨_, rfl⟩
  have m1 : a * d = X := hX.symm
  have m2 : c * b = Y := hY.symm
  clear hX hY
  rw [m1] at p1 p2 HR
  rw [m2] at p3 p4 HR
  have k1 : -1000000000000000000 ≤ X ∧ X ≤ 1000000000000000000 := by omega
  have k2 : -1000000000000000000 ≤ Y ∧ Y ≤ 1000000000000000000 := by omega
  clear p1 p2 p3 p4
  rcases Int.lt_trichotomy X Y with h | h | h
  · have h1 : (X != Y) = true := by simp; omega
    have h2 : ¬ (Y < X) := by omega
    have h3 : (X == Y) = false := by simp; omega
    have HV := Lib.hid (show R = 1 by rw [HR.out, if_neg h2, if_pos h])
    clear HR
    go_enter Try.func93, Try.ntmps93
    go_wp2_with fail
    refine drew_of_eq 15 (by kernel_rfl) (by kernel_rfl) ?_; simp only [List.take_succ_cons, List.take_zero, List.drop_succ_cons, List.drop_zero]; repeat go_big_quiet_step(fail)
    refine wpQuiet_nil ?_; intro m
    go_wp2
    go_ret
    exact ⟨ret_int HV.out.symm, grw2 W _ _ m⟩
  · subst h
    have h1 : (X != X) = false := by simp
    have h3 : (X == X) = true := by simp
    have hi := Int.lt_irrefl X
    cases hb : Op.bytesLess s.toList t.toList
    · cases he : (s.toList == t.toList)
      · have HV := Lib.hid (show R = 1 by rw [HR.out, if_neg hi, if_neg hi, if_neg (by rw [hb]; decide), if_neg (by rw [he]; decide)])
        clear HR
        go_enter Try.func93, Try.ntmps93
        go_wp2_with fail
        refine drew_of_eq 15 (by kernel_rfl) (by kernel_rfl) ?_; simp only [List.take_succ_cons, List.take_zero, List.drop_succ_cons, List.drop_zero]; repeat go_big_quiet_step(fail)
        refine wpQuiet_nil ?_; intro m
        go_wp2
        go_ret
        exact ⟨ret_int HV.out.symm, grw2 W _ _ m⟩
      · have HV := Lib.hid (show R = 0 by rw [HR.out, if_neg hi, if_neg hi, if_neg (by rw [hb]; decide), if_pos he])
        clear HR
        go_enter Try.func93, Try.ntmps93
        go_wp2_with fail
        refine drew_of_eq 15 (by kernel_rfl) (by kernel_rfl) ?_; simp only [List.take_succ_cons, List.take_zero, List.drop_succ_cons, List.drop_zero]; repeat go_big_quiet_step(fail)
        refine wpQuiet_nil ?_; intro m
        go_wp2
        go_ret
        exact ⟨ret_int HV.out.symm, grw2 W _ _ m⟩
    · have HV := Lib.hid (show R = -1 by rw [HR.out, if_neg hi, if_neg hi, if_pos hb])
      clear HR
      go_enter Try.func93, Try.ntmps93
      go_wp2_with fail
      refine drew_of_eq 15 (by kernel_rfl) (by kernel_rfl) ?_; simp only [List.take_succ_cons, List.take_zero, List.drop_succ_cons, List.drop_zero]; repeat go_big_quiet_step(fail)
      refine wpQuiet_nil ?_; intro m
      go_wp2
      go_ret
      exact ⟨ret_int HV.out.symm, grw2 W _ _ m⟩
  · have h1 : (X != Y) = true := by simp; omega
    have h3 : (X == Y) = false := by simp; omega
    have HV := Lib.hid (show R = -1 by rw [HR.out, if_pos h])
    clear HR
    go_enter Try.func93, Try.ntmps93
    go_wp2_with fail
    refine drew_of_eq 15 (by kernel_rfl) (by kernel_rfl) ?_; simp only [List.take_succ_cons, List.take_zero, List.drop_succ_cons, List.drop_zero]; repeat go_big_quiet_step(fail)
    refine wpQuiet_nil ?_; intro m
    go_wp2
    go_ret
    exact ⟨ret_int HV.out.symm, grw2 W _ _ m⟩
end Go.Proofs.Ytbjgklifmillgaa

/- slices.SortFunc at ranks. -/
namespace Go.Proofs.Ytbjgklifmillgaa
open Go.RowKit Go.Proofs
set_option linter.unusedVariables false

/-- Ranks whose stress is small: of these the order is asked. -/
abbrev RkS := {r : RankV // smallQ r.q = true}
instance : Inhabited RkS := ⟨⟨⟨ByteArray.empty, 0, false⟩, by decide +kernel⟩⟩
def sEnc (x : RkS) : List Value := rEnc x.1
theorem sEnc_len (x : RkS) : (sEnc x).length = 4 := rfl
theorem sEnc_one (x : RkS) : ∀ v ∈ sEnc x, v.oneCell' = true := fun v hv => by
  simp only [sEnc, rEnc, List.mem_cons, List.not_mem_nil, or_false] at hv
  rcases hv with rfl | rfl | rfl | rfl <;> rfl
def sC (x y : RkS) : Int := rkC x.1 y.1
theorem sL_eq (x y : RkS) : ltOf sC x y = rkL x.1 y.1 := rfl
theorem sSWO : Go.Sort.SWO (ltOf sC) where
  irrefl x := rkL_irrefl x.1
  trans x y z := rkL_trans x.1 y.1 z.1
  ntrans x y z := rkL_ntrans x.1 y.1 z.1
theorem cmpLays_rk (blk off size : Nat) (w : World) : CmpLays Try.prog 93 #[] sEnc 4 sC blk off size w :=
  fun _ _ _ _ x y => rankCmp_any x.1 y.1 _ x.2 y.2
theorem hlen_rk (n : Nat) (W : World) (h : n ≤ 12) : Calls Try.prog 134 #[.int .u64 n] W fun e w' => (∃ l : Int, e = .returned (.int .i64 l)) ∧ w' = W :=
  (Any.bits_Len bitsLen2 n W (by omega) (by omega)).mono fun _ _ ⟨he, hw⟩ => ⟨⟨_, he⟩, hw⟩
theorem aggRk : ∀ w, (isAgg 110).run Try.prog w = .ok true w := fun w => by simp [go_sem]
theorem sizeRk : ∀ w, (Go.sizeOf 110).run Try.prog w = .ok 4 w := fun w => by simp [go_sem]
theorem eg_rk : ∀ args w, (callFunc 93 args).run Try.prog w = .ok (.enter 93 args) w := fun args w => by kernel_rfl
theorem vals_mk (l : List RankV) (h : ∀ r ∈ l, smallQ r.q = true) : ∃ l' : List RkS, l'.map Subtype.val = l := by
  induction l with
  | nil => exact ⟨[], rfl⟩
  | cons x r ih =>
    obtain ⟨r', hr⟩ := ih (fun y hy => h y (List.mem_cons_of_mem _ hy))
    exact ⟨⟨x, h x (List.mem_cons_self ..)⟩ :: r', by rw [List.map_cons, hr]⟩
theorem ecells_val (l : List RkS) : ecells sEnc l = ecells rEnc (l.map Subtype.val) := by
  unfold ecells
  rw [List.flatMap_map]; rfl
theorem holds_of_owns {l : List RkS} {g cap n base : Nat} {e : TypeId} {w : World} (hn : l.length = n)
    (ho : w.ownsRow base e 4 (.slice (some ⟨g, 0, none⟩) n cap) n (ecells sEnc l)) : Go.Sort.HoldsK sEnc 4 w g 0 l.toArray ∧ g < w.heap.size ∧ base ≤ g := by
  have hc := ho.cells (g := g) (by simp [Value.ownBlock])
  rcases ho.2 with ⟨hv, _⟩ | ⟨g', cap', cur, hv, hb, hg, _⟩
  · cases hv
  · simp only [Value.slice.injEq, Option.some.injEq, Addr.mk.injEq] at hv
    obtain ⟨⟨rfl, _⟩, _, rfl⟩ := hv
    refine ⟨fun j hj => ?_, (Array.getElem?_eq_some_iff.1 hg).1, hb⟩
    have hj' : j < l.length * 4 := by simpa [Go.Sort.size_flatK] using hj
    have h1 : j / 4 < l.length := by omega
    have h2 := ecells_get (enc := sEnc) sEnc_len (List.getElem?_eq_getElem h1) (j % 4) (by omega)
    rw [show j / 4 * 4 + j % 4 = j by omega] at h2
    have h3 : j % 4 < (sEnc l[j / 4]).length := by rw [sEnc_len]; omega
    rw [List.getElem?_eq_getElem h3] at h2
    have h4 := hc j _ h2
    rw [Addr.add_lit] at h4
    rw [Go.Sort.get_flatK _ _ _ _ (by simpa using hj')]
    have e1 : l.toArray[j / 4]! = l[j / 4] := by simp [h1]
    rw [e1, getElem!_pos (sEnc l[j / 4]) (j % 4) h3]
    exact ⟨h4, frozen_of_row w g (0 + j) cur e hg⟩
theorem er_of_holds {d : Array RkS} {g n : Nat} {w : World} (hn : d.size = n) (hs : n ≤ 12) (hg : g < w.heap.size) (h : Go.Sort.HoldsK sEnc 4 w g 0 d) : ER sEnc 4 w (some ⟨g, 0, none⟩) n d.toList := by
  refine ⟨by simpa using hn, by rw [ecells_len sEnc_len]; simp [hn], by unfold maxLen; omega, fun _ => ⟨g, 0, rfl, hg, fun j u hu => ?_⟩⟩
  have hj : j < d.size * 4 := by
    have := (List.getElem?_eq_some_iff.1 hu).1
    rw [ecells_len sEnc_len] at this
    simpa using this
  have h1 : j / 4 < d.toList.length := by simp; omega
  have h2 := ecells_get (enc := sEnc) sEnc_len (List.getElem?_eq_getElem h1) (j % 4) (by omega)
  rw [show j / 4 * 4 + j % 4 = j by omega, hu] at h2
  have h3 : j % 4 < (sEnc d.toList[j / 4]).length := by rw [sEnc_len]; omega
  rw [List.getElem?_eq_getElem h3] at h2
  have h4 := (h.cell (i := j / 4) (c := j % 4) (by omega) (by omega)).1
  rw [show 0 + j / 4 * 4 + j % 4 = 0 + j by omega] at h4
  rw [h4]
  have e1 : d[j / 4]! = d.toList[j / 4] := by
    rw [getElem!_pos d (j / 4) (by omega)]; simp
  rw [e1, getElem!_pos (sEnc d.toList[j / 4]) (j % 4) h3]
  exact h2.symm
theorem below_sort (d : Array RkS) (g m base : Nat) (os : Array Obj) (w : World) (hg : base ≤ g) (hgw : g < w.heap.size) : Below base w (sortWorldK sEnc 4 w g 0 m d os) := by
  refine ⟨rfl, rfl, rfl, ?_, fun b hb => ?_⟩
  · unfold sortWorldK Go.Sort.grow Go.Sort.putRowK
    simp [Go.Sort.ahead]
  unfold sortWorldK Go.Sort.grow Go.Sort.putRowK Go.Sort.putRow Go.Sort.mapBlock Go.Sort.ahead
  simp only
  rw [Array.getElem?_append_left (by simp; omega), Array.getElem?_modify, if_neg (by omega)]
theorem holds_grown {d0 d : Array RkS} {g m : Nat} {os : Array Obj} {w : World} (hg : g < w.heap.size) (h0 : Go.Sort.HoldsK sEnc 4 w g 0 d0) (hs : d.size = d0.size) : Go.Sort.HoldsK sEnc 4 (sortWorldK sEnc 4 w g 0 m d os) g 0 d := by
  unfold sortWorldK
  refine Go.Sort.holdsK_grow sEnc 4 _ os g 0 d ?_ (Go.Sort.holdsK_putRowK sEnc 4 _ g 0 d0 d h0 hs)
  unfold Go.Sort.putRowK
  simpa [Go.Sort.ahead] using hg
theorem sortRk_some (l : List RkS) (g cap n base : Nat) (e : TypeId) (w : World) (hn : l.length = n) (h12 : n ≤ 12) (ho : w.ownsRow base e 4 (.slice (some ⟨g, 0, none⟩) n cap) n (ecells sEnc l)) :
    Calls Try.prog 92 #[.slice (some ⟨g, 0, none⟩) n cap, .func (.func 93) #[] #[]] w fun e w' => e = .returned (.tuple #[]) ∧
      ∃ S : List RkS, S.Perm l ∧ (∀ (i j : Nat) (x y : RkS), i < j → S[i]? = some x → S[j]? = some y → rkL y.1 x.1 = false) ∧ Below base w w' ∧ ER sEnc 4 w' (some ⟨g, 0, none⟩) n S := by
  obtain ⟨hH, hg, hb⟩ := holds_of_owns hn ho
  have hsz : l.toArray.size = n := by simpa using hn
  have hc := AnyQ.slices_SortFunc_small_sorted sortRank 4 aggRk sizeRk sEnc sEnc_len sEnc_one sC 93 #[] sSWO g 0 cap l.toArray w eg_rk (cmpLays_rk g 0 _ w) hH hg (by omega) hlen_rk
  rw [hsz] at hc
  refine hc.mono ?_
  rintro e' w' ⟨he, d', m, os, hp, hs, rfl⟩
  have hds : d'.size = n := hp.1.trans hsz
  refine ⟨he, d'.toList, ?_, fun i j x y hij hx hy => ?_, below_sort d' g m base os w hb hg, er_of_holds hds h12 ?_ (holds_grown hg hH (by rw [hds, hsz]))⟩
  · have h2 := hp.2.2
    rw [show d'.extract 0 n = d' by rw [← hds]; simp, show l.toArray.extract 0 n = l.toArray by rw [← hsz]; simp] at h2
    simpa using h2
  · obtain ⟨h1, rfl⟩ := List.getElem?_eq_some_iff.1 hx
    obtain ⟨h2, rfl⟩ := List.getElem?_eq_some_iff.1 hy
    have h3 : i < d'.size := by simpa using h1
    have h4 : j < d'.size := by simpa using h2
    have h5 := hs i j (Nat.zero_le _) hij (by omega)
    rw [getElem!_pos d' i h3, getElem!_pos d' j h4, sL_eq] at h5
    simpa using h5
  · have := (below_sort d' g m base os w hb hg).size
    omega
theorem insRk_none (p : Option Addr) (cap : Nat) (fv : Value) (w : World) :
    Calls Try.prog 158 #[.slice p 0 cap, .int .i64 0, .int .i64 0, fv] w fun e w' => e = .returned (.tuple #[]) ∧ w' = w := by
  go_enter Try.func158, Try.ntmps158
  go_wp2
  refine wp_loop_rounds 1 ?_
  rw [rounds_succ]
  go_wp2
  go_end0
  exact ⟨rfl, rfl⟩
theorem pdqRk_none (p : Option Addr) (cap : Nat) (lim : Int) (fv : Value) (w : World) :
    Calls Try.prog 133 #[.slice p 0 cap, .int .i64 0, .int .i64 0, .int .i64 lim, fv] w fun e w' => e = .returned (.tuple #[]) ∧ w' = w := by
  go_enter Try.func133, Try.ntmps133
  go_wp2
  refine wp_loop_rounds 1 ?_
  rw [rounds_succ]
  go_wp2_with (go_at_call 158; refine (insRk_none _ _ _ _).mono ?_; rintro e w' ⟨rfl, rfl⟩)
  (try simp only [Exit.inBlock, Exit.then]); refine bodyPost_ret (results_none rfl _ _ _) rfl ?_
  exact ⟨rfl, rfl⟩
theorem sortRk_none (a : Option Addr) (c : Nat) (f : FuncId) (w : World) :
    Calls Try.prog 92 #[.slice a 0 c, .func (.func f) #[] #[]] w fun e w' => e = .returned (.tuple #[]) ∧ w' = w := by
  have HL := Lib.hid (fun W => hlen_rk 0 W (by omega))
  go_enter Try.func92, Try.ntmps92
  go_wp2_with (first | (go_at_call 134; refine (HL.out _).mono ?_; rintro e w' ⟨⟨x, rfl⟩, rfl⟩) | (go_at_call 133; refine (pdqRk_none _ _ _ _ _).mono ?_; rintro e w' ⟨rfl, rfl⟩))
  go_end0
  exact ⟨rfl, rfl⟩
end Go.Proofs.Ytbjgklifmillgaa
