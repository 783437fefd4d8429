import Derived.Test.YtdjinmieogpgcaaGreatMTCnt
import Derived.Test.YtdjinmieogpgcaaGreatTFai
/- A state of an invariant: the program. -/
namespace Go.Proofs.YtdjinmieogpgcaaGreat
open Go.RowKit Go.Shelf
set_option linter.unusedVariables false
set_option linter.unusedSimpArgs false
attribute [local go_sem] Oper.semAt_some
theorem t_first2b (e1 e2 : Int) (w : World) (t B : Nat) (h : BlkR w B (.cells #[.int .i64 e1, .int .i64 e2] t)) :
    Calls Tryz.prog 60 #[.slice (some ⟨B, 0, none⟩) 2 2] w fun e' w' => e' = .returned (.int .i64 (firstErr [e1, e2])) ∧ w = w' := by
 refine t_first_any [e1, e2] 2 2 B 0 _ (by omega) rfl (fun i hi => ?_)
 match i, hi with
 | 0, _ => exact blk_cell h (i := 0) rfl
 | 1, _ => exact blk_cell h (i := 1) rfl
structure KepO (w : World) (X3 X4 X6 X7 X8 : Nat) (o3 o4 : Obj) (s : Nat) (e : Int) (B : World) : Prop where
 k3 : BlkR B X3 o3
 k4 : BlkR B X4 o4
 k6 : BlkR B X6 (.cells #[.int .i64 0] 31)
 k7 : BlkR B X7 (.cells #[.int .i64 e] 31)
 k8 : BlkR B X8 (.cells #[.int .i64 (s : Int)] 117)
 bw : Below w.heap.size w B
theorem KepO.below {w A B : World} {X3 X4 X6 X7 X8 : Nat} {o3 o4 : Obj} {s : Nat} {e : Int} (h : KepO w X3 X4 X6 X7 X8 o3 o4 s e A) (hb : Below A.heap.size A B) : KepO w X3 X4 X6 X7 X8 o3 o4 s e B :=
 ⟨h.k3.below hb, h.k4.below hb, h.k6.below hb, h.k7.below hb, h.k8.below hb, h.bw.trans (hb.mono h.bw.size)⟩
theorem KepO.put {w A : World} {X3 X4 X6 X7 X8 l : Nat} {o3 o4 : Obj} {s : Nat} {e : Int} {r r' : Loop} (h : KepO w X3 X4 X6 X7 X8 o3 o4 s e A) (hl : A.heap[l]? = some (.loop r)) (hw : w.heap.size ≤ l) (h3 : X3 ≠ l) (h4 : X4 ≠ l) : KepO w X3 X4 X6 X7 X8 o3 o4 s e (A.putObj l (.loop r')) :=
 ⟨(World.putObj_heap_other h3).trans h.k3, (World.putObj_heap_other h4).trans h.k4, h.k6.put hl, h.k7.put hl, h.k8.put hl, h.bw.trans (belowK_b (w := w) (Nat.le_refl _) A l _ _ hw hl rfl rfl)⟩
theorem KepO.set {w A : World} {X3 X4 X6 X7 X8 : Nat} {o3 o4 : Obj} {s : Nat} {e : Int} (h : KepO w X3 X4 X6 X7 X8 o3 o4 s e A) (hw : w.heap.size ≤ X7) (h3 : X3 ≠ X7) (h4 : X4 ≠ X7) (h6 : X6 ≠ X7) (h8 : X8 ≠ X7) (v : Int) : KepO w X3 X4 X6 X7 X8 o3 o4 s v (A.setCell ⟨X7, 0, none⟩ (.int .i64 v)) :=
 ⟨(heap_set_neI h3).trans h.k3, (heap_set_neI h4).trans h.k4, (heap_set_neI h6).trans h.k6, blk_set h.k7 0 _, (heap_set_neI h8).trans h.k8, h.bw.setCell hw _⟩
theorem fe_all0 : ∀ l : List Int, (∀ x ∈ l, x = 0) → firstErr l = 0
 | [], _ => rfl
 | x :: r, h => firstErr_cons.2 ⟨h x (by simp), fe_all0 r (fun y hy => h y (by simp [hy]))⟩
theorem fe_app : ∀ (a b : List Int), firstErr a = 0 → firstErr (a ++ b) = firstErr b
 | [], b, _ => rfl
 | x :: r, b, h => by
  obtain ⟨rfl, h2⟩ := firstErr_cons.1 h
  show (if (0 : Int) = 0 then _ else _) = _
  rw [if_pos rfl]
  exact fe_app r b h2
theorem fe_hit {m : Mac} {s i : Nat} {f : Nat → Int} (hi : mayB m s i = true) (hL : ∀ c ∈ movU m s i, f c = 0) (hp : f i ≠ 0) : ∀ n, i < n → firstErr ((movU m s n).map f) = f i
 | n + 1, hn => by
  rcases Nat.lt_or_ge i n with h | h
  ·have ih := fe_hit hi hL hp n h
   have hne : ∀ (a b : List Int), firstErr a ≠ 0 → firstErr (a ++ b) = firstErr a := by
    intro a
    induction a with
    | nil => intro b h; exact absurd rfl h
    | cons x r ihr =>
     intro b h
     show (if x = 0 then firstErr (r ++ b) else x) = (if x = 0 then firstErr r else x)
     by_cases hx : x = 0
     ·rw [if_pos hx, if_pos hx]
      exact ihr b (by have : firstErr (x :: r) = firstErr r := by show (if x = 0 then _ else x) = _; rw [if_pos hx]
                      rw [this] at h; exact h)
     ·rw [if_neg hx, if_neg hx]
   cases hm : mayB m s n
   ·rw [movU_no hm]; exact ih
   ·rw [movU_yes hm, List.map_append, hne _ _ (by rw [ih]; exact hp)]; exact ih
  ·obtain rfl : i = n := by omega
   rw [movU_yes hi, List.map_append, fe_app _ _ (fe_all0 _ (fun x hx => by obtain ⟨c, hc, rfl⟩ := List.mem_map.1 hx; exact hL c hc))]
   show (if f i = 0 then _ else f i) = _
   rw [if_neg hp]
set_option maxHeartbeats 40000000 in
set_option maxRecDepth 100000 in
theorem keeps_any (m : Mac) (l : Lim) (L : List Int) (i : Nat) (ac ab ag : Option Addr) (n cc nb cb ng cg : Nat) (w : World) (hm : MacV m) (hl : limE l = 0) (hb : BrR w ab nb m.br) (hg : GrR w ag ng m.gs) (hc : IntsR w ac n L) (hi : i < n) (hn : n ≤ 100) :
    Calls Tryz.prog 52 #[.agg #[.slice ab nb cb, .int .i64 m.st, .slice ag ng cg, .int .i64 l.volt, .int .i64 l.lo, .int .i64 l.hi, .int .i64 l.circ, .int .i64 l.brk, .int .i64 l.ret], .slice ac n cc, .int .i64 (i : Int)] w fun e' w' => e' = .returned (.int .i64 (kepE m l L i)) ∧ Below w.heap.size w w' := by
 have i0 : (0 : Int) ≤ (i : Int) := by omega
 have i1 : (i : Int) < (n : Int) := by omega
 have hlen := hb.len
 have hn6 : nb ≤ 6 := by rw [← hlen]; exact hm.n1
 have hLn := hc.len
 obtain ⟨S, hS⟩ : ∃ S, S = L.getD i 0 := ⟨_, rfl⟩
 obtain ⟨E1, hE1⟩ : ∃ E, E = staE m.br.length S := ⟨_, rfl⟩
 obtain ⟨PB, hPB⟩ : ∃ B, B = kepB L i := ⟨_, rfl⟩
 have HSE := Lib.hid (fun (W : World) => show Calls Tryz.prog 61 #[.agg #[.slice ab nb cb, .int .i64 m.st, .slice ag ng cg], .int .i64 S] W fun e' w' => e' = .returned (.int .i64 E1) ∧ Below W.heap.size W w' from by rw [hE1, hlen]; exact m_staE_any _ _ _ _ _ _ _ _ _ (by omega))
 have hE : kepE m l L i = if firstErr [E1, unl PB 9] ≠ 0 then firstErr [E1, unl PB 9] else if safE m l S.toNat ≠ 0 then safE m l S.toNat else kmsE m l L S.toNat (movL m S.toNat) := by
  unfold kepE kepF
  rw [← hS, ← hE1, ← hPB]
 obtain ⟨RES, hRES⟩ : ∃ R, R = kepE m l L i := ⟨_, rfl⟩
 rw [← hRES] at hE ⊢
 have HRES := Lib.hid hE
 have HSF := Lib.hid (fun (s : Nat) (W : World) (hs : s < 2 ^ nb) (hbw : Below w.heap.size w W) => safe_any m l s ab ag nb cb ng cg W hm hl (hb.below hbw) hs)
 have HCG := Lib.hid (fun (s i : Nat) (W : World) (hs : s < 2 ^ nb) (hi : i < nb) (h1 : BrR W ab nb m.br) (h2 : GrR W ag ng m.gs) => change_any m l s i ab ag nb cb ng cg W hm hl h1 h2 hs hi)
 have HMV := Lib.hid (fun (s : Nat) (W : World) (h : GrR W ag ng m.gs) => moves_any2 m s ab ag nb cb ng cg W h)
 have HC := Lib.hid hc
 have HBG := Lib.hid (And.intro hb hg)
 have HM := Lib.hid (And.intro hm hlen)
 have HS := Lib.hid hS
 have HPB := Lib.hid hPB
 have HE1 := Lib.hid hE1
 obtain ⟨st, hst⟩ : ∃ x, x = m.st := ⟨_, rfl⟩
 have HST := Lib.hid hst.symm
 rw [← hst] at HSE HSF HCG HMV ⊢
 obtain ⟨vo, lo, hi', ci, br, re⟩ := l
 simp only at HSF HCG HRES ⊢
 clear hm hl hb hg hc hlen hst hE hRES hS hPB hE1
 refine (callsIn_wide (n := 3)).1 ?_
 refine callsIn_of_wp_marks Tryz.func52 rfl trivial ?_ rfl
 simp only [Tryz.ntmps52, List.size_toArray, List.length_cons, List.length_nil, Nat.reduceAdd, Nat.reduceSub, Array.replicate_succ, Array.replicate_zero, List.push_toArray, List.append_toArray, List.nil_append, List.cons_append]
 refine (wpIn_wide (n := 3)).2 ?_
 go_wp2_with fail
 obtain ⟨w2, hW2⟩ : ∃ w2, w2 = ((w.alloc (Obj.cells #[.slice ab nb cb, .int .i64 st, .slice ag ng cg, .int .i64 vo, .int .i64 lo, .int .i64 hi', .int .i64 ci, .int .i64 br, .int .i64 re] 100)).alloc (Obj.cells #[.slice ac n cc] 48)).alloc (Obj.cells #[.int .i64 0] 31) := ⟨_, rfl⟩
 rw [← hW2]
 obtain ⟨hb2, k3, k4, k6⟩ := alA3 w (Obj.cells #[.slice ab nb cb, .int .i64 st, .slice ag ng cg, .int .i64 vo, .int .i64 lo, .int .i64 hi', .int .i64 ci, .int .i64 br, .int .i64 re] 100) (Obj.cells #[.slice ac n cc] 48) (Obj.cells #[.int .i64 0] 31)
 rw [← hW2] at hb2 k3 k4 k6
 obtain ⟨X3, hX3⟩ : ∃ X, X = w.heap.size := ⟨_, rfl⟩
 obtain ⟨X4, hX4⟩ : ∃ X, X = w.heap.size + 1 := ⟨_, rfl⟩
 obtain ⟨X6, hX6⟩ : ∃ X, X = w.heap.size + 1 + 1 := ⟨_, rfl⟩
 rw [← hX3] at k3
 rw [← hX4] at k4
 rw [← hX6] at k6
 simp only [← hX6]
 simp only [← hX4]
 simp only [← hX3]
 have x34 : X3 < X4 := by omega
 have x46 : X4 < X6 := by omega
 have hw3 : w.heap.size ≤ X3 := by omega
 have hw4 : w.heap.size ≤ X4 := by omega
 have hw6 : w.heap.size ≤ X6 := by omega
 have K3 := Lib.hid k3
 have K4 := Lib.hid k4
 have K6 := Lib.hid k6
 have X6lt := Lib.hid k6.lt
 have HB2 := Lib.hid hb2
 have HC2 := Lib.hid (HC.out.below hb2)
 obtain ⟨c3, c3_1, c3_2, c3_3, c3_4, c3_5, c3_6, c3_7, c3_8, _⟩ := blkc9 k3
 have c4 := blk_cell k4 (i := 0) rfl
 have l3 := k3.lt
 have l4 := k4.lt
 obtain ⟨bc, oc, rfl, hbc, hcc⟩ := SlR.addr HC2.out (by omega)
 have hci : w2.cell? ⟨bc, oc + i, none⟩ = some (.int .i64 S) := hcc i (.int .i64 S) (by rw [HS.out, icells_get (by rw [hLn]; exact hi)])
 clear hW2 hX3 hX4 hX6 k3 k4 k6 hb2
 go_cut [7] from 10 to 35 (fun v7 wx => ∃ X7 : Nat, v7 = .pointer (some ⟨X7, 0, none⟩) ∧ Hid (BlkR wx X7 (.cells #[.int .i64 (firstErr [E1, unl PB 9])] 31)) ∧ Hid (w2.heap.size ≤ X7) ∧ Hid (Below w2.heap.size w2 wx))
 case first =>
  by_cases hi0 : i = 0
  ·have q0 : ((i : Int) == 0) = true := by simp [hi0]
   have hPT : PB = true := by rw [HPB.out]; unfold kepB; simp [hi0]
   subst hPT
   clear hcc hi0
   have HN := Lib.hid (Below.refl w2.heap.size w2).drew
   refine wp_region_laterT (B := w2.heap.size) (.head 0 (.head 1 (.head 2 (.head 3 (.head 4 (.head 5 (.head 7 (.head 8 (.two 6 (.head 9 (.head 10 (.head 11 (.head 12 (.head 13 (.head 14 (.head 15 (.head 16 (.two 17 (.head 18 (.head 19 (.head 20 (.head 21 (.two 22 (.two 23 (.two 24 (.one 25 (.one 26 .done)) 25 (.one 24 (.one 26 .done))) 25 (.one 23 (.one 24 (.one 26 .done)))) 25 (.one 22 (.one 23 (.one 24 (.one 26 .done))))))))) 25 (.one 17 (.head 18 (.head 19 (.head 20 (.head 21 (.one 22 (.one 23 (.one 24 (.one 26 .done)))))))))))))))))) 25 (.one 6 (.head 9 (.head 10 (.head 11 (.head 12 (.head 13 (.head 14 (.head 15 (.head 16 (.one 17 (.head 18 (.head 19 (.head 20 (.head 21 (.one 22 (.one 23 (.one 24 (.one 26 .done))))))))))))))))))))))))))) (by kernel_rfl) (by kernel_rfl) ?_
   repeat (refine tree_head rfl ?_; (show wpQuiet _ _ _ _ (_ :: _) _; go_big_quiet_step (fail)); refine wpQuiet_nil ?_)
   refine tree_two rfl rfl ?_ ?_
   ·go_wp2_with fail
    refine (HSE.out _).mono ?_
    rintro e11 wx1 ⟨rfl, hbx⟩
    have hzx := hbx.size
    have HN := bwt HN hbx
    clear hbx
    go_wp2_with fail
    refine tailL_mk HN.out ?_
    repeat (refine tree_head rfl ?_; (show wpQuiet _ _ _ _ (_ :: _) _; go_big_quiet_step (fail)); refine wpQuiet_nil ?_)
    refine tree_two rfl rfl ?_ ?_
    ·go_wp2_with fail
     refine tailL_mk HN.out ?_
     repeat (refine tree_head rfl ?_; (show wpQuiet _ _ _ _ (_ :: _) _; go_big_quiet_step (fail)); refine wpQuiet_nil ?_)
     refine tree_two rfl rfl ?_ ?_
     ·go_wp2_with fail
      refine (t_unless_any _ _ _).mono ?_
      rintro e11 w11 ⟨rfl, rfl⟩
      go_wp2_with fail
      refine tailL_mk HN.out ?_
      refine tree_two rfl rfl ?_ ?_
      ·go_wp2_with fail
       obtain ⟨XL, hXL⟩ : ∃ X, X = wx1.heap.size := ⟨_, rfl⟩
       have hxl : (wx1.alloc (Obj.cells #[.int .i64 E1, .int .i64 (unl true 9)] 31)).heap[XL]? = some (.cells #[.int .i64 E1, .int .i64 (unl true 9)] 31) := by rw [hXL]; exact heap_alloc_new _ _
       have hbx : Below wx1.heap.size wx1 (wx1.alloc (Obj.cells #[.int .i64 E1, .int .i64 (unl true 9)] 31)) := by (first|exact bwg|go_size)
       try simp only [← hXL]
       generalize (wx1.alloc (Obj.cells #[.int .i64 E1, .int .i64 (unl true 9)] 31)) = wx4 at *
       have HN := bwt HN hbx
       have HT23 := Lib.hid (show BlkR wx4 XL _ from hxl)
       clear hbx hXL hxl
       refine tailL_mk HN.out ?_
       refine tree_two rfl rfl ?_ ?_
       ·go_wp2_with fail
        refine (t_first2b _ _ _ _ _ HT23.out).mono ?_
        rintro e12 w12 ⟨rfl, rfl⟩
        go_wp2_with fail
        refine tailL_mk HN.out ?_
        refine tree_one rfl ?_
        go_wp2_with fail
        obtain ⟨X9, hX9, hNX, hx9, l9, hs9, hbx⟩ := xal HN.out (Obj.cells #[.int .i64 0] 31)
        try simp only [← hX9]
        generalize (wx4.alloc (Obj.cells #[.int .i64 0] 31)) = wx6 at *
        have HX9 := Lib.hid (And.intro hX9 hs9)
        have HN := bwt HN hbx
        have HT23 := Lib.hid (HT23.out.below hbx)
        clear hbx hX9 hs9
        refine tailL_mk HN.out ?_
        refine tree_one rfl ?_
        obtain ⟨c90, f90⟩ := xcf1 hx9
        go_wp2_with fail
        have hq9 := xst1 HN.out hNX hx9 (.int .i64 (firstErr [E1, unl true 9]))
        have HN := Lib.hid hq9.1
        have hxo := hx9
        have hx9 := hq9.2
        clear hq9
        refine tailL_mk HN.out ?_
        refine tree_done ?_
        go_wp2_with fail
        go_meet
        case rel => exact ⟨X9, rfl, Lib.hid hx9, Lib.hid hNX, HN⟩
       ·go_wp2_with fail
        obtain ⟨X9, hX9, hNX, hx9, l9, hs9, hbx⟩ := xal HN.out (Obj.cells #[.int .i64 0] 31)
        try simp only [← hX9]
        generalize (wx4.alloc (Obj.cells #[.int .i64 0] 31)) = wx8 at *
        have HX9 := Lib.hid (And.intro hX9 hs9)
        have HN := bwt HN hbx
        have HT23 := Lib.hid (HT23.out.below hbx)
        clear hbx hX9 hs9
        refine tailL_mk HN.out ?_
        refine tree_one rfl ?_
        go_wp2_with fail
        refine (t_first2b _ _ _ _ _ HT23.out).mono ?_
        rintro e12 w12 ⟨rfl, rfl⟩
        go_wp2_with fail
        refine tailL_mk HN.out ?_
        refine tree_one rfl ?_
        obtain ⟨c90, f90⟩ := xcf1 hx9
        go_wp2_with fail
        have hq9 := xst1 HN.out hNX hx9 (.int .i64 (firstErr [E1, unl true 9]))
        have HN := Lib.hid hq9.1
        have hxo := hx9
        have hx9 := hq9.2
        clear hq9
        refine tailL_mk HN.out ?_
        refine tree_done ?_
        go_wp2_with fail
        go_meet
        case rel => exact ⟨X9, rfl, Lib.hid hx9, Lib.hid hNX, HN⟩
      ·go_wp2_with fail
       obtain ⟨X9, hX9, hNX, hx9, l9, hs9, hbx⟩ := xal HN.out (Obj.cells #[.int .i64 0] 31)
       try simp only [← hX9]
       generalize (wx1.alloc (Obj.cells #[.int .i64 0] 31)) = wx11 at *
       have HX9 := Lib.hid (And.intro hX9 hs9)
       have HN := bwt HN hbx
       clear hbx hX9 hs9
       refine tailL_mk HN.out ?_
       refine tree_one rfl ?_
       go_wp2_with fail
       obtain ⟨XL, hXL⟩ : ∃ X, X = wx11.heap.size := ⟨_, rfl⟩
       have hxl : (wx11.alloc (Obj.cells #[.int .i64 E1, .int .i64 (unl true 9)] 31)).heap[XL]? = some (.cells #[.int .i64 E1, .int .i64 (unl true 9)] 31) := by rw [hXL]; exact heap_alloc_new _ _
       have hbx : Below wx11.heap.size wx11 (wx11.alloc (Obj.cells #[.int .i64 E1, .int .i64 (unl true 9)] 31)) := by (first|exact bwg|go_size)
       try simp only [← hXL]
       generalize (wx11.alloc (Obj.cells #[.int .i64 E1, .int .i64 (unl true 9)] 31)) = wx12 at *
       have HN := bwt HN hbx
       have hx9 := (hbx.block X9 l9).trans hx9
       have l9 := Nat.lt_of_lt_of_le l9 hbx.size
       have HT23 := Lib.hid (show BlkR wx12 XL _ from hxl)
       clear hbx hXL hxl
       refine tailL_mk HN.out ?_
       refine tree_one rfl ?_
       go_wp2_with fail
       refine (t_first2b _ _ _ _ _ HT23.out).mono ?_
       rintro e12 w12 ⟨rfl, rfl⟩
       go_wp2_with fail
       refine tailL_mk HN.out ?_
       refine tree_one rfl ?_
       obtain ⟨c90, f90⟩ := xcf1 hx9
       go_wp2_with fail
       have hq9 := xst1 HN.out hNX hx9 (.int .i64 (firstErr [E1, unl true 9]))
       have HN := Lib.hid hq9.1
       have hxo := hx9
       have hx9 := hq9.2
       clear hq9
       refine tailL_mk HN.out ?_
       refine tree_done ?_
       go_wp2_with fail
       go_meet
       case rel => exact ⟨X9, rfl, Lib.hid hx9, Lib.hid hNX, HN⟩
     ·go_wp2_with fail
      obtain ⟨X9, hX9, hNX, hx9, l9, hs9, hbx⟩ := xal HN.out (Obj.cells #[.int .i64 0] 31)
      try simp only [← hX9]
      generalize (wx1.alloc (Obj.cells #[.int .i64 0] 31)) = wx15 at *
      have HX9 := Lib.hid (And.intro hX9 hs9)
      have HN := bwt HN hbx
      clear hbx hX9 hs9
      refine tailL_mk HN.out ?_
      refine tree_one rfl ?_
      go_wp2_with fail
      refine (t_unless_any _ _ _).mono ?_
      rintro e11 w11 ⟨rfl, rfl⟩
      go_wp2_with fail
      refine tailL_mk HN.out ?_
      refine tree_one rfl ?_
      go_wp2_with fail
      obtain ⟨XL, hXL⟩ : ∃ X, X = wx15.heap.size := ⟨_, rfl⟩
      have hxl : (wx15.alloc (Obj.cells #[.int .i64 E1, .int .i64 (unl true 9)] 31)).heap[XL]? = some (.cells #[.int .i64 E1, .int .i64 (unl true 9)] 31) := by rw [hXL]; exact heap_alloc_new _ _
      have hbx : Below wx15.heap.size wx15 (wx15.alloc (Obj.cells #[.int .i64 E1, .int .i64 (unl true 9)] 31)) := by (first|exact bwg|go_size)
      try simp only [← hXL]
      generalize (wx15.alloc (Obj.cells #[.int .i64 E1, .int .i64 (unl true 9)] 31)) = wx17 at *
      have HN := bwt HN hbx
      have hx9 := (hbx.block X9 l9).trans hx9
      have l9 := Nat.lt_of_lt_of_le l9 hbx.size
      have HT23 := Lib.hid (show BlkR wx17 XL _ from hxl)
      clear hbx hXL hxl
      refine tailL_mk HN.out ?_
      refine tree_one rfl ?_
      go_wp2_with fail
      refine (t_first2b _ _ _ _ _ HT23.out).mono ?_
      rintro e12 w12 ⟨rfl, rfl⟩
      go_wp2_with fail
      refine tailL_mk HN.out ?_
      refine tree_one rfl ?_
      obtain ⟨c90, f90⟩ := xcf1 hx9
      go_wp2_with fail
      have hq9 := xst1 HN.out hNX hx9 (.int .i64 (firstErr [E1, unl true 9]))
      have HN := Lib.hid hq9.1
      have hxo := hx9
      have hx9 := hq9.2
      clear hq9
      refine tailL_mk HN.out ?_
      refine tree_done ?_
      go_wp2_with fail
      go_meet
      case rel => exact ⟨X9, rfl, Lib.hid hx9, Lib.hid hNX, HN⟩
    ·go_wp2_with fail
     obtain ⟨X9, hX9, hNX, hx9, l9, hs9, hbx⟩ := xal HN.out (Obj.cells #[.int .i64 0] 31)
     try simp only [← hX9]
     generalize (wx1.alloc (Obj.cells #[.int .i64 0] 31)) = wx20 at *
     have HX9 := Lib.hid (And.intro hX9 hs9)
     have HN := bwt HN hbx
     clear hbx hX9 hs9
     refine tailL_mk HN.out ?_
     refine tree_one rfl ?_
     go_wp2_with fail
     refine tailL_mk HN.out ?_
     repeat (refine tree_head rfl ?_; (show wpQuiet _ _ _ _ (_ :: _) _; go_big_quiet_step (fail)); refine wpQuiet_nil ?_)
     refine tree_one rfl ?_
     go_wp2_with fail
     refine (t_unless_any _ _ _).mono ?_
     rintro e11 w11 ⟨rfl, rfl⟩
     go_wp2_with fail
     refine tailL_mk HN.out ?_
     refine tree_one rfl ?_
     go_wp2_with fail
     obtain ⟨XL, hXL⟩ : ∃ X, X = wx20.heap.size := ⟨_, rfl⟩
     have hxl : (wx20.alloc (Obj.cells #[.int .i64 E1, .int .i64 (unl true 9)] 31)).heap[XL]? = some (.cells #[.int .i64 E1, .int .i64 (unl true 9)] 31) := by rw [hXL]; exact heap_alloc_new _ _
     have hbx : Below wx20.heap.size wx20 (wx20.alloc (Obj.cells #[.int .i64 E1, .int .i64 (unl true 9)] 31)) := by (first|exact bwg|go_size)
     try simp only [← hXL]
     generalize (wx20.alloc (Obj.cells #[.int .i64 E1, .int .i64 (unl true 9)] 31)) = wx23 at *
     have HN := bwt HN hbx
     have hx9 := (hbx.block X9 l9).trans hx9
     have l9 := Nat.lt_of_lt_of_le l9 hbx.size
     have HT23 := Lib.hid (show BlkR wx23 XL _ from hxl)
     clear hbx hXL hxl
     refine tailL_mk HN.out ?_
     refine tree_one rfl ?_
     go_wp2_with fail
     refine (t_first2b _ _ _ _ _ HT23.out).mono ?_
     rintro e12 w12 ⟨rfl, rfl⟩
     go_wp2_with fail
     refine tailL_mk HN.out ?_
     refine tree_one rfl ?_
     obtain ⟨c90, f90⟩ := xcf1 hx9
     go_wp2_with fail
     have hq9 := xst1 HN.out hNX hx9 (.int .i64 (firstErr [E1, unl true 9]))
     have HN := Lib.hid hq9.1
     have hxo := hx9
     have hx9 := hq9.2
     clear hq9
     refine tailL_mk HN.out ?_
     refine tree_done ?_
     go_wp2_with fail
     go_meet
     case rel => exact ⟨X9, rfl, Lib.hid hx9, Lib.hid hNX, HN⟩
   ·go_wp2_with fail
    obtain ⟨X9, hX9, hNX, hx9, l9, hs9, hbx, hbd⟩ := xald HN.out (Obj.cells #[.int .i64 0] 31)
    try simp only [← hX9]
    generalize (w2.alloc (Obj.cells #[.int .i64 0] 31)).drew = wx26 at *
    have HX9 := Lib.hid (And.intro hX9 hs9)
    have HN := Lib.hid hbx
    clear hbx hX9 hs9 hbd
    refine tailL_mk HN.out ?_
    refine tree_one rfl ?_
    go_wp2_with fail
    refine (HSE.out _).mono ?_
    rintro e11 wx27 ⟨rfl, hbx⟩
    have hzx := hbx.size
    have HN := bwt HN hbx
    have hx9 := (hbx.block X9 l9).trans hx9
    have l9 := Nat.lt_of_lt_of_le l9 hbx.size
    clear hbx
    go_wp2_with fail
    refine tailL_mk HN.out ?_
    repeat (refine tree_head rfl ?_; (show wpQuiet _ _ _ _ (_ :: _) _; go_big_quiet_step (fail)); refine wpQuiet_nil ?_)
    refine tree_one rfl ?_
    go_wp2_with fail
    refine tailL_mk HN.out ?_
    repeat (refine tree_head rfl ?_; (show wpQuiet _ _ _ _ (_ :: _) _; go_big_quiet_step (fail)); refine wpQuiet_nil ?_)
    refine tree_one rfl ?_
    go_wp2_with fail
    refine (t_unless_any _ _ _).mono ?_
    rintro e11 w11 ⟨rfl, rfl⟩
    go_wp2_with fail
    refine tailL_mk HN.out ?_
    refine tree_one rfl ?_
    go_wp2_with fail
    obtain ⟨XL, hXL⟩ : ∃ X, X = wx27.heap.size := ⟨_, rfl⟩
    have hxl : (wx27.alloc (Obj.cells #[.int .i64 E1, .int .i64 (unl true 9)] 31)).heap[XL]? = some (.cells #[.int .i64 E1, .int .i64 (unl true 9)] 31) := by rw [hXL]; exact heap_alloc_new _ _
    have hbx : Below wx27.heap.size wx27 (wx27.alloc (Obj.cells #[.int .i64 E1, .int .i64 (unl true 9)] 31)) := by (first|exact bwg|go_size)
    try simp only [← hXL]
    generalize (wx27.alloc (Obj.cells #[.int .i64 E1, .int .i64 (unl true 9)] 31)) = wx30 at *
    have HN := bwt HN hbx
    have hx9 := (hbx.block X9 l9).trans hx9
    have l9 := Nat.lt_of_lt_of_le l9 hbx.size
    have HT23 := Lib.hid (show BlkR wx30 XL _ from hxl)
    clear hbx hXL hxl
    refine tailL_mk HN.out ?_
    refine tree_one rfl ?_
    go_wp2_with fail
    refine (t_first2b _ _ _ _ _ HT23.out).mono ?_
    rintro e12 w12 ⟨rfl, rfl⟩
    go_wp2_with fail
    refine tailL_mk HN.out ?_
    refine tree_one rfl ?_
    obtain ⟨c90, f90⟩ := xcf1 hx9
    go_wp2_with fail
    have hq9 := xst1 HN.out hNX hx9 (.int .i64 (firstErr [E1, unl true 9]))
    have HN := Lib.hid hq9.1
    have hxo := hx9
    have hx9 := hq9.2
    clear hq9
    refine tailL_mk HN.out ?_
    refine tree_done ?_
    go_wp2_with fail
    go_meet
    case rel => exact ⟨X9, rfl, Lib.hid hx9, Lib.hid hNX, HN⟩
  ·have q0 : ((i : Int) == 0) = false := by simp [hi0]
   obtain ⟨j, hj⟩ : ∃ j, j = i - 1 := ⟨_, rfl⟩
   obtain ⟨T, hT⟩ : ∃ T, T = L.getD j 0 := ⟨_, rfl⟩
   have hcj : w2.cell? ⟨bc, oc + j, none⟩ = some (.int .i64 T) := hcc j (.int .i64 T) (by rw [hT, icells_get (by rw [hLn]; omega)])
   have hPT : PB = decide (T < S) := by rw [HPB.out, hT, HS.out, hj]; unfold kepB; simp [hi0]
   have wj : IntKind.i64.wrap ((i : Int) - 1) = (j : Int) := by rw [IntKind.wrap_i64]; omega
   have j0 : (0 : Int) ≤ (j : Int) := by omega
   have j1 : (j : Int) < (n : Int) := by omega
   subst hPT
   clear hcc hT hj hi0
   have HN := Lib.hid (Below.refl w2.heap.size w2).drew
   refine wp_region_laterT (B := w2.heap.size) (.head 0 (.head 1 (.head 2 (.head 3 (.head 4 (.head 5 (.head 7 (.head 8 (.two 6 (.head 9 (.head 10 (.head 11 (.head 12 (.head 13 (.head 14 (.head 15 (.head 16 (.two 17 (.head 18 (.head 19 (.head 20 (.head 21 (.two 22 (.two 23 (.two 24 (.one 25 (.one 26 .done)) 25 (.one 24 (.one 26 .done))) 25 (.one 23 (.one 24 (.one 26 .done)))) 25 (.one 22 (.one 23 (.one 24 (.one 26 .done))))))))) 25 (.one 17 (.head 18 (.head 19 (.head 20 (.head 21 (.one 22 (.one 23 (.one 24 (.one 26 .done)))))))))))))))))) 25 (.one 6 (.head 9 (.head 10 (.head 11 (.head 12 (.head 13 (.head 14 (.head 15 (.head 16 (.one 17 (.head 18 (.head 19 (.head 20 (.head 21 (.one 22 (.one 23 (.one 24 (.one 26 .done))))))))))))))))))))))))))) (by kernel_rfl) (by kernel_rfl) ?_
   repeat (refine tree_head rfl ?_; (show wpQuiet _ _ _ _ (_ :: _) _; go_big_quiet_step (fail)); refine wpQuiet_nil ?_)
   refine tree_two rfl rfl ?_ ?_
   ·go_wp2_with fail
    refine (HSE.out _).mono ?_
    rintro e11 wx1 ⟨rfl, hbx⟩
    have hzx := hbx.size
    have HN := bwt HN hbx
    clear hbx
    go_wp2_with fail
    refine tailL_mk HN.out ?_
    repeat (refine tree_head rfl ?_; (show wpQuiet _ _ _ _ (_ :: _) _; go_big_quiet_step (fail)); refine wpQuiet_nil ?_)
    refine tree_two rfl rfl ?_ ?_
    ·go_wp2_with fail
     refine tailL_mk HN.out ?_
     repeat (refine tree_head rfl ?_; (show wpQuiet _ _ _ _ (_ :: _) _; go_big_quiet_step (fail)); refine wpQuiet_nil ?_)
     refine tree_two rfl rfl ?_ ?_
     ·go_wp2_with fail
      refine (t_unless_any _ _ _).mono ?_
      rintro e11 w11 ⟨rfl, rfl⟩
      go_wp2_with fail
      refine tailL_mk HN.out ?_
      refine tree_two rfl rfl ?_ ?_
      ·go_wp2_with fail
       obtain ⟨XL, hXL⟩ : ∃ X, X = wx1.heap.size := ⟨_, rfl⟩
       have hxl : (wx1.alloc (Obj.cells #[.int .i64 E1, .int .i64 (unl (decide (T < S)) 9)] 31)).heap[XL]? = some (.cells #[.int .i64 E1, .int .i64 (unl (decide (T < S)) 9)] 31) := by rw [hXL]; exact heap_alloc_new _ _
       have hbx : Below wx1.heap.size wx1 (wx1.alloc (Obj.cells #[.int .i64 E1, .int .i64 (unl (decide (T < S)) 9)] 31)) := by (first|exact bwg|go_size)
       try simp only [← hXL]
       generalize (wx1.alloc (Obj.cells #[.int .i64 E1, .int .i64 (unl (decide (T < S)) 9)] 31)) = wx4 at *
       have HN := bwt HN hbx
       have HT23 := Lib.hid (show BlkR wx4 XL _ from hxl)
       clear hbx hXL hxl
       refine tailL_mk HN.out ?_
       refine tree_two rfl rfl ?_ ?_
       ·go_wp2_with fail
        refine (t_first2b _ _ _ _ _ HT23.out).mono ?_
        rintro e12 w12 ⟨rfl, rfl⟩
        go_wp2_with fail
        refine tailL_mk HN.out ?_
        refine tree_one rfl ?_
        go_wp2_with fail
        obtain ⟨X9, hX9, hNX, hx9, l9, hs9, hbx⟩ := xal HN.out (Obj.cells #[.int .i64 0] 31)
        try simp only [← hX9]
        generalize (wx4.alloc (Obj.cells #[.int .i64 0] 31)) = wx6 at *
        have HX9 := Lib.hid (And.intro hX9 hs9)
        have HN := bwt HN hbx
        have HT23 := Lib.hid (HT23.out.below hbx)
        clear hbx hX9 hs9
        refine tailL_mk HN.out ?_
        refine tree_one rfl ?_
        obtain ⟨c90, f90⟩ := xcf1 hx9
        go_wp2_with fail
        have hq9 := xst1 HN.out hNX hx9 (.int .i64 (firstErr [E1, unl (decide (T < S)) 9]))
        have HN := Lib.hid hq9.1
        have hxo := hx9
        have hx9 := hq9.2
        clear hq9
        refine tailL_mk HN.out ?_
        refine tree_done ?_
        go_wp2_with fail
        go_meet
        case rel => exact ⟨X9, rfl, Lib.hid hx9, Lib.hid hNX, HN⟩
       ·go_wp2_with fail
        obtain ⟨X9, hX9, hNX, hx9, l9, hs9, hbx⟩ := xal HN.out (Obj.cells #[.int .i64 0] 31)
        try simp only [← hX9]
        generalize (wx4.alloc (Obj.cells #[.int .i64 0] 31)) = wx8 at *
        have HX9 := Lib.hid (And.intro hX9 hs9)
        have HN := bwt HN hbx
        have HT23 := Lib.hid (HT23.out.below hbx)
        clear hbx hX9 hs9
        refine tailL_mk HN.out ?_
        refine tree_one rfl ?_
        go_wp2_with fail
        refine (t_first2b _ _ _ _ _ HT23.out).mono ?_
        rintro e12 w12 ⟨rfl, rfl⟩
        go_wp2_with fail
        refine tailL_mk HN.out ?_
        refine tree_one rfl ?_
        obtain ⟨c90, f90⟩ := xcf1 hx9
        go_wp2_with fail
        have hq9 := xst1 HN.out hNX hx9 (.int .i64 (firstErr [E1, unl (decide (T < S)) 9]))
        have HN := Lib.hid hq9.1
        have hxo := hx9
        have hx9 := hq9.2
        clear hq9
        refine tailL_mk HN.out ?_
        refine tree_done ?_
        go_wp2_with fail
        go_meet
        case rel => exact ⟨X9, rfl, Lib.hid hx9, Lib.hid hNX, HN⟩
      ·go_wp2_with fail
       obtain ⟨X9, hX9, hNX, hx9, l9, hs9, hbx⟩ := xal HN.out (Obj.cells #[.int .i64 0] 31)
       try simp only [← hX9]
       generalize (wx1.alloc (Obj.cells #[.int .i64 0] 31)) = wx11 at *
       have HX9 := Lib.hid (And.intro hX9 hs9)
       have HN := bwt HN hbx
       clear hbx hX9 hs9
       refine tailL_mk HN.out ?_
       refine tree_one rfl ?_
       go_wp2_with fail
       obtain ⟨XL, hXL⟩ : ∃ X, X = wx11.heap.size := ⟨_, rfl⟩
       have hxl : (wx11.alloc (Obj.cells #[.int .i64 E1, .int .i64 (unl (decide (T < S)) 9)] 31)).heap[XL]? = some (.cells #[.int .i64 E1, .int .i64 (unl (decide (T < S)) 9)] 31) := by rw [hXL]; exact heap_alloc_new _ _
       have hbx : Below wx11.heap.size wx11 (wx11.alloc (Obj.cells #[.int .i64 E1, .int .i64 (unl (decide (T < S)) 9)] 31)) := by (first|exact bwg|go_size)
       try simp only [← hXL]
       generalize (wx11.alloc (Obj.cells #[.int .i64 E1, .int .i64 (unl (decide (T < S)) 9)] 31)) = wx12 at *
       have HN := bwt HN hbx
       have hx9 := (hbx.block X9 l9).trans hx9
       have l9 := Nat.lt_of_lt_of_le l9 hbx.size
       have HT23 := Lib.hid (show BlkR wx12 XL _ from hxl)
       clear hbx hXL hxl
       refine tailL_mk HN.out ?_
       refine tree_one rfl ?_
       go_wp2_with fail
       refine (t_first2b _ _ _ _ _ HT23.out).mono ?_
       rintro e12 w12 ⟨rfl, rfl⟩
       go_wp2_with fail
       refine tailL_mk HN.out ?_
       refine tree_one rfl ?_
       obtain ⟨c90, f90⟩ := xcf1 hx9
       go_wp2_with fail
       have hq9 := xst1 HN.out hNX hx9 (.int .i64 (firstErr [E1, unl (decide (T < S)) 9]))
       have HN := Lib.hid hq9.1
       have hxo := hx9
       have hx9 := hq9.2
       clear hq9
       refine tailL_mk HN.out ?_
       refine tree_done ?_
       go_wp2_with fail
       go_meet
       case rel => exact ⟨X9, rfl, Lib.hid hx9, Lib.hid hNX, HN⟩
     ·go_wp2_with fail
      obtain ⟨X9, hX9, hNX, hx9, l9, hs9, hbx⟩ := xal HN.out (Obj.cells #[.int .i64 0] 31)
      try simp only [← hX9]
      generalize (wx1.alloc (Obj.cells #[.int .i64 0] 31)) = wx15 at *
      have HX9 := Lib.hid (And.intro hX9 hs9)
      have HN := bwt HN hbx
      clear hbx hX9 hs9
      refine tailL_mk HN.out ?_
      refine tree_one rfl ?_
      go_wp2_with fail
      refine (t_unless_any _ _ _).mono ?_
      rintro e11 w11 ⟨rfl, rfl⟩
      go_wp2_with fail
      refine tailL_mk HN.out ?_
      refine tree_one rfl ?_
      go_wp2_with fail
      obtain ⟨XL, hXL⟩ : ∃ X, X = wx15.heap.size := ⟨_, rfl⟩
      have hxl : (wx15.alloc (Obj.cells #[.int .i64 E1, .int .i64 (unl (decide (T < S)) 9)] 31)).heap[XL]? = some (.cells #[.int .i64 E1, .int .i64 (unl (decide (T < S)) 9)] 31) := by rw [hXL]; exact heap_alloc_new _ _
      have hbx : Below wx15.heap.size wx15 (wx15.alloc (Obj.cells #[.int .i64 E1, .int .i64 (unl (decide (T < S)) 9)] 31)) := by (first|exact bwg|go_size)
      try simp only [← hXL]
      generalize (wx15.alloc (Obj.cells #[.int .i64 E1, .int .i64 (unl (decide (T < S)) 9)] 31)) = wx17 at *
      have HN := bwt HN hbx
      have hx9 := (hbx.block X9 l9).trans hx9
      have l9 := Nat.lt_of_lt_of_le l9 hbx.size
      have HT23 := Lib.hid (show BlkR wx17 XL _ from hxl)
      clear hbx hXL hxl
      refine tailL_mk HN.out ?_
      refine tree_one rfl ?_
      go_wp2_with fail
      refine (t_first2b _ _ _ _ _ HT23.out).mono ?_
      rintro e12 w12 ⟨rfl, rfl⟩
      go_wp2_with fail
      refine tailL_mk HN.out ?_
      refine tree_one rfl ?_
      obtain ⟨c90, f90⟩ := xcf1 hx9
      go_wp2_with fail
      have hq9 := xst1 HN.out hNX hx9 (.int .i64 (firstErr [E1, unl (decide (T < S)) 9]))
      have HN := Lib.hid hq9.1
      have hxo := hx9
      have hx9 := hq9.2
      clear hq9
      refine tailL_mk HN.out ?_
      refine tree_done ?_
      go_wp2_with fail
      go_meet
      case rel => exact ⟨X9, rfl, Lib.hid hx9, Lib.hid hNX, HN⟩
    ·go_wp2_with fail
     obtain ⟨X9, hX9, hNX, hx9, l9, hs9, hbx⟩ := xal HN.out (Obj.cells #[.int .i64 0] 31)
     try simp only [← hX9]
     generalize (wx1.alloc (Obj.cells #[.int .i64 0] 31)) = wx20 at *
     have HX9 := Lib.hid (And.intro hX9 hs9)
     have HN := bwt HN hbx
     clear hbx hX9 hs9
     refine tailL_mk HN.out ?_
     refine tree_one rfl ?_
     go_wp2_with fail
     refine tailL_mk HN.out ?_
     repeat (refine tree_head rfl ?_; (show wpQuiet _ _ _ _ (_ :: _) _; go_big_quiet_step (fail)); refine wpQuiet_nil ?_)
     refine tree_one rfl ?_
     go_wp2_with fail
     refine (t_unless_any _ _ _).mono ?_
     rintro e11 w11 ⟨rfl, rfl⟩
     go_wp2_with fail
     refine tailL_mk HN.out ?_
     refine tree_one rfl ?_
     go_wp2_with fail
     obtain ⟨XL, hXL⟩ : ∃ X, X = wx20.heap.size := ⟨_, rfl⟩
     have hxl : (wx20.alloc (Obj.cells #[.int .i64 E1, .int .i64 (unl (decide (T < S)) 9)] 31)).heap[XL]? = some (.cells #[.int .i64 E1, .int .i64 (unl (decide (T < S)) 9)] 31) := by rw [hXL]; exact heap_alloc_new _ _
     have hbx : Below wx20.heap.size wx20 (wx20.alloc (Obj.cells #[.int .i64 E1, .int .i64 (unl (decide (T < S)) 9)] 31)) := by (first|exact bwg|go_size)
     try simp only [← hXL]
     generalize (wx20.alloc (Obj.cells #[.int .i64 E1, .int .i64 (unl (decide (T < S)) 9)] 31)) = wx23 at *
     have HN := bwt HN hbx
     have hx9 := (hbx.block X9 l9).trans hx9
     have l9 := Nat.lt_of_lt_of_le l9 hbx.size
     have HT23 := Lib.hid (show BlkR wx23 XL _ from hxl)
     clear hbx hXL hxl
     refine tailL_mk HN.out ?_
     refine tree_one rfl ?_
     go_wp2_with fail
     refine (t_first2b _ _ _ _ _ HT23.out).mono ?_
     rintro e12 w12 ⟨rfl, rfl⟩
     go_wp2_with fail
     refine tailL_mk HN.out ?_
     refine tree_one rfl ?_
     obtain ⟨c90, f90⟩ := xcf1 hx9
     go_wp2_with fail
     have hq9 := xst1 HN.out hNX hx9 (.int .i64 (firstErr [E1, unl (decide (T < S)) 9]))
     have HN := Lib.hid hq9.1
     have hxo := hx9
     have hx9 := hq9.2
     clear hq9
     refine tailL_mk HN.out ?_
     refine tree_done ?_
     go_wp2_with fail
     go_meet
     case rel => exact ⟨X9, rfl, Lib.hid hx9, Lib.hid hNX, HN⟩
   ·go_wp2_with fail
    obtain ⟨X9, hX9, hNX, hx9, l9, hs9, hbx, hbd⟩ := xald HN.out (Obj.cells #[.int .i64 0] 31)
    try simp only [← hX9]
    generalize (w2.alloc (Obj.cells #[.int .i64 0] 31)).drew = wx26 at *
    have HX9 := Lib.hid (And.intro hX9 hs9)
    have HN := Lib.hid hbx
    clear hbx hX9 hs9 hbd
    refine tailL_mk HN.out ?_
    refine tree_one rfl ?_
    go_wp2_with fail
    refine (HSE.out _).mono ?_
    rintro e11 wx27 ⟨rfl, hbx⟩
    have hzx := hbx.size
    have HN := bwt HN hbx
    have hx9 := (hbx.block X9 l9).trans hx9
    have l9 := Nat.lt_of_lt_of_le l9 hbx.size
    clear hbx
    go_wp2_with fail
    refine tailL_mk HN.out ?_
    repeat (refine tree_head rfl ?_; (show wpQuiet _ _ _ _ (_ :: _) _; go_big_quiet_step (fail)); refine wpQuiet_nil ?_)
    refine tree_one rfl ?_
    go_wp2_with fail
    refine tailL_mk HN.out ?_
    repeat (refine tree_head rfl ?_; (show wpQuiet _ _ _ _ (_ :: _) _; go_big_quiet_step (fail)); refine wpQuiet_nil ?_)
    refine tree_one rfl ?_
    go_wp2_with fail
    refine (t_unless_any _ _ _).mono ?_
    rintro e11 w11 ⟨rfl, rfl⟩
    go_wp2_with fail
    refine tailL_mk HN.out ?_
    refine tree_one rfl ?_
    go_wp2_with fail
    obtain ⟨XL, hXL⟩ : ∃ X, X = wx27.heap.size := ⟨_, rfl⟩
    have hxl : (wx27.alloc (Obj.cells #[.int .i64 E1, .int .i64 (unl (decide (T < S)) 9)] 31)).heap[XL]? = some (.cells #[.int .i64 E1, .int .i64 (unl (decide (T < S)) 9)] 31) := by rw [hXL]; exact heap_alloc_new _ _
    have hbx : Below wx27.heap.size wx27 (wx27.alloc (Obj.cells #[.int .i64 E1, .int .i64 (unl (decide (T < S)) 9)] 31)) := by (first|exact bwg|go_size)
    try simp only [← hXL]
    generalize (wx27.alloc (Obj.cells #[.int .i64 E1, .int .i64 (unl (decide (T < S)) 9)] 31)) = wx30 at *
    have HN := bwt HN hbx
    have hx9 := (hbx.block X9 l9).trans hx9
    have l9 := Nat.lt_of_lt_of_le l9 hbx.size
    have HT23 := Lib.hid (show BlkR wx30 XL _ from hxl)
    clear hbx hXL hxl
    refine tailL_mk HN.out ?_
    refine tree_one rfl ?_
    go_wp2_with fail
    refine (t_first2b _ _ _ _ _ HT23.out).mono ?_
    rintro e12 w12 ⟨rfl, rfl⟩
    go_wp2_with fail
    refine tailL_mk HN.out ?_
    refine tree_one rfl ?_
    obtain ⟨c90, f90⟩ := xcf1 hx9
    go_wp2_with fail
    have hq9 := xst1 HN.out hNX hx9 (.int .i64 (firstErr [E1, unl (decide (T < S)) 9]))
    have HN := Lib.hid hq9.1
    have hxo := hx9
    have hx9 := hq9.2
    clear hq9
    refine tailL_mk HN.out ?_
    refine tree_done ?_
    go_wp2_with fail
    go_meet
    case rel => exact ⟨X9, rfl, Lib.hid hx9, Lib.hid hNX, HN⟩
 case rest =>
  obtain ⟨w3, rfl⟩ : ∃ w', w' = wc := ⟨wc, rfl⟩
  obtain ⟨X7, rfl, K7, hX7, HN2⟩ := hcut
  have hb3 := HB2.out.trans (HN2.out.mono HB2.out.size)
  have K3 := Lib.hid (K3.out.below HN2.out)
  have K4 := Lib.hid (K4.out.below HN2.out)
  have K6 := Lib.hid (K6.out.below HN2.out)
  have x67 : X6 < X7 := by have := hX7.out; have := X6lt.out; omega
  have hw7 : w.heap.size ≤ X7 := by omega
  have HB3 := Lib.hid hb3
  clear c3 c3_1 c3_2 c3_3 c3_4 c3_5 c3_6 c3_7 c3_8 c4 l3 l4 hcc hci hX7 HN2 hb3 HSE
  have c7 := blk_cell K7.out (i := 0) rfl
  have l7 := K7.out.lt
  have c6 := blk_cell K6.out (i := 0) rfl
  have f6 := blk_fz K6.out 0
  have l6 := K6.out.lt
  generalize hEF : firstErr [E1, unl PB 9] = EF at *
  by_cases hE0 : EF = 0
  rotate_left
  ·have hV : RES = EF := by rw [HRES.out, if_pos hE0]
   have e1 := bne_iff_ne.2 hE0
   clear hEF hE0
   go_wp2_with fail
   have k6 := blk_set K6.out 0 (.int .i64 EF)
   have hbw : Below w.heap.size w (w3.setCell ⟨X6, 0, none⟩ (.int .i64 EF)) := Below.setCell HB3.out (by omega) _
   generalize w3.setCell ⟨X6, 0, none⟩ (.int .i64 EF) = WF at *
   refine leaves_marks (B := w.heap.size) (w0 := w) [] WF List.nodup_nil (fun D hD => by simp at hD) hbw (fun w' hs hb' => ⟨.int .i64 EF, ?_, by rw [hV], hb'⟩)
   have r0 := blk_cell (hs _ _ _ _ k6) (i := 0) rfl
   simp [results, Tryz.results52, go_sem, r0]
  subst hE0
  have hV := HRES.out
  rw [if_neg (by simp)] at hV
  obtain ⟨hA1, hA2⟩ := firstErr_cons.1 hEF
  obtain ⟨s, hs⟩ : ∃ s : Nat, S = s := ⟨S.toNat, by rw [HE1.out] at hA1; have := staE_zero.1 hA1; omega⟩
  have hsl : s < 2 ^ nb := by
   rw [HE1.out] at hA1
   have h1 := (staE_zero.1 hA1).2
   rw [hs, HM.out.2] at h1
   have : ((2 ^ nb : Nat) : Int) = (2 : Int) ^ nb := by push_cast; rfl
   omega
  rw [hs, Int.toNat_natCast] at hV
  have HV := Lib.hid hV
  have hs64 : s < 64 := Nat.lt_of_lt_of_le hsl (Nat.le_trans (Nat.pow_le_pow_right (by omega) hn6) (by decide))
  have HC3 := Lib.hid (HC.out.below HB3.out)
  have hci : w3.cell? ⟨bc, oc + i, none⟩ = some (.int .i64 (s : Int)) := by
   obtain ⟨b', o', hbo, _, hcc'⟩ := SlR.addr HC3.out (by omega)
   simp only [Option.some.injEq, Addr.mk.injEq] at hbo
   obtain ⟨rfl, rfl, _⟩ := hbo
   exact hcc' i (.int .i64 (s : Int)) (by rw [icells_get (by rw [hLn]; exact hi), ← HS.out, hs])
  have c4 := blk_cell K4.out (i := 0) rfl
  have l4 := K4.out.lt
  clear hEF hA1 hA2 hV hs c6 f6
  go_upto_region 5 with (fail)
  obtain ⟨w4, hW4⟩ : ∃ w4, w4 = w3.alloc (Obj.cells #[.int .i64 (s : Int)] 117) := ⟨_, rfl⟩
  obtain ⟨hb4, k8⟩ := alA1 w3 (Obj.cells #[.int .i64 (s : Int)] 117)
  rw [← hW4] at hb4 k8
  rw [← hW4]
  obtain ⟨X8, hX8⟩ : ∃ X, X = w3.heap.size := ⟨_, rfl⟩
  rw [← hX8] at k8
  simp only [← hX8]
  have x78 : X7 < X8 := by omega
  have HB4 := bwt HB3 hb4
  have K3 := Lib.hid (K3.out.below hb4)
  have K4 := Lib.hid (K4.out.below hb4)
  have K6 := Lib.hid (K6.out.below hb4)
  have K7 := Lib.hid (K7.out.below hb4)
  have K8 := Lib.hid k8
  clear hW4 hX8 hb4 k8 c4 l4 c7 l7 hci l6
  obtain ⟨c3, c3_1, c3_2, c3_3, c3_4, c3_5, c3_6, c3_7, c3_8, l3⟩ := blkc9 K3.out
  have c8 := blk_cell K8.out (i := 0) rfl
  have l8 := K8.out.lt
  go_wp2_with fail
  refine (HSF.out s _ hsl HB4.out).mono ?_
  rintro e5 w5 ⟨rfl, hb5⟩
  have HB5 := bwt HB4 hb5
  have K3 := Lib.hid (K3.out.below hb5)
  have K4 := Lib.hid (K4.out.below hb5)
  have K6 := Lib.hid (K6.out.below hb5)
  have K7 := Lib.hid (K7.out.below hb5)
  have K8 := Lib.hid (K8.out.below hb5)
  clear hb5 c3 c3_1 c3_2 c3_3 c3_4 c3_5 c3_6 c3_7 c3_8 l3 c8 l8 HB4 HSF
  generalize hSE : safE m ⟨vo, lo, hi', ci, br, re⟩ s = SE at *
  obtain ⟨O3, hO3⟩ : ∃ O, O = (Obj.cells #[.slice ab nb cb, .int .i64 st, .slice ag ng cg, .int .i64 vo, .int .i64 lo, .int .i64 hi', .int .i64 ci, .int .i64 br, .int .i64 re] 100) := ⟨_, rfl⟩
  obtain ⟨O4, hO4⟩ : ∃ O, O = (Obj.cells #[.slice (some ⟨bc, oc, none⟩) n cc] 48) := ⟨_, rfl⟩
  have HK := Lib.hid (show KepO w X3 X4 X6 X7 X8 O3 O4 s SE (w5.setCell ⟨X7, 0, none⟩ (.int .i64 SE)) from KepO.set (e := 0) ⟨by rw [hO3]; exact K3.out, by rw [hO4]; exact K4.out, K6.out, K7.out, K8.out, HB5.out⟩ hw7 (by omega) (by omega) (by omega) (by omega) SE)
  have HO3 := Lib.hid hO3
  have HO4 := Lib.hid hO4
  clear hO3 hO4
  have c7 := blk_cell K7.out (i := 0) rfl
  have f7 := blk_fz K7.out 0
  have l7 := K7.out.lt
  go_upto_region 6 with (fail)
  generalize w5.setCell ⟨X7, 0, none⟩ (.int .i64 SE) = w6 at *
  clear c7 f7 l7 K3 K4 K6 K7 K8 HB5
  have c7 := blk_cell HK.out.k7 (i := 0) rfl
  have l7 := HK.out.k7.lt
  by_cases h0 : SE = 0
  rotate_left
  ·have hV : RES = SE := by rw [HV.out, if_pos h0]
   have e1 := bne_iff_ne.2 h0
   have c6 := blk_cell HK.out.k6 (i := 0) rfl
   have f6 := blk_fz HK.out.k6 0
   have l6 := HK.out.k6.lt
   clear hSE h0
   go_wp2_with fail
   have k6 := blk_set HK.out.k6 0 (.int .i64 SE)
   have hbw : Below w.heap.size w (w6.setCell ⟨X6, 0, none⟩ (.int .i64 SE)) := Below.setCell HK.out.bw (by omega) _
   generalize w6.setCell ⟨X6, 0, none⟩ (.int .i64 SE) = WF at *
   refine leaves_marks (B := w.heap.size) (w0 := w) [] WF List.nodup_nil (fun D hD => by simp at hD) hbw (fun w' hs hb' => ⟨.int .i64 SE, ?_, by rw [hV], hb'⟩)
   have r0 := blk_cell (hs _ _ _ _ k6) (i := 0) rfl
   simp [results, Tryz.results52, go_sem, r0]
  subst h0
  have HV := Lib.hid (HV.out.trans (if_neg (by simp)))
  have k3 := HK.out.k3
  rw [HO3.out] at k3
  obtain ⟨c3, c3_1, c3_2, c3_3, c3_4, c3_5, c3_6, c3_7, c3_8, l3⟩ := blkc9 k3
  have c8 := blk_cell HK.out.k8 (i := 0) rfl
  have l8 := HK.out.k8.lt
  clear k3 hSE
  go_wp2_with fail
  refine (HMV.out s w6 (HBG.out.2.below HK.out.bw)).mono ?_
  rintro e6 w7 ⟨XM, XS, rfl, hb6, hmw, hXM, hXS⟩
  have HK := Lib.hid (HK.out.below hb6)
  have kM : BlkR w7 XM (.cells #[.slice ab nb cb, .int .i64 st, .slice ag ng cg] 98) := by have := hmw.1; rwa [HST.out] at this
  have kS : BlkR w7 XS (.cells #[.int .i64 (s : Int)] 117) := hmw.2.1
  clear c3 c3_1 c3_2 c3_3 c3_4 c3_5 c3_6 c3_7 c3_8 l3 c8 l8 hb6 hmw c7 l7
  go_wp2_with fail
  refine (wpIn_wide (n := 3)).1 ?_
  refine range_two (gf := 112) (fst := #[]) (lst := #[.pointer (some ⟨XM, 0, none⟩), .pointer (some ⟨XS, 0, none⟩)]) rfl cf_moves ?_
  intro rec hst hpe hpa htm has hbo
  obtain ⟨RD, hRD⟩ : ∃ RD : Loop, RD = { rec with state := .done, pending := some .ret } := ⟨_, rfl⟩
  have HRD := Lib.hid hRD
  clear hRD
  have hL1 : ((w7.alloc (.deferred (some []))).alloc (.loop rec)).heap[w7.heap.size + 1]? = some (.loop rec) := by
   have := World.alloc_heap_new (w7.alloc (.deferred (some []))) (.loop rec); rwa [World.size_alloc] at this
  have hK1 : ((w7.alloc (.deferred (some []))).alloc (.loop rec)).heap[w7.heap.size]? = some (.deferred (some [])) := (Below.heap_alloc _ _ _ (by simp)).trans (World.alloc_heap_new w7 _)
  have hb9 : Below w7.heap.size w7 ((w7.alloc (.deferred (some []))).alloc (.loop rec)) := by (first|exact bwg|go_size)
  generalize (w7.alloc (.deferred (some []))).alloc (.loop rec) = w9 at *
  obtain ⟨lr, hlr⟩ : ∃ lr, lr = w7.heap.size + 1 := ⟨_, rfl⟩
  obtain ⟨D, hD⟩ : ∃ D, D = w7.heap.size := ⟨_, rfl⟩
  rw [← hlr] at hL1
  rw [← hD] at hK1
  simp only [← hlr]
  simp only [← hD]
  have x8D : X8 < D := by have := HK.out.k8.lt; omega
  have x3D : X3 < D := by omega
  have x4D : X4 < D := by omega
  have dl : D < lr := by omega
  have hwD : w.heap.size ≤ D := by omega
  have hwl : w.heap.size ≤ lr := by omega
  have hR9 := HK.out.below hb9
  have kM := kM.below hb9
  have kS := kS.below hb9
  obtain ⟨BL, hBL⟩ : ∃ x, x = L := ⟨_, rfl⟩
  have HBL := Lib.hid hBL
  rw [← hBL] at HV
  clear hb9 hlr hD HK hBL
  show CallsIn Fence.wide _ _ _ #[.func (.yield lr) #[] #[], .pointer (some ⟨XM, 0, none⟩), .pointer (some ⟨XS, 0, none⟩)] _ _
  refine (callsIn_wide.2 (moves_calls m s XM XS lr ab ag nb cb ng cg
   (fun L B => B.heap[lr]? = some (.loop rec) ∧ B.heap[D]? = some (.deferred (some [])) ∧ BlkR B XM (.cells #[.slice ab nb cb, .int .i64 st, .slice ag ng cg] 98) ∧ BlkR B XS (.cells #[.int .i64 (s : Int)] 117) ∧ KepO w X3 X4 X6 X7 X8 O3 O4 s 0 B ∧ ∀ c ∈ L, kmE m ⟨vo, lo, hi', ci, br, re⟩ BL s c = 0)
   (fun B => B.heap[lr]? = some (.loop RD) ∧ B.heap[D]? = some (.deferred (some [])) ∧ Below w.heap.size w B ∧ ∃ i, BlkR B X6 (.cells #[.int .i64 (kmE m ⟨vo, lo, hi', ci, br, re⟩ BL s i)] 31) ∧ RES = kmE m ⟨vo, lo, hi', ci, br, re⟩ BL s i) w9 HM.out.1 HM.out.2 hs64 ?_ ?_ ?_ ⟨hL1, hK1, kM, kS, hR9, fun c hc => by cases hc⟩)).mono ?_
  ·rintro L A B ⟨p1, p2, p3, p4, p5, p6⟩ hb
   exact ⟨blk_below p1 hb, blk_below p2 hb, p3.below hb, p4.below hb, p5.below hb, p6⟩
  ·rintro L A ⟨p1, p2, p3, p4, p5, p6⟩
   exact ⟨by rw [← HST.out] at p3; exact p3, p4, HBG.out.2.below p5.bw⟩
  ·rintro c A hin hmb ⟨p1, p2, p3, p4, p5, p6⟩
   have hT : trn s c < 64 := Nat.lt_of_lt_of_le (trn_lt' hn6 hsl hin) (Nat.le_trans (Nat.pow_le_pow_right (by omega) hn6) (by decide))
   have HTX := Lib.hid (fun (W : World) => show Calls Tryz.prog 79 #[.int .i64 (s : Int), .int .i64 (c : Int)] W (fun e' w' => e' = .returned (.int .i64 ((trn s c : Nat) : Int)) ∧ W = w') from turned_any s c W hs64 (by omega))
   have HCX := Lib.hid (fun (W : World) (hb : Below w.heap.size w W) => HCG.out s c W hsl hin (HBG.out.1.below hb) (HBG.out.2.below hb))
   have HKM := Lib.hid (show kmE m ⟨vo, lo, hi', ci, br, re⟩ BL s c = firstErr [chgE m ⟨vo, lo, hi', ci, br, re⟩ s c, unl (BL.any (fun q : Int => decide (((trn s c : Nat) : Int) = q))) 14] from rfl)
   have HL0 := Lib.hid (fun (h : kmE m ⟨vo, lo, hi', ci, br, re⟩ BL s c = 0) => show ∀ d ∈ movU m s c ++ [c], kmE m ⟨vo, lo, hi', ci, br, re⟩ BL s d = 0 from fun d hd => by
    rcases List.mem_append.1 hd with h1 | h1
    ·exact p6 d h1
    ·rw [List.mem_singleton.1 h1]; exact h)
   have HHIT := Lib.hid (fun (h : kmE m ⟨vo, lo, hi', ci, br, re⟩ BL s c ≠ 0) => show RES = kmE m ⟨vo, lo, hi', ci, br, re⟩ BL s c from by
    rw [HV.out]
    exact fe_hit hmb p6 h m.br.length (by rw [HM.out.2]; exact hin))
   have c0 : (0 : Int) ≤ (c : Int) := by omega
   obtain ⟨T, hTT⟩ : ∃ T, T = trn s c := ⟨_, rfl⟩
   rw [← hTT] at HTX HKM hT
   generalize hKMC : kmE m ⟨vo, lo, hi', ci, br, re⟩ BL s c = KM at *
   have HKMC := Lib.hid hKMC
   generalize chgE m ⟨vo, lo, hi', ci, br, re⟩ s c = CE at *
   clear hTT p6 hKMC
   refine yield_two p1 hst hpe (by rw [hpa]; rfl) ?_
   obtain ⟨RB, hRB⟩ : ∃ RB : Loop, RB = { rec with state := .busy } := ⟨_, rfl⟩
   rw [← hRB]
   have HRB := Lib.hid hRB
   clear hRB
   rw [has, hbo, hpa, htm]
   clear has hbo hpa htm hst hpe
   gi_wp2
   refine ⟨p1, ?_⟩
   have e1 : (A.putObj lr (.loop RB)).heap[lr]? = some (.loop RB) := World.putObj_heap_same (Array.getElem?_eq_some_iff.1 p1).1
   have e2 : (A.putObj lr (.loop RB)).heap[D]? = some (.deferred (some [])) := (World.putObj_heap_other (by omega)).trans p2
   have e3 := p3.put (r' := RB) p1
   have e4 := p4.put (r' := RB) p1
   have e5 := p5.put (r' := RB) p1 hwl (by omega) (by omega)
   generalize A.putObj lr (.loop RB) = A1 at *
   clear p1 p2 p3 p4 p5
   have k3 := e5.k3
   rw [HO3.out] at k3
   have k4 := e5.k4
   rw [HO4.out] at k4
   obtain ⟨c3, c3_1, c3_2, c3_3, c3_4, c3_5, c3_6, c3_7, c3_8, l3⟩ := blkc9 k3
   have c4 := blk_cell k4 (i := 0) rfl
   have l4 := k4.lt
   have c8 := blk_cell e5.k8 (i := 0) rfl
   have l8 := e5.k8.lt
   have HCW := Lib.hid (fun (W : World) (hb : Below A1.heap.size A1 W) => HCX.out W (e5.bw.trans (hb.mono e5.bw.size)))
   have HE := Lib.hid (And.intro e1 (And.intro e2 (And.intro e3 (And.intro e4 e5))))
   clear k3 k4 e1 e2 e3 e4 e5 HCX
   gi_wp2
   refine round_later_tail 8 (by kernel_rfl) rfl (by repeat (first | exact not_out_two | refine not_out_then ?_ | refine not_out_block ?_)) (by kernel_rfl) ?_; simp only [List.take_succ_cons, List.take_zero, List.drop_succ_cons, List.drop_zero]; repeat go_big_quiet_step (first | (with_reducible exact calls_later (HCW.out _ (Later.below _))) | (with_reducible exact calls_later_same (HTX.out _)))
   refine wpQuiet_nil ?_; intro w7 hb7
   obtain ⟨e1, e2, e3, e4, e5⟩ := HE.out
   have e1 := blk_below e1 hb7
   have e2 := blk_below e2 hb7
   have e3 := e3.below hb7
   have e4 := e4.below hb7
   have e5 := e5.below hb7
   have HCN := Lib.hid (cntContains_any (T : Int) BL (some ⟨bc, oc, none⟩) n cc w7 (by rw [HBL.out]; exact HC.out.below e5.bw))
   have HE := Lib.hid (And.intro e1 (And.intro e2 (And.intro e3 (And.intro e4 e5))))
   clear e1 e2 e3 e4 e5 hb7 c3 c3_1 c3_2 c3_3 c3_4 c3_5 c3_6 c3_7 c3_8 l3 c4 l4 c8 l8
   go_wp2_with fail
   refine HCN.out.mono ?_
   rintro e8 w8 ⟨rfl, rfl⟩
   clear HCN
   generalize BL.any (fun q : Int => decide (((T : Nat) : Int) = q)) = HA at *
   go_wp2_with fail
   refine (t_unless_any _ _ _).mono ?_
   rintro e9 w9' ⟨rfl, rfl⟩
   go_wp2_with fail
   refine (t_first2 _ _ _ _ _ _ (by rfl) (by simp)).mono ?_
   rintro e10 w10 ⟨rfl, rfl⟩
   obtain ⟨e1, e2, e3, e4, e5⟩ := HE.out
   have hba : Below w7.heap.size w7 (w7.alloc (Obj.cells #[.int .i64 CE, .int .i64 (unl HA 14)] 31)) := by (first|exact bwg|go_size)
   have e1 := blk_below e1 hba
   have e2 := blk_below e2 hba
   have e3 := e3.below hba
   have e4 := e4.below hba
   have e5 := e5.below hba
   rw [← HKM.out]
   generalize w7.alloc (Obj.cells #[.int .i64 CE, .int .i64 (unl HA 14)] 31) = w8 at *
   have c7 := blk_cell e5.k7 (i := 0) rfl
   have f7 := blk_fz e5.k7 0
   have l7 := e5.k7.lt
   have HE := Lib.hid (And.intro e1 (And.intro e2 (And.intro e3 (And.intro e4 e5))))
   clear e1 e2 e3 e4 e5 hba HKM
   go_wp2_with fail
   obtain ⟨e1, e2, e3, e4, e5⟩ := HE.out
   have e1 : (w8.setCell ⟨X7, 0, none⟩ (.int .i64 KM)).heap[lr]? = some (.loop RB) := (heap_set_neI (by have := e5.k7; rintro rfl; rw [show w8.heap[lr]? = _ from this] at e1; cases e1)).trans e1
   have e2 : (w8.setCell ⟨X7, 0, none⟩ (.int .i64 KM)).heap[D]? = some (.deferred (some [])) := (heap_set_neI (by have := e5.k7; rintro rfl; rw [show w8.heap[D]? = _ from this] at e2; cases e2)).trans e2
   have e3 := e3.set e5.k7 (by decide) 0 (.int .i64 KM)
   have e4 := e4.set e5.k7 (by decide) 0 (.int .i64 KM)
   have e5 := e5.set hw7 (by omega) (by omega) (by omega) (by omega) KM
   generalize w8.setCell ⟨X7, 0, none⟩ (.int .i64 KM) = w9 at *
   clear c7 f7 l7
   have c7 := blk_cell e5.k7 (i := 0) rfl
   have l7 := e5.k7.lt
   have HE := Lib.hid (And.intro e1 (And.intro e2 (And.intro e3 (And.intro e4 e5))))
   by_cases hk : KM = 0
   ·subst hk
    clear e1 e2 e3 e4 e5
    gi_wp2
    obtain ⟨e1, e2, e3, e4, e5⟩ := HE.out
    exact ⟨by rw [← HRB.out]; exact e1, .inl ⟨rfl, World.putObj_heap_same (Array.getElem?_eq_some_iff.1 e1).1, (World.putObj_heap_other (by omega)).trans e2, e3.put e1, e4.put e1, e5.put e1 hwl (by omega) (by omega), fun d hd => HL0.out trivial d (by first | exact hd | (rcases hd with h | h <;> simp [h]))⟩⟩
   ·have hk1 := bne_iff_ne.2 hk
    have HV2 := Lib.hid (HHIT.out hk)
    have c6 := blk_cell e5.k6 (i := 0) rfl
    have f6 := blk_fz e5.k6 0
    have l6 := e5.k6.lt
    clear e1 e2 e3 e4 e5 hk HHIT HL0
    gi_wp2
    obtain ⟨e1, e2, e3, e4, e5⟩ := HE.out
    have g1 : (w9.setCell ⟨X6, 0, none⟩ (.int .i64 KM)).heap[lr]? = some (.loop RB) := (heap_set_neI (by omega)).trans e1
    have g2 : (w9.setCell ⟨X6, 0, none⟩ (.int .i64 KM)).heap[D]? = some (.deferred (some [])) := (heap_set_neI (by omega)).trans e2
    have g6 := blk_set e5.k6 0 (.int .i64 KM)
    have gb : Below w.heap.size w (w9.setCell ⟨X6, 0, none⟩ (.int .i64 KM)) := Below.setCell e5.bw (by omega) _
    generalize w9.setCell ⟨X6, 0, none⟩ (.int .i64 KM) = WF at *
    exact ⟨by rw [← HRB.out]; exact g1, .inr ⟨rfl, by rw [← HRD.out]; exact World.putObj_heap_same (Array.getElem?_eq_some_iff.1 g1).1, (World.putObj_heap_other (by omega)).trans g2, gb.trans (belowK_b (w := w) (Nat.le_refl _) _ lr _ _ (by omega) g1 rfl rfl), c, by rw [HKMC.out]; exact (show BlkR WF X6 _ from g6).put g1, by rw [HKMC.out]; exact HV2.out⟩⟩
  ·rintro e W9 ⟨⟨v, rfl⟩, h⟩
   rcases h with ⟨p1, p2, p3, p4, p5, p6⟩ | ⟨h1, h2, h3, j, h4, h5⟩
   ·refine ⟨⟨_, rfl⟩, .inl ⟨p1, ?_⟩⟩
    have e5 := p5.put (r' := { rec with state := .exhausted }) p1 hwl (by omega) (by omega)
    have e2 : (W9.putObj lr (.loop { rec with state := .exhausted })).heap[D]? = some (.deferred (some [])) := (World.putObj_heap_other (by omega)).trans p2
    have hVZ : RES = 0 := by
     rw [HV.out]
     exact fe_all0 _ (fun x hx => by obtain ⟨c, hc, rfl⟩ := List.mem_map.1 hx; exact p6 c hc)
    generalize W9.putObj lr (.loop { rec with state := .exhausted }) = W2 at *
    have c6 := blk_cell e5.k6 (i := 0) rfl
    have f6 := blk_fz e5.k6 0
    have l6 := e5.k6.lt
    have HE5 := Lib.hid e5
    have HE2 := Lib.hid e2
    clear p1 p2 p3 p4 p5 p6 e5 e2 hst hpe hpa htm has hbo hL1 hK1 kM kS hR9
    go_wp2_with fail
    have k6 := blk_set HE5.out.k6 0 (.int .i64 0)
    have hbw : Below w.heap.size w (W2.setCell ⟨X6, 0, none⟩ (.int .i64 0)) := Below.setCell HE5.out.bw (by omega) _
    have h2 : (W2.setCell ⟨X6, 0, none⟩ (.int .i64 0)).heap[D]? = some (.deferred (some [])) := (heap_set_neI (by omega)).trans HE2.out
    generalize W2.setCell ⟨X6, 0, none⟩ (.int .i64 0) = WF at *
    refine leaves_marks (B := w.heap.size) (w0 := w) [D] WF (by simp) (fun E hE => by simp at hE; subst hE; exact ⟨hwD, h2⟩) hbw (fun w' hs hb' => ⟨.int .i64 0, ?_, by rw [hVZ], hb'⟩)
    have r0 := blk_cell (hs _ _ _ _ k6) (i := 0) rfl
    simp [results, Tryz.results52, go_sem, r0]
   ·refine ⟨⟨_, rfl⟩, .inr ⟨by rw [h1, HRD.out], ?_⟩⟩
    have g2 : (W9.putObj lr (.loop { rec with state := .exhausted, pending := some .ret })).heap[D]? = some (.deferred (some [])) := (World.putObj_heap_other (by omega)).trans h2
    have g6 := h4.put (r' := { rec with state := .exhausted, pending := some .ret }) h1
    have hBw : Below w.heap.size w (W9.putObj lr (.loop { rec with state := .exhausted, pending := some .ret })) := h3.trans (belowK_b (w := w) (Nat.le_refl _) W9 lr _ _ (by omega) h1 rfl rfl)
    generalize W9.putObj lr (.loop { rec with state := .exhausted, pending := some .ret }) = W2 at *
    refine leaves_marks (B := w.heap.size) (w0 := w) [D] W2 (by simp) (fun E hE => by simp at hE; subst hE; exact ⟨hwD, g2⟩) hBw (fun w' hs hb' => ⟨.int .i64 (kmE m ⟨vo, lo, hi', ci, br, re⟩ BL s j), ?_, by rw [h5], hb'⟩)
    have r0 := blk_cell (hs _ _ _ _ g6) (i := 0) rfl
    simp [results, Tryz.results52, go_sem, r0]
end Go.Proofs.YtdjinmieogpgcaaGreat
