import Derived.Test.YtdjinmieogpgcaaGreatMTRep
import Derived.Test.YtdjinmieogpgcaaGreatTCurP
import Derived.Test.YtdjinmieogpgcaaGreatTOut
/- The currents of the contacts: the program. -/
namespace Go.Proofs.YtdjinmieogpgcaaGreat
open Go.RowKit Go.Shelf
set_option linter.unusedVariables false
set_option linter.unusedSimpArgs false
attribute [local go_sem] Oper.semAt_some
theorem frs_pcells (a b : Int) : ∀ n, frs a b n 0 = pcells (List.replicate n (a, b))
 | 0 => rfl
 | n + 1 => by rw [List.replicate_succ]; simp only [frs, frs_pcells a b n]; rfl
theorem pcells_set : ∀ (L : List (Int × Int)) (k : Nat) (p : Int × Int), pcells (L.set k p) = ((pcells L).set (k * 2) (.int .i64 p.1)).set (k * 2 + 1) (.int .i64 p.2)
 | [], k, p => by simp [pcells]
 | x :: L, 0, p => by simp [pcells]
 | x :: L, k + 1, p => by
  have ih := pcells_set L k p
  show Value.int .i64 x.1 :: Value.int .i64 x.2 :: pcells (L.set k p) = _
  rw [ih, show (k + 1) * 2 = k * 2 + 1 + 1 by omega]
  rfl
theorem blk_pset {w : World} {g t : Nat} {L : List (Int × Int)} (h : w.heap[g]? = some (.cells (pcells L).toArray t)) (k : Nat) (p : Int × Int) :
    ((w.setCell ⟨g, k * 2, none⟩ (.int .i64 p.1)).setCell ⟨g, k * 2 + 1, none⟩ (.int .i64 p.2)).heap[g]? = some (.cells (pcells (L.set k p)).toArray t) := by
 have := blk_set (blk_set h (k * 2) (.int .i64 p.1)) (k * 2 + 1) (.int .i64 p.2)
 rw [this, pcells_set]
 simp
def BlkR (w : World) (g : Nat) (o : Obj) : Prop := w.heap[g]? = some o
theorem BlkR.below {w w' : World} {g : Nat} {o : Obj} (h : BlkR w g o) (hb : Below w.heap.size w w') : BlkR w' g o := (hb.block _ (Array.getElem?_eq_some_iff.1 h).1).trans h
theorem BlkR.lt {w : World} {g : Nat} {o : Obj} (h : BlkR w g o) : g < w.heap.size := (Array.getElem?_eq_some_iff.1 h).1
theorem BlkR.set {w : World} {g X t t' : Nat} {c d : Array Value} (h : BlkR w g (.cells c t)) (hx : w.heap[X]? = some (.cells d t')) (hn : t ≠ t') (i : Nat) (v : Value) : BlkR (w.setCell ⟨X, i, none⟩ v) g (.cells c t) := by
 refine (heap_set_neI ?_).trans h
 rintro rfl
 rw [h] at hx
 injection hx with hx
 injection hx with _ hx
 exact hn hx
set_option maxHeartbeats 4000000 in
set_option maxRecDepth 100000 in
theorem currents_any (m : Mac) (l : Lim) (s : Nat) (load : Int) (ab ag : Option Addr) (nb cb ng cg : Nat) (w : World) (hm : MacV m) (hb : BrR w ab nb m.br) (hl : 0 ≤ l.volt ∧ l.volt ≤ 1000) (hd : -1000 ≤ load ∧ load ≤ 1000) (hs : s < 2 ^ nb) (hs0 : s ≠ 0) :
    Calls Tryz.prog 68 #[.agg #[.slice ab nb cb, .int .i64 m.st, .slice ag ng cg, .int .i64 l.volt, .int .i64 l.lo, .int .i64 l.hi, .int .i64 l.circ, .int .i64 l.brk, .int .i64 l.ret], .int .i64 (s : Int), .int .i64 load] w fun e' w' => ∃ g, e' = .returned (.slice (some ⟨g, 0, none⟩) nb nb) ∧ w.heap.size ≤ g ∧ w'.heap[g]? = some (.cells (pcells (curT m l s load)).toArray 85) ∧ Below w.heap.size w w' := by
 have hlen := hb.len
 have hn6 : nb ≤ 6 := by rw [← hlen]; exact hm.n1
 have hn0 : 1 ≤ nb := by rw [← hlen]; exact hm.n0
 have hs64 : s < 64 := Nat.lt_of_lt_of_le hs (Nat.le_trans (Nat.pow_le_pow_right (by omega) hn6) (by decide))
 have HBT := Lib.hid (fun (i : Nat) (hi : i < 6) (h : s.testBit i = true) => bits_lt nb (by omega) s hs i hi h)
 have HBV := Lib.hid (fun (i : Nat) (hi : i < nb) => hm.br i (by rw [hlen]; exact hi))
 have HBR := Lib.hid hb
 have HVO := Lib.hid (fun (i : Nat) (hi : i < nb) (W : World) (hbr : BrR W ab nb m.br) => voltage_any m l i ab ag nb cb ng cg W hm hbr hl hi)
 have HOU := Lib.hid (fun (W : World) (hbr : BrR W ab nb m.br) => output_any m l s load ab ag nb cb ng cg W hm hbr hl hd hs hs0)
 have HNE := Lib.hid (clo_ne s hs64 hs0)
 have HRP := Lib.hid (fun (bx : Nat) (W : World) (hx : W.heap[bx]? = some (.cells #[.int .i64 0, .int .i64 1] 85)) => repeat_any 0 1 nb bx 1 W hn0 (by omega) hx)
 have HKL := Lib.hid (fun (i : Nat) (hi : i ≤ 6) (k : Nat) (hk : k ∈ cloU s i) => show k < m.br.length by rw [hlen]; exact HBT.out k (by have := (clo_mem hk).1; omega) (clo_mem hk).2)
 have hVB : VoB (outT m l s load).1 (outT m l s load).2 := outT_bd hm hl hd (HKL.out 6 (Nat.le_refl _)) HNE.out
 have HOB := Lib.hid (fun (i : Nat) (hi : i < nb) => ovr_bd (k := i) hm hl (by rw [hlen]; exact hi) hVB)
 have HCB := Lib.hid (fun (i : Nat) (hi : i < nb) => cur_bd (k := i) hm hl (by rw [hlen]; exact hi) hVB)
 have HRS := Lib.hid (fun (i : Nat) (hi : i ≤ 6) => rstA_bd hm hl hd hVB (cloU s i) (HKL.out i hi) (cloU_len' s i hi))
 have HVB := Lib.hid (fun (i : Nat) (hi : i < nb) => vol_bd hm hl (show i < m.br.length by rw [hlen]; exact hi))
 have HVV := Lib.hid hVB
 have HLN := Lib.hid hlen
 obtain ⟨vo, lo, hi, ci, br, re⟩ := l
 obtain ⟨st, hst⟩ : ∃ x, x = m.st := ⟨_, rfl⟩
 rw [← hst] at HVO HOU ⊢
 clear hb hs hm hst hlen hs0 hl hVB
 obtain ⟨VN, hVN⟩ : ∃ N, N = (outT m ⟨vo, lo, hi, ci, br, re⟩ s load).1 := ⟨_, rfl⟩
 obtain ⟨VD, hVD⟩ : ∃ N, N = (outT m ⟨vo, lo, hi, ci, br, re⟩ s load).2 := ⟨_, rfl⟩
 have hcu0 : curT m ⟨vo, lo, hi, ci, br, re⟩ s load = if dirD m (cloU s 6) < 0 then curL m ⟨vo, lo, hi, ci, br, re⟩ VN VD m.br.length (cloU s 6) else (curL m ⟨vo, lo, hi, ci, br, re⟩ VN VD m.br.length (cloU s 6)).set (dirD m (cloU s 6)).toNat (rstA m ⟨vo, lo, hi, ci, br, re⟩ load VN VD (cloU s 6)) := by rw [hVN, hVD]; rfl
 have HCU := Lib.hid hcu0
 rw [← hVN, ← hVD] at HOU HOB HCB HRS HVV
 clear hVN hVD hcu0
 simp only at HVO HOU ⊢
 refine (callsIn_wide (n := 3)).1 ?_
 refine callsIn_of_wp_marks Tryz.func68 rfl trivial ?_ rfl
 simp only [Tryz.ntmps68, List.size_toArray, List.length_cons, List.length_nil, Nat.reduceAdd, Nat.reduceSub, Array.replicate_succ, Array.replicate_zero, List.push_toArray, List.append_toArray, List.nil_append, List.cons_append]
 refine (wpIn_wide (n := 3)).2 ?_
 go_wp2_with fail
 obtain ⟨wa, hWa⟩ : ∃ wa, wa = w.alloc (Obj.cells #[.slice ab nb cb, .int .i64 st, .slice ag ng cg, .int .i64 vo, .int .i64 lo, .int .i64 hi, .int .i64 ci, .int .i64 br, .int .i64 re] 100) := ⟨_, rfl⟩
 rw [← hWa]
 have hba : Below w.heap.size w wa := by rw [hWa]; (first|exact bwg|go_size)
 have k3 : wa.heap[w.heap.size]? = some (.cells #[.slice ab nb cb, .int .i64 st, .slice ag ng cg, .int .i64 vo, .int .i64 lo, .int .i64 hi, .int .i64 ci, .int .i64 br, .int .i64 re] 100) := by rw [hWa]; exact heap_alloc_new _ _
 have hza : wa.heap.size = w.heap.size + 1 := by rw [hWa]; simp
 have HBa := Lib.hid hba
 have HBRa := Lib.hid (HBR.out.below hba)
 have HK3 := Lib.hid (show BlkR wa w.heap.size _ from k3)
 have HZa := Lib.hid hza
 have HK3a := HK3
 have u0 := cell_of_row _ _ 0 _ _ _ k3
 simp only [List.getElem?_toArray, List.getElem?_cons_zero, List.getElem?_cons_succ] at u0
 have lx3 : w.heap.size < wa.heap.size := (Array.getElem?_eq_some_iff.1 k3).1
 have hi1 : IntKind.i64.wrap (nb : Int) = (nb : Int) := by rw [IntKind.wrap_i64]; omega
 obtain ⟨X3, hX3⟩ : ∃ X, X = w.heap.size := ⟨_, rfl⟩
 simp only [← hX3] at HK3 HK3a u0 lx3 HZa ⊢
 have HX3 := Lib.hid hX3
 clear hWa hba k3 hza HBR hX3
 go_cut [7] from 14 to 22 (fun v7 wx => ∃ X7 g7 : Nat, v7 = .pointer (some ⟨X7, 0, none⟩) ∧ Hid (wx.heap[X7]? = some (.cells #[.slice (some ⟨g7, 0, none⟩) nb nb] 71)) ∧ Hid (BlkR wx g7 (.cells (frs 0 1 nb 0).toArray 85)) ∧ Hid (wa.heap.size ≤ g7) ∧ Hid (wa.heap.size ≤ X7) ∧ Hid (Below wa.heap.size wa wx))
 case first =>
  have HN := Lib.hid (Below.refl wa.heap.size wa).drew
  refine wp_region_laterT (B := wa.heap.size) (.head 2 (.head 3 (.head 4 (.head 5 (.head 6 (.two 0 (.two 1 (.two 7 (.one 8 (.one 9 .done)) 8 (.one 7 (.one 9 .done))) 8 (.one 1 (.one 7 (.one 9 .done)))) 8 (.one 0 (.one 1 (.one 7 (.one 9 .done)))))))))) (by kernel_rfl) (by kernel_rfl) ?_
  repeat (refine tree_head rfl ?_; (show wpQuiet _ _ _ _ (_ :: _) _; go_big_quiet_step (fail)); refine wpQuiet_nil ?_)
  refine tree_two rfl rfl ?_ ?_
  ·go_wp2_with fail
   refine (t_whole_any 0 _).mono ?_
   rintro e11 wx1 ⟨rfl, hbx⟩
   have hzx := hbx.size
   have HN := bwt HN hbx
   clear hbx
   go_wp2_with fail
   refine tailL_mk HN.out ?_
   refine tree_two rfl rfl ?_ ?_
   ·go_wp2_with fail
    obtain ⟨XL, hXL⟩ : ∃ X, X = wx1.heap.size := ⟨_, rfl⟩
    have hxl : (wx1.alloc (Obj.cells #[.int .i64 0, .int .i64 1] 85)).heap[XL]? = some (.cells #[.int .i64 0, .int .i64 1] 85) := by rw [hXL]; exact heap_alloc_new _ _
    have hbx : Below wx1.heap.size wx1 (wx1.alloc (Obj.cells #[.int .i64 0, .int .i64 1] 85)) := by (first|exact bwg|go_size)
    try simp only [← hXL]
    generalize (wx1.alloc (Obj.cells #[.int .i64 0, .int .i64 1] 85)) = wx2 at *
    have HN := bwt HN hbx
    have HT1 := Lib.hid (show BlkR wx2 XL (.cells #[.int .i64 0, .int .i64 1] 85) from hxl)
    clear hbx hXL hxl
    refine tailL_mk HN.out ?_
    refine tree_two rfl rfl ?_ ?_
    ·go_wp2_with fail
     refine (HRP.out _ _ HT1.out).mono ?_
     rintro e11 wx3 ⟨g7, rfl, hg7, hr7, hbx⟩
     have HG7 := Lib.hid (show BlkR wx3 g7 (.cells (frs 0 1 nb 0).toArray 85) from hr7)
     have HL7 := Lib.hid (Nat.le_trans HN.out.size hg7)
     clear hg7 hr7
     have hzx := hbx.size
     have HN := bwt HN hbx
     have HT1 := Lib.hid (HT1.out.below hbx)
     clear hbx
     go_wp2_with fail
     refine tailL_mk HN.out ?_
     refine tree_one rfl ?_
     go_wp2_with fail
     obtain ⟨X9, hX9, hNX, hx9, l9, hs9, hbx⟩ := xal HN.out (Obj.cells #[.slice none 0 0] 71)
     try simp only [← hX9]
     generalize (wx3.alloc (Obj.cells #[.slice none 0 0] 71)) = wx4 at *
     have HX9 := Lib.hid (And.intro hX9 hs9)
     have HN := bwt HN hbx
     have HT1 := Lib.hid (HT1.out.below hbx)
     have HG7 := Lib.hid (HG7.out.below hbx)
     clear hbx hX9 hs9
     refine tailL_mk HN.out ?_
     refine tree_one rfl ?_
     obtain ⟨c90, f90⟩ := xcf1 hx9
     go_wp2_with fail
     have hq9 := xst1 HN.out hNX hx9 (.slice (some ⟨g7, 0, none⟩) nb nb)
     have HN := Lib.hid hq9.1
     have hxo := hx9
     have hx9 := hq9.2
     clear hq9
     refine tailL_mk HN.out ?_
     refine tree_done ?_
     go_wp2_with fail
     go_meet
     case rel => exact ⟨X9, g7, rfl, Lib.hid hx9, Lib.hid (HG7.out.set hxo (by decide) _ _), HL7, Lib.hid hNX, HN⟩
    ·go_wp2_with fail
     obtain ⟨X9, hX9, hNX, hx9, l9, hs9, hbx⟩ := xal HN.out (Obj.cells #[.slice none 0 0] 71)
     try simp only [← hX9]
     generalize (wx2.alloc (Obj.cells #[.slice none 0 0] 71)) = wx6 at *
     have HX9 := Lib.hid (And.intro hX9 hs9)
     have HN := bwt HN hbx
     have HT1 := Lib.hid (HT1.out.below hbx)
     clear hbx hX9 hs9
     refine tailL_mk HN.out ?_
     refine tree_one rfl ?_
     go_wp2_with fail
     refine (HRP.out _ _ HT1.out).mono ?_
     rintro e11 wx7 ⟨g7, rfl, hg7, hr7, hbx⟩
     have HG7 := Lib.hid (show BlkR wx7 g7 (.cells (frs 0 1 nb 0).toArray 85) from hr7)
     have HL7 := Lib.hid (Nat.le_trans HN.out.size hg7)
     clear hg7 hr7
     have hzx := hbx.size
     have HN := bwt HN hbx
     have HT1 := Lib.hid (HT1.out.below hbx)
     have hx9 := (hbx.block X9 l9).trans hx9
     have l9 := Nat.lt_of_lt_of_le l9 hbx.size
     clear hbx
     go_wp2_with fail
     refine tailL_mk HN.out ?_
     refine tree_one rfl ?_
     obtain ⟨c90, f90⟩ := xcf1 hx9
     go_wp2_with fail
     have hq9 := xst1 HN.out hNX hx9 (.slice (some ⟨g7, 0, none⟩) nb nb)
     have HN := Lib.hid hq9.1
     have hxo := hx9
     have hx9 := hq9.2
     clear hq9
     refine tailL_mk HN.out ?_
     refine tree_done ?_
     go_wp2_with fail
     go_meet
     case rel => exact ⟨X9, g7, rfl, Lib.hid hx9, Lib.hid (HG7.out.set hxo (by decide) _ _), HL7, Lib.hid hNX, HN⟩
   ·go_wp2_with fail
    obtain ⟨X9, hX9, hNX, hx9, l9, hs9, hbx⟩ := xal HN.out (Obj.cells #[.slice none 0 0] 71)
    try simp only [← hX9]
    generalize (wx1.alloc (Obj.cells #[.slice none 0 0] 71)) = wx9 at *
    have HX9 := Lib.hid (And.intro hX9 hs9)
    have HN := bwt HN hbx
    clear hbx hX9 hs9
    refine tailL_mk HN.out ?_
    refine tree_one rfl ?_
    go_wp2_with fail
    obtain ⟨XL, hXL⟩ : ∃ X, X = wx9.heap.size := ⟨_, rfl⟩
    have hxl : (wx9.alloc (Obj.cells #[.int .i64 0, .int .i64 1] 85)).heap[XL]? = some (.cells #[.int .i64 0, .int .i64 1] 85) := by rw [hXL]; exact heap_alloc_new _ _
    have hbx : Below wx9.heap.size wx9 (wx9.alloc (Obj.cells #[.int .i64 0, .int .i64 1] 85)) := by (first|exact bwg|go_size)
    try simp only [← hXL]
    generalize (wx9.alloc (Obj.cells #[.int .i64 0, .int .i64 1] 85)) = wx10 at *
    have HN := bwt HN hbx
    have hx9 := (hbx.block X9 l9).trans hx9
    have l9 := Nat.lt_of_lt_of_le l9 hbx.size
    have HT1 := Lib.hid (show BlkR wx10 XL (.cells #[.int .i64 0, .int .i64 1] 85) from hxl)
    clear hbx hXL hxl
    refine tailL_mk HN.out ?_
    refine tree_one rfl ?_
    go_wp2_with fail
    refine (HRP.out _ _ HT1.out).mono ?_
    rintro e11 wx11 ⟨g7, rfl, hg7, hr7, hbx⟩
    have HG7 := Lib.hid (show BlkR wx11 g7 (.cells (frs 0 1 nb 0).toArray 85) from hr7)
    have HL7 := Lib.hid (Nat.le_trans HN.out.size hg7)
    clear hg7 hr7
    have hzx := hbx.size
    have HN := bwt HN hbx
    have HT1 := Lib.hid (HT1.out.below hbx)
    have hx9 := (hbx.block X9 l9).trans hx9
    have l9 := Nat.lt_of_lt_of_le l9 hbx.size
    clear hbx
    go_wp2_with fail
    refine tailL_mk HN.out ?_
    refine tree_one rfl ?_
    obtain ⟨c90, f90⟩ := xcf1 hx9
    go_wp2_with fail
    have hq9 := xst1 HN.out hNX hx9 (.slice (some ⟨g7, 0, none⟩) nb nb)
    have HN := Lib.hid hq9.1
    have hxo := hx9
    have hx9 := hq9.2
    clear hq9
    refine tailL_mk HN.out ?_
    refine tree_done ?_
    go_wp2_with fail
    go_meet
    case rel => exact ⟨X9, g7, rfl, Lib.hid hx9, Lib.hid (HG7.out.set hxo (by decide) _ _), HL7, Lib.hid hNX, HN⟩
  ·go_wp2_with fail
   obtain ⟨X9, hX9, hNX, hx9, l9, hs9, hbx, hbd⟩ := xald HN.out (Obj.cells #[.slice none 0 0] 71)
   try simp only [← hX9]
   generalize (wa.alloc (Obj.cells #[.slice none 0 0] 71)).drew = wx13 at *
   have HX9 := Lib.hid (And.intro hX9 hs9)
   have HN := Lib.hid hbx
   clear hbx hX9 hs9 hbd
   refine tailL_mk HN.out ?_
   refine tree_one rfl ?_
   go_wp2_with fail
   refine (t_whole_any 0 _).mono ?_
   rintro e11 wx14 ⟨rfl, hbx⟩
   have hzx := hbx.size
   have HN := bwt HN hbx
   have hx9 := (hbx.block X9 l9).trans hx9
   have l9 := Nat.lt_of_lt_of_le l9 hbx.size
   clear hbx
   go_wp2_with fail
   refine tailL_mk HN.out ?_
   refine tree_one rfl ?_
   go_wp2_with fail
   obtain ⟨XL, hXL⟩ : ∃ X, X = wx14.heap.size := ⟨_, rfl⟩
   have hxl : (wx14.alloc (Obj.cells #[.int .i64 0, .int .i64 1] 85)).heap[XL]? = some (.cells #[.int .i64 0, .int .i64 1] 85) := by rw [hXL]; exact heap_alloc_new _ _
   have hbx : Below wx14.heap.size wx14 (wx14.alloc (Obj.cells #[.int .i64 0, .int .i64 1] 85)) := by (first|exact bwg|go_size)
   try simp only [← hXL]
   generalize (wx14.alloc (Obj.cells #[.int .i64 0, .int .i64 1] 85)) = wx15 at *
   have HN := bwt HN hbx
   have hx9 := (hbx.block X9 l9).trans hx9
   have l9 := Nat.lt_of_lt_of_le l9 hbx.size
   have HT1 := Lib.hid (show BlkR wx15 XL (.cells #[.int .i64 0, .int .i64 1] 85) from hxl)
   clear hbx hXL hxl
   refine tailL_mk HN.out ?_
   refine tree_one rfl ?_
   go_wp2_with fail
   refine (HRP.out _ _ HT1.out).mono ?_
   rintro e11 wx16 ⟨g7, rfl, hg7, hr7, hbx⟩
   have HG7 := Lib.hid (show BlkR wx16 g7 (.cells (frs 0 1 nb 0).toArray 85) from hr7)
   have HL7 := Lib.hid (Nat.le_trans HN.out.size hg7)
   clear hg7 hr7
   have hzx := hbx.size
   have HN := bwt HN hbx
   have HT1 := Lib.hid (HT1.out.below hbx)
   have hx9 := (hbx.block X9 l9).trans hx9
   have l9 := Nat.lt_of_lt_of_le l9 hbx.size
   clear hbx
   go_wp2_with fail
   refine tailL_mk HN.out ?_
   refine tree_one rfl ?_
   obtain ⟨c90, f90⟩ := xcf1 hx9
   go_wp2_with fail
   have hq9 := xst1 HN.out hNX hx9 (.slice (some ⟨g7, 0, none⟩) nb nb)
   have HN := Lib.hid hq9.1
   have hxo := hx9
   have hx9 := hq9.2
   clear hq9
   refine tailL_mk HN.out ?_
   refine tree_done ?_
   go_wp2_with fail
   go_meet
   case rel => exact ⟨X9, g7, rfl, Lib.hid hx9, Lib.hid (HG7.out.set hxo (by decide) _ _), HL7, Lib.hid hNX, HN⟩
 case rest =>
  obtain ⟨w1, rfl⟩ : ∃ w', w' = wc := ⟨wc, rfl⟩
  obtain ⟨X7, g7, rfl, HX7, HG7, HL7, HLX, HN⟩ := hcut
  have HK3 := Lib.hid (HK3.out.below HN.out)
  have lx3 := Nat.lt_of_lt_of_le lx3 HN.out.size
  have HBR1 := Lib.hid (HBRa.out.below HN.out)
  have u0 := cell_of_row _ _ 0 _ _ _ (HK3).out
  have u1 := cell_of_row _ _ 1 _ _ _ (HK3).out
  have u2 := cell_of_row _ _ 2 _ _ _ (HK3).out
  have u3 := cell_of_row _ _ 3 _ _ _ (HK3).out
  have u4 := cell_of_row _ _ 4 _ _ _ (HK3).out
  have u5 := cell_of_row _ _ 5 _ _ _ (HK3).out
  have u6 := cell_of_row _ _ 6 _ _ _ (HK3).out
  have u7 := cell_of_row _ _ 7 _ _ _ (HK3).out
  have u8 := cell_of_row _ _ 8 _ _ _ (HK3).out
  simp only [List.getElem?_toArray, List.getElem?_cons_zero, List.getElem?_cons_succ] at u0 u1 u2 u3 u4 u5 u6 u7 u8
  go_wp2_with fail
  refine (HOU.out _ HBR1.out).mono ?_
  rintro e12 w2 ⟨rfl, hb2⟩
  have HX7 := Lib.hid (BlkR.below HX7.out hb2)
  have HG7 := Lib.hid (HG7.out.below hb2)
  have HN := bwt HN hb2
  have HBR1 := Lib.hid (HBR1.out.below hb2)
  have HK3 := Lib.hid (HK3.out.below hb2)
  clear hb2 u0 u1 u2 u3 u4 u5 u6 u7 u8
  go_wp2_with fail
  have hb3 : Below w2.heap.size w2 (w2.alloc (Obj.cells #[.int .i64 VN, .int .i64 VD] 85)) := by (first|exact bwg|go_size)
  have h8 : BlkR (w2.alloc (Obj.cells #[.int .i64 VN, .int .i64 VD] 85)) w2.heap.size (Obj.cells #[.int .i64 VN, .int .i64 VD] 85) := heap_alloc_new _ _
  obtain ⟨X8, hX8⟩ : ∃ X, X = w2.heap.size := ⟨_, rfl⟩
  have l83 : w2.heap.size < (w2.alloc (Obj.cells #[.int .i64 VN, .int .i64 VD] 85)).heap.size := by simp
  simp only [← hX8] at h8 l83 ⊢
  have l78 := HX7.out.lt
  have lg8 := HG7.out.lt
  rw [← hX8] at l78 lg8
  generalize w2.alloc (Obj.cells #[.int .i64 VN, .int .i64 VD] 85) = w3 at *
  refine (t_whole_any load _).mono ?_
  rintro e13 w4 ⟨rfl, hb4⟩
  have hb24 := hb3.trans (hb4.mono hb3.size)
  have HX8 := Lib.hid (h8.below hb4)
  have HX7 := Lib.hid (HX7.out.below hb24)
  have HG7 := Lib.hid (HG7.out.below hb24)
  have HN := bwt HN hb24
  have HBR1 := Lib.hid (HBR1.out.below hb24)
  have HK3 := Lib.hid (HK3.out.below hb24)
  have HLT := Lib.hid (And.intro l78 (And.intro lg8 (Nat.lt_of_lt_of_le l83 hb4.size)))
  clear h8 hb3 hb4 hb24 hX8 l78 lg8 l83
  go_wp2_with fail
  obtain ⟨X9, hX9⟩ : ∃ X, X = w4.heap.size := ⟨_, rfl⟩
  obtain ⟨X10, hX10⟩ : ∃ X, X = w4.heap.size + 1 := ⟨_, rfl⟩
  obtain ⟨w6, hW6⟩ : ∃ w6, w6 = (w4.alloc (Obj.cells #[.int .i64 load, .int .i64 1] 85)).alloc (Obj.cells #[.int .i64 (-1)] 3) := ⟨_, rfl⟩
  rw [← hW6]
  have hb6 : Below w4.heap.size w4 w6 := by rw [hW6]; (first|exact bwg|go_size)
  have k9 : BlkR w6 X9 (.cells #[.int .i64 load, .int .i64 1] 85) := by
   show w6.heap[X9]? = _
   rw [hW6, hX9, Below.heap_alloc _ _ _ (by simp)]; exact heap_alloc_new _ _
  have k10 : BlkR w6 X10 (.cells #[.int .i64 (-1)] 3) := by
   show w6.heap[X10]? = _
   rw [hW6]
   have := heap_alloc_new (w4.alloc (Obj.cells #[.int .i64 load, .int .i64 1] 85)) (Obj.cells #[.int .i64 (-1)] 3)
   rw [World.size_alloc, ← hX10] at this
   exact this
  have hz6 : w6.heap.size = X10 + 1 := by rw [hW6]; simp; omega
  have k7 := HX7.out.below hb6
  have k8 := HX8.out.below hb6
  have kg := HG7.out.below hb6
  have hNa := HN.out.trans (hb6.mono HN.out.size)
  have hBw6 := HBa.out.trans (hNa.mono HBa.out.size)
  have hS6 := (SameCells.refl wa).below hNa
  obtain ⟨l78, lg8, l84⟩ := HLT.out
  have hg7 := HL7.out
  have hx7 := HLX.out
  have hw0 : w.heap.size ≤ wa.heap.size := HBa.out.size
  have hwg : w.heap.size ≤ g7 := Nat.le_trans hw0 hg7
  have hw9 : w.heap.size ≤ X9 := by omega
  have hwt : w.heap.size ≤ X10 := by omega
  have n7g : X7 ≠ g7 := by
   rintro rfl
   have := k7.symm.trans kg
   injection this with this
   injection this with _ this
   exact absurd this (by decide)
  have n7h : wa.heap[g7]? = none := Array.getElem?_eq_none (by omega)
  have n9 : wa.heap[X9]? = none := Array.getElem?_eq_none (by omega)
  have n10 : wa.heap[X10]? = none := Array.getElem?_eq_none (by omega)
  simp only [← hX10]
  simp only [← hX9]
  have x89 : X8 < X9 := by omega
  have x910 : X9 < X10 := by omega
  rw [frs_pcells, ← curL_nil m ⟨vo, lo, hi, ci, br, re⟩ VN VD nb] at kg
  have k9 : BlkR w6 X9 (.cells #[.int .i64 (rstA m ⟨vo, lo, hi, ci, br, re⟩ load VN VD []).1, .int .i64 (rstA m ⟨vo, lo, hi, ci, br, re⟩ load VN VD []).2] 85) := by
   rw [rstA_nil HVV.out.1]; exact k9
  have k10 : BlkR w6 X10 (.cells #[.int .i64 (dirD m [])] 3) := k10
  clear hW6 hX9 hX10 HX7 HX8 HG7 HN HBR1 HLT l84 HL7 HLX hNa
  refine (wpIn_wide (n := 3)).1 ?_
  refine range_two (gf := 99) (fst := #[.int .i64 (s : Int)]) (lst := #[]) rfl cf_all ?_
  intro rec hst hpe hpa htm has hbo
  have hL1 : ((w6.alloc (.deferred (some []))).alloc (.loop rec)).heap[w6.heap.size + 1]? = some (.loop rec) := by
   have := World.alloc_heap_new (w6.alloc (.deferred (some []))) (.loop rec); rwa [World.size_alloc] at this
  have hK1 : ((w6.alloc (.deferred (some []))).alloc (.loop rec)).heap[w6.heap.size]? = some (.deferred (some [])) := (Below.heap_alloc _ _ _ (by simp)).trans (World.alloc_heap_new w6 _)
  have hb9 : Below w6.heap.size w6 ((w6.alloc (.deferred (some []))).alloc (.loop rec)) := by (first|exact bwg|go_size)
  have hz9 : ((w6.alloc (.deferred (some []))).alloc (.loop rec)).heap.size = w6.heap.size + 2 := by simp
  generalize (w6.alloc (.deferred (some []))).alloc (.loop rec) = w9 at *
  obtain ⟨lr, hlr⟩ : ∃ lr, lr = w6.heap.size + 1 := ⟨_, rfl⟩
  obtain ⟨D, hD⟩ : ∃ D, D = w6.heap.size := ⟨_, rfl⟩
  rw [← hlr] at hL1
  rw [← hD] at hK1
  simp only [← hlr]
  simp only [← hD]
  have x10D : X10 < D := by omega
  have dl : D < lr := by omega
  have hwD : w.heap.size ≤ D := by omega
  have hl9 : w9.heap.size = lr + 1 := by omega
  have hI9 : RInv lr D rec w wa w9 := ⟨hL1, hK1, hS6.below hb9, Nat.le_trans (by omega) hb9.size, hBw6.trans (hb9.mono hBw6.size)⟩
  have k7 := k7.below hb9
  have k8 := k8.below hb9
  have kg := kg.below hb9
  have k9 := k9.below hb9
  have k10 := k10.below hb9
  clear hL1 hK1 hb9 hlr hD hS6 hz9 hb6 hz6 hBw6
  show CallsIn Fence.wide _ _ _ #[.int .i64 (s : Int), .func (.yield lr) #[] #[]] _ _
  refine (callsIn_wide.2 (all_calls s lr
   (fun L B => RInv lr D rec w wa B ∧ BlkR B X7 (.cells #[.slice (some ⟨g7, 0, none⟩) nb nb] 71) ∧ BlkR B X8 (.cells #[.int .i64 VN, .int .i64 VD] 85) ∧ BlkR B g7 (.cells (pcells (curL m ⟨vo, lo, hi, ci, br, re⟩ VN VD nb L)).toArray 85) ∧ BlkR B X9 (.cells #[.int .i64 (rstA m ⟨vo, lo, hi, ci, br, re⟩ load VN VD L).1, .int .i64 (rstA m ⟨vo, lo, hi, ci, br, re⟩ load VN VD L).2] 85) ∧ BlkR B X10 (.cells #[.int .i64 (dirD m L)] 3))
   (fun _ => False) w9 hs64 ?_ ⟨hI9, k7, k8, kg, k9, k10⟩)).mono ?_
  ·rintro i A h6i hmb ⟨h1, h7, h8, hg, h9, h10⟩
   have hin := HBT.out i h6i hmb
   obtain ⟨⟨t0, t1⟩, r0, r1⟩ := HBV.out i hin
   refine yield_two h1.1 hst hpe (by rw [hpa]; rfl) ?_
   obtain ⟨RB, hRB⟩ : ∃ RB : Loop, RB = { rec with state := .busy } := ⟨_, rfl⟩
   rw [← hRB]
   have HRB := Lib.hid hRB
   clear hRB
   rw [has, hbo, hpa, htm]
   clear has hbo hpa htm hst hpe k7 k8 kg k9 k10
   gi_wp2
   have hjl := h1.1
   have hI := h1
   refine ⟨hjl, ?_⟩
   have hB1 : SameCells wa (A.putObj lr (.loop RB)) := hI.2.2.1.put hjl
   have hB2 : wa.heap.size ≤ (A.putObj lr (.loop RB)).heap.size := by rw [World.putObj_size]; exact hI.2.2.2.1
   have hB3 : Below w.heap.size w (A.putObj lr (.loop RB)) := hI.2.2.2.2.trans (belowK_b (w := w) (Nat.le_refl _) A lr _ _ (by omega) hjl rfl rfl)
   have hB4 : BlkR (A.putObj lr (.loop RB)) lr (.loop RB) := World.putObj_heap_same (Array.getElem?_eq_some_iff.1 hjl).1
   have hB5 : BlkR (A.putObj lr (.loop RB)) D (.deferred (some [])) := (World.putObj_heap_other (by omega)).trans hI.2.1
   have e7 : BlkR (A.putObj lr (.loop RB)) X7 _ := (World.putObj_heap_other (show X7 ≠ lr by omega)).trans h7
   have e8 : BlkR (A.putObj lr (.loop RB)) X8 _ := (World.putObj_heap_other (show X8 ≠ lr by omega)).trans h8
   have eg : BlkR (A.putObj lr (.loop RB)) g7 _ := (World.putObj_heap_other (show g7 ≠ lr by omega)).trans hg
   have e9 : BlkR (A.putObj lr (.loop RB)) X9 _ := (World.putObj_heap_other (show X9 ≠ lr by omega)).trans h9
   have e10 : BlkR (A.putObj lr (.loop RB)) X10 _ := (World.putObj_heap_other (show X10 ≠ lr by omega)).trans h10
   generalize A.putObj lr (.loop RB) = A1 at *
   clear hI hjl h1 h7 h8 hg h9 h10
   have kx := hB1 _ _ _ _ HK3a.out
   have HKX := Lib.hid kx
   have u0 := cell_of_row _ _ 0 _ _ _ (HKX).out
   have u1 := cell_of_row _ _ 1 _ _ _ (HKX).out
   have u2 := cell_of_row _ _ 2 _ _ _ (HKX).out
   have u3 := cell_of_row _ _ 3 _ _ _ (HKX).out
   have u4 := cell_of_row _ _ 4 _ _ _ (HKX).out
   have u5 := cell_of_row _ _ 5 _ _ _ (HKX).out
   have u6 := cell_of_row _ _ 6 _ _ _ (HKX).out
   have u7 := cell_of_row _ _ 7 _ _ _ (HKX).out
   have u8 := cell_of_row _ _ 8 _ _ _ (HKX).out
   simp only [List.getElem?_toArray, List.getElem?_cons_zero, List.getElem?_cons_succ] at u0 u1 u2 u3 u4 u5 u6 u7 u8
   have lx3 : X3 < A1.heap.size := (Array.getElem?_eq_some_iff.1 kx).1
   have hBR1 : BrR A1 ab nb m.br := ER.same HBRa.out hB1 hB2
   have HV1 := Lib.hid (fun (W : World) (hb : Below A1.heap.size A1 W) => HVO.out i hin W (hBR1.below hb))
   obtain ⟨bb, ob, rfl, hbb, hcc⟩ := BrR.addr hBR1 (by omega)
   obtain ⟨c0, c1⟩ := hcc i hin
   have y7 := cell_of_row _ _ 0 _ _ _ e7
   have y8 := cell_of_row _ _ 0 _ _ _ e8
   have y8' := cell_of_row _ _ 1 _ _ _ e8
   have y9 := cell_of_row _ _ 0 _ _ _ e9
   have y9' := cell_of_row _ _ 1 _ _ _ e9
   have y10 := cell_of_row _ _ 0 _ _ _ e10
   have f10 := frozen_of_row _ _ 0 _ _ e10
   simp only [List.getElem?_toArray, List.getElem?_cons_zero, List.getElem?_cons_succ] at y7 y8 y8' y9 y9' y10
   have l7 := e7.lt
   have l8 := e8.lt
   have lg := eg.lt
   have l9 := e9.lt
   have l10 := e10.lt
   have llr := hB4.lt
   have i0 : (0 : Int) ≤ (i : Int) := by omega
   have i1 : (i : Int) < (nb : Int) := by omega
   have HRZ := Lib.hid (fun (h : isRes m i = true) => rstZ_snoc m ⟨vo, lo, hi, ci, br, re⟩ load VN VD (cloU s i) i)
   have HDS := Lib.hid (dirD_snoc m (cloU s i) i)
   have HIR := Lib.hid (show isRes m i = ((bAt m.br i).res == 0) from rfl)
   have hnrm : ∀ (ac : Act) (W8 : World), W8.heap[lr]? = some (.loop RB) → W8.heap[D]? = some (.deferred (some [])) → SameCells wa W8 → wa.heap.size ≤ W8.heap.size → Below w.heap.size w W8 →
       BlkR W8 X7 (.cells #[.slice (some ⟨g7, 0, none⟩) nb nb] 71) → BlkR W8 X8 (.cells #[.int .i64 VN, .int .i64 VD] 85) → BlkR W8 g7 (.cells (pcells (curL m ⟨vo, lo, hi, ci, br, re⟩ VN VD nb (cloU s i ++ [i]))).toArray 85) → BlkR W8 X9 (.cells #[.int .i64 (rstA m ⟨vo, lo, hi, ci, br, re⟩ load VN VD (cloU s i ++ [i])).1, .int .i64 (rstA m ⟨vo, lo, hi, ci, br, re⟩ load VN VD (cloU s i ++ [i])).2] 85) → BlkR W8 X10 (.cells #[.int .i64 (dirD m (cloU s i ++ [i]))] 3) →
       twoPost Tryz.prog lr rec (fun e B => (e = .returned (.bool true) ∧ (RInv lr D rec w wa B ∧ BlkR B X7 (.cells #[.slice (some ⟨g7, 0, none⟩) nb nb] 71) ∧ BlkR B X8 (.cells #[.int .i64 VN, .int .i64 VD] 85) ∧ BlkR B g7 (.cells (pcells (curL m ⟨vo, lo, hi, ci, br, re⟩ VN VD nb (cloU s i ++ [i]))).toArray 85) ∧ BlkR B X9 (.cells #[.int .i64 (rstA m ⟨vo, lo, hi, ci, br, re⟩ load VN VD (cloU s i ++ [i])).1, .int .i64 (rstA m ⟨vo, lo, hi, ci, br, re⟩ load VN VD (cloU s i ++ [i])).2] 85) ∧ BlkR B X10 (.cells #[.int .i64 (dirD m (cloU s i ++ [i]))] 3))) ∨ (e = .returned (.bool false) ∧ False)) .normal ac W8 := by
    rintro ac W8 p4 p5 p1 p2 p3 p7 p8 pg p9 p10
    exact ⟨by rw [← HRB.out]; exact p4, .inl ⟨rfl, RInv.ready (A1 := A1) p1 p2 p3 p4 p5 (by omega), (World.putObj_heap_other (show X7 ≠ lr by omega)).trans p7, (World.putObj_heap_other (show X8 ≠ lr by omega)).trans p8, (World.putObj_heap_other (show g7 ≠ lr by omega)).trans pg, (World.putObj_heap_other (show X9 ≠ lr by omega)).trans p9, (World.putObj_heap_other (show X10 ≠ lr by omega)).trans p10⟩⟩
   have HNRM := Lib.hid hnrm
   clear hnrm
   have HF := Lib.hid (And.intro hB1 (And.intro hB2 (And.intro hB3 (And.intro hB4 (And.intro hB5 (And.intro e7 (And.intro e8 (And.intro eg (And.intro e9 e10)))))))))
   have HCO := Lib.hid (fun (h : 0 < (bAt m.br i).res) => cur_over (m := m) (l := ⟨vo, lo, hi, ci, br, re⟩) (N := VN) (D := VD) (k := i) HVV.out.1 h)
   have HCR := Lib.hid (fun (h : 1 ≤ (bAt m.br i).res) (h1 : isRes m i = false) => cur_rest (m := m) (l := ⟨vo, lo, hi, ci, br, re⟩) (load := load) (N := VN) (D := VD) (L := cloU s i) (k := i) HVV.out.1 h r1 h1)
   have HCS := Lib.hid (fun (h : isRes m i = false) => curL_set (m := m) ⟨vo, lo, hi, ci, br, re⟩ VN VD nb (cloU s i) h)
   have HCN := Lib.hid (fun (h : isRes m i = true) => curL_res (m := m) ⟨vo, lo, hi, ci, br, re⟩ VN VD nb (cloU s i) h)
   have HC1 := Lib.hid (HCB.out i hin)
   generalize (bAt m.br i).res = rr at *
   clear hB1 hB2 hB3 hB4 hB5 e7 e8 eg e9 e10 kx hcc hBR1
   by_cases hr : rr = 0
   ·subst hr
    gi_wp2
    obtain ⟨b1, b2, b3, b4, b5, b7, b8, bg, b9, b10⟩ := HF.out
    have hirt : isRes m i = true := by rw [HIR.out]; rfl
    refine HNRM.out _ _ ((heap_set_neI (show lr ≠ X10 by omega)).trans b4) ((heap_set_neI (show D ≠ X10 by omega)).trans b5) (b1.setI n10) (by rw [World.size_setCell]; exact b2) (b3.setCell hwt _) ?_ ?_ ?_ ?_ ?_
    ·exact (heap_set_neI (show X7 ≠ X10 by omega)).trans b7
    ·exact (heap_set_neI (show X8 ≠ X10 by omega)).trans b8
    ·rw [HCN.out hirt]; exact (heap_set_neI (show g7 ≠ X10 by omega)).trans bg
    ·have e : rstA m ⟨vo, lo, hi, ci, br, re⟩ load VN VD (cloU s i ++ [i]) = rstA m ⟨vo, lo, hi, ci, br, re⟩ load VN VD (cloU s i) := by unfold rstA; rw [HRZ.out hirt, hirt]; rfl
     rw [e]; exact (heap_set_neI (show X9 ≠ X10 by omega)).trans b9
    ·rw [HDS.out, hirt]; exact blk_set b10 0 _
   ·have hr0 : (rr == 0) = false := by simpa using hr
    gi_wp2
    obtain ⟨o0, o1, o2⟩ := HOB.out i hin
    obtain ⟨OV, hOV⟩ : ∃ OV, OV = low (volA m ⟨vo, lo, hi, ci, br, re⟩ i * VD - VN * 1) (1 * VD) := ⟨_, rfl⟩
    have HMI := Lib.hid (fun (W : World) => t_minus_any (volA m ⟨vo, lo, hi, ci, br, re⟩ i) 1 VN VD W (by omega) (by have := HVV.out; unfold VoB at this; omega) (by rw [Int.one_mul]; exact HVV.out.1) (by have := HVV.out; unfold VoB at this; omega))
    rw [← hOV] at HMI
    have HOV := Lib.hid hOV
    clear hOV o0 o1 o2
    gi_cut [13] from 900 (fun v13 wx => ∃ X13 : Nat, v13 = .pointer (some ⟨X13, 0, none⟩) ∧ Hid (BlkR wx X13 (.cells #[.int .i64 (OV).1, .int .i64 (OV).2] 85)) ∧ Hid (A1.heap.size ≤ X13) ∧ Hid (Below A1.heap.size A1 wx))
    case first =>
     have HN := Lib.hid (Below.refl A1.heap.size A1).drew
     refine round_laterT (B := A1.heap.size) (.head 0 (.head 1 (.head 4 (.two 2 (.two 3 (.two 5 (.one 6 (.one 7 .done)) 6 (.one 5 (.one 7 .done))) 6 (.one 3 (.one 5 (.one 7 .done)))) 6 (.one 2 (.one 3 (.one 5 (.one 7 .done)))))))) (by kernel_rfl) rfl (by repeat (first | exact not_out_two | refine not_out_then ?_ | refine not_out_block ?_)) (by kernel_rfl) ?_
     repeat (refine tree_head rfl ?_; (show wpQuiet _ _ _ _ (_ :: _) _; go_big_quiet_step (fail)); refine wpQuiet_nil ?_)
     refine tree_two rfl rfl ?_ ?_
     ·go_wp2_with fail
      refine (HV1.out _ HN.out).mono ?_
      rintro e11 wx1 ⟨rfl, hbx⟩
      have hzx := hbx.size
      have HN := bwt HN hbx
      clear hbx
      go_wp2_with fail
      refine tailL_mk HN.out ?_
      refine tree_two rfl rfl ?_ ?_
      ·go_wp2_with fail
       refine (t_whole_any _ _).mono ?_
       rintro e11 wx2 ⟨rfl, hbx⟩
       have hzx := hbx.size
       have HN := bwt HN hbx
       clear hbx
       go_wp2_with fail
       refine tailL_mk HN.out ?_
       refine tree_two rfl rfl ?_ ?_
       ·go_wp2_with fail
        refine (HMI.out _).mono ?_
        rintro e11 wx3 ⟨rfl, hbx⟩
        have hzx := hbx.size
        have HN := bwt HN hbx
        clear hbx
        go_wp2_with fail
        refine tailL_mk HN.out ?_
        refine tree_one rfl ?_
        go_wp2_with fail
        obtain ⟨X9, hX9, hNX, hx9, l9, hs9, hbx⟩ := xal HN.out (Obj.cells #[.int .i64 0, .int .i64 0] 85)
        try simp only [← hX9]
        generalize (wx3.alloc (Obj.cells #[.int .i64 0, .int .i64 0] 85)) = wx4 at *
        have HX9 := Lib.hid (And.intro hX9 hs9)
        have HN := bwt HN hbx
        clear hbx hX9 hs9
        refine tailL_mk HN.out ?_
        refine tree_one rfl ?_
        obtain ⟨c90, c91, f90, f91⟩ := xcf2 hx9
        go_wp2_with fail
        have hq9 := xst2 HN.out hNX hx9 (.int .i64 (OV).1) (.int .i64 (OV).2)
        have HN := Lib.hid hq9.1
        have hxo := hx9
        have hx9 := hq9.2
        clear hq9
        refine tailL_mk HN.out ?_
        refine tree_done ?_
        try gi_wp2_with fail
        gi_meet
        case rel => exact ⟨X9, rfl, Lib.hid hx9, Lib.hid hNX, HN⟩
       ·go_wp2_with fail
        obtain ⟨X9, hX9, hNX, hx9, l9, hs9, hbx⟩ := xal HN.out (Obj.cells #[.int .i64 0, .int .i64 0] 85)
        try simp only [← hX9]
        generalize (wx2.alloc (Obj.cells #[.int .i64 0, .int .i64 0] 85)) = wx6 at *
        have HX9 := Lib.hid (And.intro hX9 hs9)
        have HN := bwt HN hbx
        clear hbx hX9 hs9
        refine tailL_mk HN.out ?_
        refine tree_one rfl ?_
        go_wp2_with fail
        refine (HMI.out _).mono ?_
        rintro e11 wx7 ⟨rfl, hbx⟩
        have hzx := hbx.size
        have HN := bwt HN hbx
        have hx9 := (hbx.block X9 l9).trans hx9
        have l9 := Nat.lt_of_lt_of_le l9 hbx.size
        clear hbx
        go_wp2_with fail
        refine tailL_mk HN.out ?_
        refine tree_one rfl ?_
        obtain ⟨c90, c91, f90, f91⟩ := xcf2 hx9
        go_wp2_with fail
        have hq9 := xst2 HN.out hNX hx9 (.int .i64 (OV).1) (.int .i64 (OV).2)
        have HN := Lib.hid hq9.1
        have hxo := hx9
        have hx9 := hq9.2
        clear hq9
        refine tailL_mk HN.out ?_
        refine tree_done ?_
        try gi_wp2_with fail
        gi_meet
        case rel => exact ⟨X9, rfl, Lib.hid hx9, Lib.hid hNX, HN⟩
      ·go_wp2_with fail
       obtain ⟨X9, hX9, hNX, hx9, l9, hs9, hbx⟩ := xal HN.out (Obj.cells #[.int .i64 0, .int .i64 0] 85)
       try simp only [← hX9]
       generalize (wx1.alloc (Obj.cells #[.int .i64 0, .int .i64 0] 85)) = wx9 at *
       have HX9 := Lib.hid (And.intro hX9 hs9)
       have HN := bwt HN hbx
       clear hbx hX9 hs9
       refine tailL_mk HN.out ?_
       refine tree_one rfl ?_
       go_wp2_with fail
       refine (t_whole_any _ _).mono ?_
       rintro e11 wx10 ⟨rfl, hbx⟩
       have hzx := hbx.size
       have HN := bwt HN hbx
       have hx9 := (hbx.block X9 l9).trans hx9
       have l9 := Nat.lt_of_lt_of_le l9 hbx.size
       clear hbx
       go_wp2_with fail
       refine tailL_mk HN.out ?_
       refine tree_one rfl ?_
       go_wp2_with fail
       refine (HMI.out _).mono ?_
       rintro e11 wx11 ⟨rfl, hbx⟩
       have hzx := hbx.size
       have HN := bwt HN hbx
       have hx9 := (hbx.block X9 l9).trans hx9
       have l9 := Nat.lt_of_lt_of_le l9 hbx.size
       clear hbx
       go_wp2_with fail
       refine tailL_mk HN.out ?_
       refine tree_one rfl ?_
       obtain ⟨c90, c91, f90, f91⟩ := xcf2 hx9
       go_wp2_with fail
       have hq9 := xst2 HN.out hNX hx9 (.int .i64 (OV).1) (.int .i64 (OV).2)
       have HN := Lib.hid hq9.1
       have hxo := hx9
       have hx9 := hq9.2
       clear hq9
       refine tailL_mk HN.out ?_
       refine tree_done ?_
       try gi_wp2_with fail
       gi_meet
       case rel => exact ⟨X9, rfl, Lib.hid hx9, Lib.hid hNX, HN⟩
     ·go_wp2_with fail
      obtain ⟨X9, hX9, hNX, hx9, l9, hs9, hbx, hbd⟩ := xald HN.out (Obj.cells #[.int .i64 0, .int .i64 0] 85)
      try simp only [← hX9]
      generalize (A1.alloc (Obj.cells #[.int .i64 0, .int .i64 0] 85)).drew = wx13 at *
      have HX9 := Lib.hid (And.intro hX9 hs9)
      have HN := Lib.hid hbx
      clear hbx hX9 hs9 hbd
      refine tailL_mk HN.out ?_
      refine tree_one rfl ?_
      go_wp2_with fail
      refine (HV1.out _ HN.out).mono ?_
      rintro e11 wx14 ⟨rfl, hbx⟩
      have hzx := hbx.size
      have HN := bwt HN hbx
      have hx9 := (hbx.block X9 l9).trans hx9
      have l9 := Nat.lt_of_lt_of_le l9 hbx.size
      clear hbx
      go_wp2_with fail
      refine tailL_mk HN.out ?_
      refine tree_one rfl ?_
      go_wp2_with fail
      refine (t_whole_any _ _).mono ?_
      rintro e11 wx15 ⟨rfl, hbx⟩
      have hzx := hbx.size
      have HN := bwt HN hbx
      have hx9 := (hbx.block X9 l9).trans hx9
      have l9 := Nat.lt_of_lt_of_le l9 hbx.size
      clear hbx
      go_wp2_with fail
      refine tailL_mk HN.out ?_
      refine tree_one rfl ?_
      go_wp2_with fail
      refine (HMI.out _).mono ?_
      rintro e11 wx16 ⟨rfl, hbx⟩
      have hzx := hbx.size
      have HN := bwt HN hbx
      have hx9 := (hbx.block X9 l9).trans hx9
      have l9 := Nat.lt_of_lt_of_le l9 hbx.size
      clear hbx
      go_wp2_with fail
      refine tailL_mk HN.out ?_
      refine tree_one rfl ?_
      obtain ⟨c90, c91, f90, f91⟩ := xcf2 hx9
      go_wp2_with fail
      have hq9 := xst2 HN.out hNX hx9 (.int .i64 (OV).1) (.int .i64 (OV).2)
      have HN := Lib.hid hq9.1
      have hxo := hx9
      have hx9 := hq9.2
      clear hq9
      refine tailL_mk HN.out ?_
      refine tree_done ?_
      try gi_wp2_with fail
      gi_meet
      case rel => exact ⟨X9, rfl, Lib.hid hx9, Lib.hid hNX, HN⟩
    case rest =>
     obtain ⟨w13, rfl⟩ : ∃ w', w' = wc := ⟨wc, rfl⟩
     obtain ⟨X13, rfl, H13, hx13, hN⟩ := hcut
     obtain ⟨hB1, hB2, hB3, hB4, hB5, e7, e8, eg, e9, e10⟩ := HF.out
     have hb := hN.out
     have hR0 := HRS.out i (by omega)
     have hC0 := HC1.out (by omega) r1
     have HG := Lib.hid (And.intro (hB1.below hb) (And.intro (Nat.le_trans hB2 hb.size) (And.intro (hB3.trans (hb.mono hB3.size)) (And.intro (hB4.below hb) (And.intro (hB5.below hb) (And.intro (e7.below hb) (And.intro (e8.below hb) (And.intro (eg.below hb) (And.intro (e9.below hb) (e10.below hb))))))))))
     obtain ⟨CU, hCU⟩ : ∃ CU, CU = curA m ⟨vo, lo, hi, ci, br, re⟩ VN VD i := ⟨_, rfl⟩
     have hOV2 : OV.1.natAbs ≤ 400000000 ∧ 0 < OV.2 ∧ OV.2 ≤ 15120 := by
      have h := HVV.out
      obtain ⟨o, _⟩ := HOB.out i hin
      unfold VoB at h
      unfold ovr at o
      rw [HOV.out, Int.mul_one, Int.one_mul]
      obtain ⟨_, p, q, r⟩ := low_props (a := volA m ⟨vo, lo, hi, ci, br, re⟩ i * VD - VN) h.1
      omega
     have hlw : low OV.1 (OV.2 * rr) = CU := by rw [HOV.out, hCU]; exact HCO.out (by omega)
     have hm1 : 0 < OV.2 * rr := Int.mul_pos hOV2.2.1 (by omega)
     have hm2 : OV.2 * rr ≤ 15120 * 10 := Int.mul_le_mul hOV2.2.2 r1 (by omega) (by decide)
     have HLW := Lib.hid (fun (W : World) => t_low_any OV.1 (OV.2 * rr) W (by omega) (by omega) hm1 (by omega))
     rw [hlw] at HLW
     have w1 : IntKind.i64.wrap (OV.2 * rr) = OV.2 * rr := by rw [IntKind.wrap_i64]; omega
     have HCC := Lib.hid hCU
     rw [← hCU] at hC0
     have HC0 := Lib.hid hC0
     have HR0 := Lib.hid hR0
     obtain ⟨o1, o2⟩ := OV
     obtain ⟨q1, q2⟩ := CU
     have z7 := cell_of_row _ _ 0 _ _ _ (e7.below hb)
     have z13 := cell_of_row _ _ 0 _ _ _ H13.out
     have z13' := cell_of_row _ _ 1 _ _ _ H13.out
     simp only [List.getElem?_toArray, List.getElem?_cons_zero, List.getElem?_cons_succ] at z7 z13 z13'
     have l7 := (e7.below hb).lt
     have lg := (eg.below hb).lt
     have l13 := H13.out.lt
     have l9 := (e9.below hb).lt
     simp only at HLW w1
     clear hB1 hB2 hB3 hB4 hB5 e7 e8 eg e9 e10 hb u0 u1 u2 u3 u4 u5 u6 u7 u8 y7 y8 y8' y9 y9' y10 f10 hOV2 hlw hm1 hm2 hCU hC0 hR0 HV1 HMI HF
     gi_wp2
     refine round_later_tail 10 (by kernel_rfl) rfl (by repeat (first | exact not_out_two | refine not_out_then ?_ | refine not_out_block ?_)) (by kernel_rfl) ?_; simp only [List.take_succ_cons, List.take_zero, List.drop_succ_cons, List.drop_zero]; repeat go_big_quiet_step (first | (with_reducible exact calls_later (HLW.out _)))
     refine wpQuiet_nil ?_; intro w15 hb15
     obtain ⟨hB1, hB2, hB3, hB4, hB5, e7, e8, eg, e9, e10⟩ := HG.out
     have HG := Lib.hid (And.intro (hB1.below hb15) (And.intro (Nat.le_trans hB2 hb15.size) (And.intro (hB3.trans (hb15.mono hB3.size)) (And.intro (hB4.below hb15) (And.intro (hB5.below hb15) (And.intro (e7.below hb15) (And.intro (e8.below hb15) (And.intro (eg.below hb15) (And.intro (e9.below hb15) (e10.below hb15))))))))))
     have eg' := eg.below hb15
     obtain ⟨pg0, pg1⟩ := pcells_get (curL m ⟨vo, lo, hi, ci, br, re⟩ VN VD nb (cloU s i)) i (by rw [curL_len]; exact hin)
     have cg0 := cell_of_row _ _ (i * 2) _ _ _ eg'
     have cg1 := cell_of_row _ _ (i * 2 + 1) _ _ _ eg'
     rw [List.getElem?_toArray] at cg0 cg1
     rw [pg0] at cg0
     rw [pg1] at cg1
     have fg0 := frozen_of_row _ _ (i * 2) _ _ eg'
     have fg1 := frozen_of_row _ _ (i * 2 + 1) _ _ eg'
     have lg' := eg'.lt
     clear hB1 hB2 hB3 hB4 hB5 e7 e8 eg e9 e10 eg' pg0 pg1 hb15
     go_wp2_with fail
     gi_wp2
     obtain ⟨hB1, hB2, hB3, hB4, hB5, e7, e8, eg, e9, e10⟩ := HG.out
     obtain ⟨A2, hA2⟩ : ∃ A2, A2 = (w15.setCell ⟨g7, i * 2, none⟩ (.int .i64 q1)).setCell ⟨g7, i * 2 + 1, none⟩ (.int .i64 q2) := ⟨_, rfl⟩
     rw [← hA2]
     have hirf : isRes m i = false := by rw [HIR.out]; exact hr0
     have b1 : SameCells wa A2 := by rw [hA2]; exact (hB1.setI n7h).setI n7h
     have b2 : wa.heap.size ≤ A2.heap.size := by rw [hA2, World.size_setCell, World.size_setCell]; exact hB2
     have b3 : Below w.heap.size w A2 := by rw [hA2]; exact (hB3.setCell hwg _).setCell hwg _
     have b4 : BlkR A2 lr (.loop RB) := by rw [hA2]; exact (heap_set_neI (show lr ≠ g7 by omega)).trans ((heap_set_neI (show lr ≠ g7 by omega)).trans hB4)
     have b5 : BlkR A2 D (.deferred (some [])) := by rw [hA2]; exact (heap_set_neI (show D ≠ g7 by omega)).trans ((heap_set_neI (show D ≠ g7 by omega)).trans hB5)
     have b7 : BlkR A2 X7 (.cells #[.slice (some ⟨g7, 0, none⟩) nb nb] 71) := by rw [hA2]; exact (heap_set_neI n7g).trans ((heap_set_neI n7g).trans e7)
     have b8 : BlkR A2 X8 (.cells #[.int .i64 VN, .int .i64 VD] 85) := by rw [hA2]; exact (heap_set_neI (show X8 ≠ g7 by omega)).trans ((heap_set_neI (show X8 ≠ g7 by omega)).trans e8)
     have bg : BlkR A2 g7 (.cells (pcells (curL m ⟨vo, lo, hi, ci, br, re⟩ VN VD nb (cloU s i ++ [i]))).toArray 85) := by
      rw [hA2, HCS.out hirf, ← HCC.out]
      exact blk_pset eg i (q1, q2)
     have b9 : BlkR A2 X9 (.cells #[.int .i64 (rstA m ⟨vo, lo, hi, ci, br, re⟩ load VN VD (cloU s i)).1, .int .i64 (rstA m ⟨vo, lo, hi, ci, br, re⟩ load VN VD (cloU s i)).2] 85) := by rw [hA2]; exact (heap_set_neI (show X9 ≠ g7 by omega)).trans ((heap_set_neI (show X9 ≠ g7 by omega)).trans e9)
     have b10 : BlkR A2 X10 (.cells #[.int .i64 (dirD m (cloU s i))] 3) := by rw [hA2]; exact (heap_set_neI (show X10 ≠ g7 by omega)).trans ((heap_set_neI (show X10 ≠ g7 by omega)).trans e10)
     have hcr := HCR.out (by omega) hirf
     rw [← HCC.out] at hcr
     have hcs := cur_safe HR0.out.1 ⟨HR0.out.2.1, HR0.out.2.2⟩ HC0.out.1 ⟨HC0.out.2.1, HC0.out.2.2⟩
     have HM2 := Lib.hid (fun (W : World) => t_minus_any (rstA m ⟨vo, lo, hi, ci, br, re⟩ load VN VD (cloU s i)).1 (rstA m ⟨vo, lo, hi, ci, br, re⟩ load VN VD (cloU s i)).2 q1 q2 W hcs.1 hcs.2.1 hcs.2.2.1 hcs.2.2.2)
     rw [hcr] at HM2
     have HG := Lib.hid (And.intro b1 (And.intro b2 (And.intro b3 (And.intro b4 (And.intro b5 (And.intro b7 (And.intro b8 (And.intro bg (And.intro b9 b10)))))))))
     have z9 := cell_of_row _ _ 0 _ _ _ b9
     have z9' := cell_of_row _ _ 1 _ _ _ b9
     have g9 := frozen_of_row _ _ 0 _ _ b9
     have g9' := frozen_of_row _ _ 1 _ _ b9
     have z7 := cell_of_row _ _ 0 _ _ _ b7
     have zg := cell_of_row _ _ (i * 2) _ _ _ bg
     have zg' := cell_of_row _ _ (i * 2 + 1) _ _ _ bg
     simp only [List.getElem?_toArray, List.getElem?_cons_zero, List.getElem?_cons_succ] at z7 z9 z9'
     have lq9 := b9.lt
     have lqg := bg.lt
     have lq7 := b7.lt
     obtain ⟨pg0, pg1⟩ := pcells_get (curL m ⟨vo, lo, hi, ci, br, re⟩ VN VD nb (cloU s i ++ [i])) i (by rw [curL_len]; exact hin)
     have hgd : (curL m ⟨vo, lo, hi, ci, br, re⟩ VN VD nb (cloU s i ++ [i])).getD i (0, 0) = (q1, q2) := by
      rw [HCS.out hirf, ← HCC.out, List.getD_eq_getElem?_getD, List.getElem?_set]
      simp [curL_len, hin]
     rw [hgd] at pg0 pg1
     rw [List.getElem?_toArray, pg0] at zg
     rw [List.getElem?_toArray, pg1] at zg'
     clear hB1 hB2 hB3 hB4 hB5 e7 e8 eg e9 e10 hA2 b1 b2 b3 b4 b5 b7 b8 bg b9 b10 cg0 cg1 fg0 fg1 lg' pg0 pg1 hgd hcr hcs z13 z13' w1
     refine round_later_tail 6 (by kernel_rfl) rfl (by repeat (first | exact not_out_two | refine not_out_then ?_ | refine not_out_block ?_)) (by kernel_rfl) ?_; simp only [List.take_succ_cons, List.take_zero, List.drop_succ_cons, List.drop_zero]; repeat go_big_quiet_step (first | (with_reducible exact calls_later (HM2.out _)))
     refine wpQuiet_nil ?_; intro w16 hb16
     obtain ⟨b1, b2, b3, b4, b5, b7, b8, bg, b9, b10⟩ := HG.out
     have HG := Lib.hid (And.intro (b1.below hb16) (And.intro (Nat.le_trans b2 hb16.size) (And.intro (b3.trans (hb16.mono b3.size)) (And.intro (b4.below hb16) (And.intro (b5.below hb16) (And.intro (b7.below hb16) (And.intro (b8.below hb16) (And.intro (bg.below hb16) (And.intro (b9.below hb16) (b10.below hb16))))))))))
     have g9 := frozen_of_row _ _ 0 _ _ (b9.below hb16)
     have g9' := frozen_of_row _ _ 1 _ _ (b9.below hb16)
     have z9 := cell_of_row _ _ 0 _ _ _ (b9.below hb16)
     have z9' := cell_of_row _ _ 1 _ _ _ (b9.below hb16)
     simp only [List.getElem?_toArray, List.getElem?_cons_zero, List.getElem?_cons_succ] at z9 z9'
     have lq9 := (b9.below hb16).lt
     clear b1 b2 b3 b4 b5 b7 b8 bg b9 b10 hb16 z7 zg zg'
     go_wp2_with fail
     gi_wp2
     obtain ⟨b1, b2, b3, b4, b5, b7, b8, bg, b9, b10⟩ := HG.out
     obtain ⟨A3, hA3⟩ : ∃ A3, A3 = (w16.setCell ⟨X9, 0, none⟩ (.int .i64 (rstA m ⟨vo, lo, hi, ci, br, re⟩ load VN VD (cloU s i ++ [i])).1)).setCell ⟨X9, 1, none⟩ (.int .i64 (rstA m ⟨vo, lo, hi, ci, br, re⟩ load VN VD (cloU s i ++ [i])).2) := ⟨_, rfl⟩
     rw [← hA3]
     have hirf : isRes m i = false := by rw [HIR.out]; exact hr0
     have d4 : A3.heap[lr]? = some (.loop RB) := by rw [hA3]; exact (heap_set_neI (show lr ≠ X9 by omega)).trans ((heap_set_neI (show lr ≠ X9 by omega)).trans b4)
     have d5 : A3.heap[D]? = some (.deferred (some [])) := by rw [hA3]; exact (heap_set_neI (show D ≠ X9 by omega)).trans ((heap_set_neI (show D ≠ X9 by omega)).trans b5)
     refine HNRM.out _ A3 d4 d5 (by rw [hA3]; exact (b1.setI n9).setI n9) (by rw [hA3, World.size_setCell, World.size_setCell]; exact b2) (by rw [hA3]; exact (b3.setCell hw9 _).setCell hw9 _) ?_ ?_ ?_ ?_ ?_
     ·rw [hA3]; exact (heap_set_neI (show X7 ≠ X9 by omega)).trans ((heap_set_neI (show X7 ≠ X9 by omega)).trans b7)
     ·rw [hA3]; exact (heap_set_neI (show X8 ≠ X9 by omega)).trans ((heap_set_neI (show X8 ≠ X9 by omega)).trans b8)
     ·rw [hA3]; exact (heap_set_neI (show g7 ≠ X9 by omega)).trans ((heap_set_neI (show g7 ≠ X9 by omega)).trans bg)
     ·rw [hA3]; exact blk_set (blk_set b9 0 _) 1 _
     ·rw [hA3, HDS.out, hirf]; exact (heap_set_neI (show X10 ≠ X9 by omega)).trans ((heap_set_neI (show X10 ≠ X9 by omega)).trans b10)
  ·rintro e W9 ⟨⟨v, rfl⟩, h⟩
   obtain ⟨h1, h7, h8, hg, h9, h10⟩ := h.resolve_right id
   refine ⟨⟨_, rfl⟩, .inl ⟨h1.1, ?_⟩⟩
   have hBw : Below w.heap.size w (W9.putObj lr (.loop { rec with state := .exhausted })) := h1.2.2.2.2.trans (belowK_b (w := w) (Nat.le_refl _) W9 lr _ _ (by omega) h1.1 rfl rfl)
   have e5 : BlkR (W9.putObj lr (.loop { rec with state := .exhausted })) D (.deferred (some [])) := (World.putObj_heap_other (by omega)).trans h1.2.1
   have e7 : BlkR (W9.putObj lr (.loop { rec with state := .exhausted })) X7 (.cells #[.slice (some ⟨g7, 0, none⟩) nb nb] 71) := (World.putObj_heap_other (show X7 ≠ lr by omega)).trans h7
   have eg : BlkR (W9.putObj lr (.loop { rec with state := .exhausted })) g7 (.cells (pcells (curL m ⟨vo, lo, hi, ci, br, re⟩ VN VD nb (cloU s 6))).toArray 85) := (World.putObj_heap_other (show g7 ≠ lr by omega)).trans hg
   have e9 : BlkR (W9.putObj lr (.loop { rec with state := .exhausted })) X9 (.cells #[.int .i64 (rstA m ⟨vo, lo, hi, ci, br, re⟩ load VN VD (cloU s 6)).1, .int .i64 (rstA m ⟨vo, lo, hi, ci, br, re⟩ load VN VD (cloU s 6)).2] 85) := (World.putObj_heap_other (show X9 ≠ lr by omega)).trans h9
   have e10 : BlkR (W9.putObj lr (.loop { rec with state := .exhausted })) X10 (.cells #[.int .i64 (dirD m (cloU s 6))] 3) := (World.putObj_heap_other (show X10 ≠ lr by omega)).trans h10
   generalize W9.putObj lr (.loop { rec with state := .exhausted }) = W2 at *
   have y7 := cell_of_row _ _ 0 _ _ _ e7
   have y9 := cell_of_row _ _ 0 _ _ _ e9
   have y9' := cell_of_row _ _ 1 _ _ _ e9
   have y10 := cell_of_row _ _ 0 _ _ _ e10
   simp only [List.getElem?_toArray, List.getElem?_cons_zero, List.getElem?_cons_succ] at y7 y9 y9' y10
   have l7 := e7.lt
   have lg := eg.lt
   have l9 := e9.lt
   have l10 := e10.lt
   have HBw := Lib.hid hBw
   have H5 := Lib.hid e5
   have HE7 := Lib.hid e7
   have HEG := Lib.hid eg
   obtain ⟨DD, hDD⟩ : ∃ DD, DD = dirD m (cloU s 6) := ⟨_, rfl⟩
   rw [← hDD] at y10
   have hcu := HCU.out
   rw [← hDD] at hcu
   have HDD := Lib.hid (fun (h : 0 ≤ DD) => dirD_lt (m := m) (s := s) (n := nb) (fun k hk => HBT.out k (clo_mem hk).1 (clo_mem hk).2) (by rw [← hDD]; exact h))
   rw [← hDD] at HDD
   clear h1 h7 h8 hg h9 h10 hst hpe hpa htm has hbo hI9 hBw e5 e7 eg e9 e10 h hDD k7 k8 kg k9 k10
   by_cases hdd : 0 ≤ DD
   ·have hdl := HDD.out hdd
    obtain ⟨kd, rfl⟩ : ∃ k : Nat, DD = (k : Int) := ⟨DD.toNat, by omega⟩
    have hkd : kd < nb := by omega
    obtain ⟨pg0, pg1⟩ := pcells_get (curL m ⟨vo, lo, hi, ci, br, re⟩ VN VD nb (cloU s 6)) kd (by rw [curL_len]; exact hkd)
    have cg0 := cell_of_row _ _ (kd * 2) _ _ _ HEG.out
    have cg1 := cell_of_row _ _ (kd * 2 + 1) _ _ _ HEG.out
    rw [List.getElem?_toArray] at cg0 cg1
    rw [pg0] at cg0
    rw [pg1] at cg1
    have fg0 := frozen_of_row _ _ (kd * 2) _ _ HEG.out
    have fg1 := frozen_of_row _ _ (kd * 2 + 1) _ _ HEG.out
    have htn : ((kd : Int)).toNat = kd := rfl
    rw [HLN.out, if_neg (by omega), htn] at hcu
    generalize rstA m ⟨vo, lo, hi, ci, br, re⟩ load VN VD (cloU s 6) = RS at *
    generalize curL m ⟨vo, lo, hi, ci, br, re⟩ VN VD nb (cloU s 6) = CL at *
    have HCU := Lib.hid hcu
    clear pg0 pg1 htn hcu
    go_wp2_with fail
    obtain ⟨W3, hW3⟩ : ∃ W3, W3 = (W2.setCell ⟨g7, kd * 2, none⟩ (.int .i64 RS.1)).setCell ⟨g7, kd * 2 + 1, none⟩ (.int .i64 RS.2) := ⟨_, rfl⟩
    rw [← hW3]
    have kw : W3.heap[g7]? = some (.cells (pcells (CL.set kd RS)).toArray 85) := by rw [hW3]; exact blk_pset HEG.out kd RS
    have hb3 : Below w.heap.size w W3 := by rw [hW3]; exact Below.setCell (Below.setCell HBw.out hwg _) hwg _
    have h53 : W3.heap[D]? = some (.deferred (some [])) := by rw [hW3]; exact (heap_set_neI (by omega)).trans ((heap_set_neI (by omega)).trans H5.out)
    have k7 : W3.heap[X7]? = some (.cells #[.slice (some ⟨g7, 0, none⟩) nb nb] 71) := by rw [hW3]; exact (heap_set_neI n7g).trans ((heap_set_neI n7g).trans HE7.out)
    refine leaves_marks (B := w.heap.size) (w0 := w) [D] W3 (by simp) (fun E hE => by simp at hE; subst hE; exact ⟨hwD, h53⟩) hb3 (fun w' hs hb' => ⟨.slice (some ⟨g7, 0, none⟩) nb nb, ?_, g7, rfl, hwg, by rw [HCU.out]; exact hs _ _ _ _ kw, hb'⟩)
    have kv := hs _ _ _ _ k7
    have r0 := blk_cell kv (i := 0) rfl
    simp [results, Tryz.results68, go_sem, r0]
   ·have hdd' : DD < 0 := by omega
    rw [HLN.out, if_pos hdd'] at hcu
    generalize rstA m ⟨vo, lo, hi, ci, br, re⟩ load VN VD (cloU s 6) = RS at *
    generalize curL m ⟨vo, lo, hi, ci, br, re⟩ VN VD nb (cloU s 6) = CL at *
    have HCU := Lib.hid hcu
    clear hcu
    go_wp2_with fail
    refine leaves_marks (B := w.heap.size) (w0 := w) [D] W2 (by simp) (fun E hE => by simp at hE; subst hE; exact ⟨hwD, H5.out⟩) HBw.out (fun w' hs hb' => ⟨.slice (some ⟨g7, 0, none⟩) nb nb, ?_, g7, rfl, hwg, by rw [HCU.out]; exact hs _ _ _ _ HEG.out, hb'⟩)
    have kv := hs _ _ _ _ HE7.out
    have r0 := blk_cell kv (i := 0) rfl
    simp [results, Tryz.results68, go_sem, r0]
end Go.Proofs.YtdjinmieogpgcaaGreat
