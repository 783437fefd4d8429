import Derived.Test.YtdjinmieogpgcaaGreatMTRefG
/- All states that are reached: the reference. -/
namespace Go.Proofs.YtdjinmieogpgcaaGreat
open Go.RowKit Go.Shelf
set_option linter.unusedVariables false
set_option linter.unusedSimpArgs false
attribute [local go_sem] Oper.semAt_some
theorem infoBool6 : (Tryz.prog.info? 4).map (fun i => (i.zero, i.size, i.bytes)) = some (some (.bool false), 1, 1) := by kernel_rfl
theorem makeBools (P : Program) (w : World) (t e : TypeId) (ht : P.underlying t = some (.slice e)) (hi : (P.info? e).map (fun i => (i.zero, i.size, i.bytes)) = some (some (.bool false), 1, 1)) (n : Nat) (hn : n ≤ 100000) :
    (Instr.makeSlice t (.int .i64 n) (.int .i64 n)).run P w = .ok (.slice (some ⟨w.heap.size, 0, none⟩) n n) (w.alloc (.cells (madeCells #[.bool false] n) e)) := by
 obtain ⟨i, hi1, hi2, hi3, hi4⟩ := info_parts hi
 have hr := run_make (P := P) w t e i _ ht hi1 hi2 .i64 .i64 n n (by omega) (Int.le_refl _) (by rw [hi4]; omega) (by omega)
 simp only [Int.toNat_natCast, hi3, Nat.mul_one] at hr
 exact hr
def kwN (N : Nat) (o : List Nat) : Array Value := ((List.range N).map fun s => Value.bool (decide (s ∈ o))).toArray
theorem kwN_get (N : Nat) (o : List Nat) {s : Nat} (h : s < N) : (kwN N o)[s]? = some (.bool (decide (s ∈ o))) := by
 unfold kwN
 rw [List.getElem?_toArray, List.getElem?_map, List.getElem?_range h]
 rfl
theorem kwN_set (N : Nat) (o : List Nat) (s : Nat) : (kwN N o).setIfInBounds s (.bool true) = kwN N (o ++ [s]) := by
 apply Array.ext'
 unfold kwN
 simp only [List.setIfInBounds_toArray]
 apply List.ext_getElem (by simp)
 intro i h1 h2
 rw [List.getElem_set]
 simp only [List.getElem_map, List.getElem_range]
 by_cases hi : s = i
 ·subst hi; simp
 ·simp [hi, Ne.symm hi]
theorem kwN_made (N : Nat) : madeCells #[Value.bool false] N = kwN N [] := by
 apply Array.ext'
 rw [toList_madeCells_one]
 unfold kwN
 simp [List.map_const']
theorem own_apart {A B : World} {base n sz : Nat} {e : TypeId} {v : Value} {xs : List Value} {row : Option Nat} (h : A.ownsRow base e sz v n xs) (hg : A.grownBy B row) (hne : ∀ g, v.ownBlock = some g → row ≠ some g) : B.ownsRow base e sz v n xs := by
 refine ⟨h.1, ?_⟩
 rcases h.2 with hn | ⟨g, cap, cur, rfl, hbase, hgg, rest⟩
 ·exact .inl hn
 ·refine .inr ⟨g, cap, cur, rfl, hbase, ?_, rest⟩
  rw [hg.block g (Array.getElem?_eq_some_iff.1 hgg).1 (fun h => hne g rfl h.symm)]
  exact hgg
theorem wpList_app6 {ops : Array Oper} {rest : List Oper} {o : Oper} {a : Act} {Q : Exit → Act → World → Prop} (w : World) (hgd : o.guard = none) (s x : Operand)
    (ho : o.op = .call { callee := .builtin .append, args := #[s, x], argTypes := #[48, 48] }) (base n B : Nat) (v : Value) (xs : List Value) (u : Value) (hs : a.eval s = v)
    (hown : w.ownsRow base 3 1 v n xs) (hx : a.eval x = .slice (some ⟨B, 0, none⟩) 1 1) (hc : w.cell? ⟨B, 0, none⟩ = some u) (h1 : u.oneCell' = true) (hn : n ≤ 1000000) (hbase : base ≤ w.heap.size)
    (h : ∀ v' w', w'.ownsRow base 3 1 v' (n + 1) (xs ++ [u]) → w.grownBy w' v.ownBlock → (v'.ownBlock = v.ownBlock ∨ v'.ownBlock = some w.heap.size) → Below base w w' → wpList Tryz.prog ops Q rest (a.put o.dst v') w') : wpList Tryz.prog ops Q (o :: rest) a w := by
 obtain ⟨i, hi1, hi2, hi3, hi4⟩ := info_parts infoInt
 have hmul : (n + 1) * 8 ≤ 1000001 * 8 := Nat.mul_le_mul (by omega) (by omega)
 refine wpList_append_own_at w hgd s x 48 ho base 3 i _ 1 8 Tryz.underlying48 hi1 hi2 hi3 hi4 rfl (by omega) v n xs hs hown ⟨B, 0, none⟩ 1 1 [u] hx rfl (fun j u' hu => ?_) (fun u' hu => ?_) (by unfold maxLen; omega) (by omega) hbase
  (fun v' w' h2 h3 _ h5 => h v' w' h2 h3 h5 ((Below.refl base w).grown h3 hbase (fun k hk => (hown.lt k hk).1)))
 ·rcases j with _ | j
  ·simp at hu; subst hu; simpa [Addr.add] using hc
  ·simp at hu
 ·simp at hu; subst hu; exact h1
theorem reaIn_pre (o : List Nat) (s : Nat) : ∀ L : List Nat, ∃ t, reaIn o s L = o ++ t := by
 refine snoc_ind ⟨[], by simp [reaIn]⟩ (fun L c ih => ?_)
 obtain ⟨t, ht⟩ := ih
 rw [reaIn_snoc]
 split
 ·exact ⟨t, ht⟩
 ·exact ⟨t ++ [trn s c], by rw [ht, List.append_assoc]⟩
set_option maxHeartbeats 2000000 in
set_option maxRecDepth 100000 in
theorem rReachable_any (m : Mac) (ab ag : Option Addr) (nb cb ng cg : Nat) (w : World) (hm : MacV m) (hb : BrR w ab nb m.br) (hg : GrR w ag ng m.gs) :
    Calls Tryz.prog 23 #[.agg #[.slice ab nb cb, .int .i64 m.st, .slice ag ng cg]] w fun e' w' => ∃ a' n' c', e' = .returned (.slice a' n' c') ∧ Below w.heap.size w w' ∧ IntsR w' a' n' (nats (reaS m)) := by
 have hlen := hb.len
 have hn6 : nb ≤ 6 := by rw [← hlen]; exact hm.n1
 have HMV := Lib.hid (fun (s : Nat) (hs : s < 64) (W : World) (hbw : Below w.heap.size w W) => rMovesO_any m s ab ag nb cb ng cg W hm hlen (hg.below hbw) hs)
 have hst := hm.st
 have hsn : ((m.st.toNat : Nat) : Int) = m.st := by omega
 rw [hlen] at hst
 obtain ⟨N, hN⟩ : ∃ N, N = 2 ^ nb := ⟨_, rfl⟩
 have hN64 : N ≤ 64 := by rw [hN]; exact Nat.le_trans (Nat.pow_le_pow_right (by omega) hn6) (by decide)
 have hNi : ((N : Nat) : Int) = (2 : Int) ^ nb := by rw [hN]; push_cast; rfl
 have hwr : wrap64 ((2 : Int) ^ nb) = (N : Int) := by rw [(pow_facts nb (by omega)).1, hNi]
 have HMK := Lib.hid (fun (W : World) => makeBools Tryz.prog W 112 4 Tryz.underlying112 infoBool6 N (by omega))
 obtain ⟨S0, hS0⟩ : ∃ k : Nat, k = m.st.toNat := ⟨_, rfl⟩
 have hstk : m.st = (S0 : Int) := by omega
 have hS0N : S0 < N := by omega
 have hF0 : reaF m 0 = [S0] := by rw [hS0]; rfl
 have HF0 := Lib.hid hF0
 have HOK := Lib.hid (fun k => reaF_ok hm k)
 have HLN := Lib.hid hlen
 have HNN := Lib.hid hN
 have HMV := Lib.hid (fun (s : Nat) (hs : s < 64) (W : World) (hbw : Below w.heap.size w W) => show Calls Tryz.prog 58 #[.agg #[.slice ab nb cb, .int .i64 (S0 : Int), .slice ag ng cg], .int .i64 (s : Int)] W (fun e' w' => ∃ a' n' c', e' = .returned (.slice a' n' c') ∧ Below W.heap.size W w' ∧ w'.ownsRow W.heap.size 3 1 (.slice a' n' c') n' (icells (nats (movL m s)))) from by rw [← hstk]; exact HMV.out s hs W hbw)
 have HRS := Lib.hid (show reaS m = (List.range N).filter (fun s => decide (s ∈ reaA m)) from by unfold reaS; rw [hlen, hN])
 have HHM := Lib.hid hm
 rw [hstk]
 simp only [kwN_made] at HMK
 clear hst hsn hS0 hstk hF0 hb hg hlen hN hNi hm
 go_enter Tryz.func23, Tryz.ntmps23
 go_wp2_with fail
 obtain ⟨w1, hW⟩ : ∃ w1, w1 = w.alloc (Obj.cells #[.slice ab nb cb, .int .i64 (S0 : Int), .slice ag ng cg] 45) := ⟨_, rfl⟩
 have hb1 : Below w.heap.size w w1 := by rw [hW]; (first|exact bwg|go_size)
 have k1 : BlkR w1 w.heap.size (.cells #[.slice ab nb cb, .int .i64 (S0 : Int), .slice ag ng cg] 45) := by show w1.heap[w.heap.size]? = _; rw [hW]; exact heap_alloc_new _ _
 obtain ⟨X1, hX1⟩ : ∃ X, X = w.heap.size := ⟨_, rfl⟩
 rw [← hW, hwr]
 rw [← hX1] at k1
 simp only [← hX1]
 have HX1 := Lib.hid hX1
 have HB1 := Lib.hid hb1
 have K1 := Lib.hid k1
 have KL1 := Lib.hid k1.lt
 clear hW hb1 hX1 k1
 rw [HMK.out]
 obtain ⟨w2, hW⟩ : ∃ w2, w2 = w1.alloc (Obj.cells (kwN N []) 4) := ⟨_, rfl⟩
 have hb2 : Below w1.heap.size w1 w2 := by rw [hW]; (first|exact bwg|go_size)
 have k2 : BlkR w2 w1.heap.size (.cells (kwN N []) 4) := by show w2.heap[w1.heap.size]? = _; rw [hW]; exact heap_alloc_new _ _
 obtain ⟨X2, hX2⟩ : ∃ X, X = w1.heap.size := ⟨_, rfl⟩
 rw [← hW]
 rw [← hX2] at k2
 simp only [← hX2]
 have K1 := Lib.hid (K1.out.below hb2)
 have HB2 := bwt HB1 hb2
 have HL1 := Lib.hid (show X1 < X2 by rw [HX1.out, hX2]; have := HB1.out; exact Nat.lt_of_lt_of_le (show w.heap.size < w1.heap.size from HX1.out ▸ KL1.out) (Nat.le_refl _))
 have K2 := Lib.hid k2
 clear hW hb2 hX2 k2
 obtain ⟨q0, q1, q2, l1⟩ := blkc3 K1.out
 have l2 := K2.out.lt
 have hk0 := blk_cell K2.out (i := S0) (kwN_get N [] hS0N)
 have i0 : (0 : Int) ≤ (S0 : Int) := by omega
 have i1 : (S0 : Int) < (N : Int) := by omega
 have hz0 := blk_fz K2.out S0
 have p1 : (w2.setCell ⟨X2, S0, none⟩ (.bool true)).cell? ⟨X1, 1, none⟩ = some (.int .i64 (S0 : Int)) := blk_cell (show BlkR (w2.setCell ⟨X2, S0, none⟩ (.bool true)) X1 _ from (heap_set_neI (by have := HL1.out; omega)).trans K1.out) (i := 1) rfl
 go_wp2_with fail
 obtain ⟨w3, hW⟩ : ∃ w3, w3 = w2.setCell ⟨X2, S0, none⟩ (.bool true) := ⟨_, rfl⟩
 have k2 : BlkR w3 X2 (.cells (kwN N [S0]) 4) := by rw [hW, show kwN N [S0] = (kwN N []).setIfInBounds S0 (.bool true) from (kwN_set N [] S0).symm]; exact blk_set K2.out S0 _
 have K1 := Lib.hid (show BlkR w3 X1 _ from by rw [hW]; exact (heap_set_neI (by have := HL1.out; omega)).trans K1.out)
 have K2 := Lib.hid k2
 have HB3 := Lib.hid (show Below w.heap.size w w3 from by rw [hW]; exact HB2.out.setCell (by rw [← HX1.out]; exact Nat.le_of_lt HL1.out) _)
 rw [← hW]
 have HL2 := Lib.hid (show X2 < w3.heap.size from k2.lt)
 have hz3 : w2.heap.size = w3.heap.size := by rw [hW]; simp
 clear hW k2 q0 q1 q2 l1 l2 hk0 hz0 p1
 simp only [hz3]
 clear hz3
 have hown0 : (w3.alloc (Obj.cells #[.int .i64 (S0 : Int)] 3)).ownsRow w3.heap.size 3 1 (.slice (some ⟨w3.heap.size, 0, none⟩) 1 1) 1 (icells (nats (reaF m 0))) := by
  rw [HF0.out]
  exact owns_lit (w0 := w3) (base := w3.heap.size) (n := 1) (sz := 1) (cs := #[.int .i64 (S0 : Int)]) (by simp) (by omega) (by omega) rfl
 obtain ⟨w5, hW5⟩ : ∃ w5, w5 = w3.alloc (Obj.cells #[.int .i64 (S0 : Int)] 3) := ⟨_, rfl⟩
 have hb5 : Below w3.heap.size w3 w5 := by rw [hW5]; (first|exact bwg|go_size)
 have hz5 : w5.heap.size = w3.heap.size + 1 := by rw [hW5]; exact World.size_alloc ..
 rw [← hW5] at hown0 ⊢
 obtain ⟨a5, ha5⟩ : ∃ a, a = w3.heap.size := ⟨_, rfl⟩
 simp only [← ha5] at hown0 ⊢
 rw [← ha5] at hz5
 have HL5 := Lib.hid (show X2 < a5 by rw [ha5]; exact HL2.out)
 have K1 := Lib.hid (K1.out.below hb5)
 have K2 := Lib.hid (show BlkR w5 X2 (.cells (kwN N (reaF m 0)) 4) from by rw [HF0.out]; exact K2.out.below hb5)
 have HB5 := bwt HB3 hb5
 have HO5 := Lib.hid hown0
 have HZ5 := Lib.hid (show a5 ≤ w5.heap.size by omega)
 have HZA := Lib.hid (show w.heap.size ≤ a5 by rw [ha5]; exact HB3.out.size)
 clear hW5 hb5 hz5 hown0 ha5 HB1 HB2 HB3 HL2 HMK
 have HA := Lib.hid (fun k (hk : k ≤ 64) (h : (reaF m k).length ≤ k) => reaF_all HHM.out h hk)
 have HRL := Lib.hid (fun k => (HOK.out k).len HHM.out)
 have HRT := Lib.hid (fun k s (h : s ∈ reaF m k) => show s < N from by rw [HNN.out, ← HLN.out]; exact (HOK.out k).lt s h)
 have HNX := Lib.hid (fun k s (h : (reaF m k)[k]? = some s) => reaF_next h)
 have HMV := HMV
 go_loopw [4, 5] (fun v x wr => ∃ (k q : Nat) (av : Option Addr) (cv : Nat), v = .slice av q cv ∧ x = .int .i64 (k : Int) ∧ k ≤ q ∧ q ≤ 64 ∧ Hid (q = (reaF m k).length) ∧ Hid (BlkR wr X1 (.cells #[.slice ab nb cb, .int .i64 (S0 : Int), .slice ag ng cg] 45)) ∧ Hid (BlkR wr X2 (.cells (kwN N (reaF m k)) 4)) ∧ Hid (wr.ownsRow a5 3 1 (.slice av q cv) q (icells (nats (reaF m k)))) ∧ Hid (Below w.heap.size w wr) ∧ Hid (a5 ≤ wr.heap.size)) (fun _ x _ => 64 - (intOf x).toNat)
 case atStart => exact ⟨0, 1, _, _, rfl, rfl, by omega, by omega, Lib.hid (by rw [HF0.out]; rfl), K1, K2, HO5, HB5, HZ5⟩
 case round =>
  obtain ⟨k, q, av, cv, rfl, rfl, hk, hq, HQ, K1, K2, HO, HB, HZ⟩ := hrel
  have i0 : (0 : Int) ≤ (k : Int) := by omega
  by_cases hlt : k < q
  ·have i1 : (k : Int) < (q : Int) := by omega
   have hoi : IntsR wr av q (nats (reaF m k)) := SlR.of_owns HO.out
   obtain ⟨bo, oo, rfl, hbo, hoa⟩ := hoi.addr (by omega)
   have hoc := hoa k (by omega)
   obtain ⟨s, hs⟩ : ∃ s, (reaF m k)[k]? = some s := ⟨_, List.getElem?_eq_getElem (by rw [← HQ.out]; exact hlt)⟩
   have hgs : (nats (reaF m k)).getD k 0 = (s : Int) := by unfold nats; simp [List.getD, hs]
   rw [hgs] at hoc
   have hsN : s < N := HRT.out k s (List.mem_of_getElem? hs)
   have HSS := Lib.hid (HNX.out k s hs)
   have HSN := Lib.hid hsN
   have HGK := Lib.hid hs
   clear hoi hoa hgs hs
   obtain ⟨q0, q1, q2, l1⟩ := blkc3 K1.out
   go_wp2_with fail
   have HSM := Lib.hid (HMV.out s (Nat.lt_of_lt_of_le HSN.out hN64) wr.drew HB.out.drew)
   refine wp_region_mixZ (B := wr.heap.size) [(true, 0), (true, 1), (true, 2), (true, 3), (true, 4), (false, 5), (false, 6)] 6 (by kernel_rfl) (by kernel_rfl) ?_; simp only [opsOf, List.filterMap_cons, List.filterMap_nil, List.getElem?_toArray, List.getElem?_cons_zero, List.getElem?_cons_succ, Option.map_some]
   repeat (refine mixz_head ?_; (show wpQuiet _ _ _ _ (_ :: _) _; go_big_quiet_step (fail)); refine wpQuiet_nil ?_)
   refine mixz_tail ?_; go_wp2_with fail
   refine HSM.out.mono ?_
   rintro e6 w6 ⟨am, nm, cm, rfl, hb6, hm6⟩
   have HY6 := Lib.hid (show Below wr.heap.size wr w6 from (Below.refl _ _).drew.trans hb6)
   have HOM := Lib.hid (show w6.ownsRow wr.heap.size 3 1 (.slice am nm cm) nm (icells (nats (movL m s))) from hm6)
   clear hb6 hm6 HSM
   go_wp2_with fail
   refine tailL_mk HY6.out ?_
   refine mixz_last ?_; go_wp2_with fail
   refine tailZ_end ?_
   have hb6 := HY6.out
   have K1' := Lib.hid (K1.out.below hb6)
   have K2' := Lib.hid (K2.out.below hb6)
   have ho : wr.ownsRow a5 3 1 (.slice (some ⟨bo, oo, none⟩) q cv) q (icells (nats (reaF m k))) := HO.out
   have HO' := Lib.hid (owns_below ho hb6 (fun z hz => (World.ownsRow.lt ho z hz).2))
   have HB' := bwt HB hb6
   have HZ6 := Lib.hid (Nat.le_trans HZ.out hb6.size)
   have HZW := Lib.hid HZ.out
   have HG0 := Lib.hid (show ∀ g, (Value.slice (some ⟨bo, oo, none⟩) q cv).ownBlock = some g → g < wr.heap.size from fun g hg => (World.ownsRow.lt ho g hg).2)
   clear hb6 HY6 HZ ho q0 q1 q2 l1 hoc K1 K2 HO HB
   have HIO := Lib.hid (fun j => show (reaIn (reaF m k) s ((movL m s).take j)).length ≤ 64 from (Rea.inn HHM.out (HOK.out k) (by rw [HLN.out, ← HNN.out]; exact HSN.out) _ (fun c hc => movL_lt (List.mem_of_mem_take hc))).len HHM.out)
   have HIT := Lib.hid (fun j => show ∃ t, reaIn (reaF m k) s ((movL m s).take j) = reaF m k ++ t from reaIn_pre _ _ _)
   have HOS := Lib.hid (fun t => show (nats (reaF m k ++ t)).getD k 0 = (s : Int) from by unfold nats; rw [List.getD_eq_getElem?_getD, List.getElem?_map, List.getElem?_append_left (by rw [← HQ.out]; exact hlt), HGK.out]; rfl)
   have HI0 := Lib.hid (show reaIn (reaF m k) s ((movL m s).take 0) = reaF m k from rfl)
   have HGM := Lib.hid (show ∀ g, (Value.slice am nm cm).ownBlock = some g → wr.heap.size ≤ g ∧ g < w6.heap.size from by
    have hom : w6.ownsRow wr.heap.size 3 1 (.slice am nm cm) nm (icells (nats (movL m s))) := HOM.out
    exact fun g hg => World.ownsRow.lt hom g hg)
   have HML := Lib.hid (show (movL m s).length = nm from by have h := IntsR.len (SlR.of_owns HOM.out); simpa [nats] using h)
   go_wp2_with fail
   obtain ⟨wo, rfl⟩ : ∃ x, x = wr := ⟨_, rfl⟩
   go_loopw [4, 7] (fun v x wr => ∃ (j p : Nat) (aw : Option Addr) (dw : Nat), v = .slice aw p dw ∧ x = .int .i64 (j : Int) ∧ j ≤ nm ∧ q ≤ p ∧ p ≤ 64 ∧ Hid (p = (reaIn (reaF m k) s ((movL m s).take j)).length) ∧ Hid (BlkR wr X1 (.cells #[.slice ab nb cb, .int .i64 (S0 : Int), .slice ag ng cg] 45)) ∧ Hid (BlkR wr X2 (.cells (kwN N (reaIn (reaF m k) s ((movL m s).take j))) 4)) ∧ Hid (wr.ownsRow a5 3 1 (.slice aw p dw) p (icells (nats (reaIn (reaF m k) s ((movL m s).take j))))) ∧ Hid (wr.ownsRow wo.heap.size 3 1 (.slice am nm cm) nm (icells (nats (movL m s)))) ∧ Hid (∀ g, (Value.slice aw p dw).ownBlock = some g → g < wo.heap.size ∨ w6.heap.size ≤ g) ∧ Hid (Below w.heap.size w wr) ∧ Hid (w6.heap.size ≤ wr.heap.size)) (fun _ x _ => nm - (intOf x).toNat)
   case atStart => exact ⟨0, q, _, _, rfl, rfl, by omega, by omega, hq, Lib.hid (by rw [HI0.out]; exact HQ.out), K1', Lib.hid (by rw [HI0.out]; exact K2'.out), Lib.hid (by rw [HI0.out]; exact HO'.out), HOM, Lib.hid (fun g hg => .inl (HG0.out g hg)), HB', Lib.hid (Nat.le_refl _)⟩
   case round =>
    obtain ⟨j, p, aw, dw, rfl, rfl, hj, hqp, hp, HP, K1, K2, HO, HOM, HOG, HB, HZX⟩ := hrel
    have j0 : (0 : Int) ≤ (j : Int) := by omega
    by_cases hjl : j < nm
    ·have j1 : (j : Int) < (nm : Int) := by omega
     obtain ⟨c, hc⟩ : ∃ c, (movL m s)[j]? = some c := ⟨_, List.getElem?_eq_getElem (by rw [HML.out]; exact hjl)⟩
     have hcn : c < nb := by rw [← HLN.out]; exact movL_lt (List.mem_of_getElem? hc)
     have htk : (movL m s).take (j + 1) = (movL m s).take j ++ [c] := by rw [List.take_add_one, hc]; rfl
     obtain ⟨t, ht⟩ := HIT.out j
     have hoi : IntsR wr aw p (nats (reaIn (reaF m k) s ((movL m s).take j))) := SlR.of_owns HO.out
     obtain ⟨bo, oo, rfl, hbo, hoa⟩ := hoi.addr (by omega)
     have hoc := hoa k (by omega)
     rw [ht, HOS.out t] at hoc
     have hmi : IntsR wr am nm (nats (movL m s)) := SlR.of_owns HOM.out
     obtain ⟨bm, om, rfl, hbm, hma⟩ := hmi.addr (by omega)
     have hmc := hma j hjl
     have hgc : (nats (movL m s)).getD j 0 = (c : Int) := by unfold nats; simp [List.getD, hc]
     rw [hgc] at hmc
     have htn : trn s c < N := by rw [HNN.out]; exact trn_lt' hn6 (by rw [← HNN.out]; exact HSN.out) hcn
     have HT := Lib.hid (fun W => changed_any s c W (Nat.lt_of_lt_of_le HSN.out hN64) (by omega))
     have k2 : (k : Int) < (p : Int) := by omega
     have HTK := Lib.hid htk
     have HTN := Lib.hid htn
     have HNM := Lib.hid hmi.small
     clear hoi hmi hoa hma hgc htk ht hc htn
     obtain ⟨T, hT⟩ : ∃ T, T = trn s c := ⟨_, rfl⟩
     rw [← hT] at HT HTN
     have HTT := Lib.hid hT
     clear hT
     go_wp2_with fail
     refine later_all (by kernel_rfl) (by kernel_rfl) ?_; repeat go_big_quiet_step(with_reducible exact calls_later_same (HT.out _))
     refine wpQuiet_nil ?_; intro w7 hb7
     have K1 := Lib.hid (K1.out.below hb7)
     have K2 := Lib.hid (K2.out.below hb7)
     have ho : wr.ownsRow a5 3 1 (.slice (some ⟨bo, oo, none⟩) p dw) p (icells (nats (reaIn (reaF m k) s ((movL m s).take j)))) := HO.out
     have hom : wr.ownsRow wo.heap.size 3 1 (.slice (some ⟨bm, om, none⟩) nm cm) nm (icells (nats (movL m s))) := HOM.out
     have HOM7 := Lib.hid (owns_below hom hb7 (fun z hz => (World.ownsRow.lt hom z hz).2))
     have HO7 := Lib.hid (owns_below ho hb7 (fun z hz => (World.ownsRow.lt ho z hz).2))
     have HB7 := bwt HB hb7
     have HZ7 := Lib.hid (Nat.le_trans HZX.out hb7.size)
     clear ho hom HO HOM HB HZX hb7 hoc hmc HT
     obtain ⟨q0, q1, q2, l1⟩ := blkc3 K1.out
     have l2 := K2.out.lt
     have hkt := blk_cell K2.out (i := T) (kwN_get N _ HTN.out)
     have hzt := blk_fz K2.out T
     have t0 : (0 : Int) ≤ (T : Int) := by omega
     have t1 : (T : Int) < (N : Int) := by have := HTN.out; omega
     by_cases hkn : T ∈ reaIn (reaF m k) s ((movL m s).take j)
     ·rw [decide_eq_true hkn] at hkt
      have HRI := Lib.hid (show reaIn (reaF m k) s ((movL m s).take (j + 1)) = reaIn (reaF m k) s ((movL m s).take j) from by rw [HTK.out]; exact reaIn_yes (by rw [← HTT.out]; exact hkn))
      clear hkn
      have hnm := HNM.out
      go_wp2
      refine ⟨⟨j + 1, p, _, _, rfl, by go_num, by omega, hqp, hp, Lib.hid (by rw [HRI.out]; exact HP.out), K1, Lib.hid (by rw [HRI.out]; exact K2.out), Lib.hid (by rw [HRI.out]; exact HO7.out), HOM7, HOG, HB7, HZ7⟩, ?_⟩
      simp only [intOf]; omega
     ·rw [decide_eq_false hkn] at hkt
      have HRI := Lib.hid (show reaIn (reaF m k) s ((movL m s).take (j + 1)) = reaIn (reaF m k) s ((movL m s).take j) ++ [T] from by rw [HTK.out, HTT.out]; exact reaIn_no (by rw [← HTT.out]; exact hkn))
      clear hkn
      have ho7 : w7.ownsRow a5 3 1 (.slice (some ⟨bo, oo, none⟩) p dw) p (icells (nats (reaIn (reaF m k) s ((movL m s).take j)))) := HO7.out
      have hom7 : w7.ownsRow wo.heap.size 3 1 (.slice (some ⟨bm, om, none⟩) nm cm) nm (icells (nats (movL m s))) := HOM7.out
      have h12 := HL1.out
      have hx1 := HX1.out
      have hza := HZA.out
      have hz5 := HZ5.out
      have hz7 := HZ7.out
      have hzw : a5 ≤ w7.heap.size := by have := HZ6.out; omega
      have g1 : BlkR (w7.setCell ⟨X2, T, none⟩ (.bool true)) X1 _ := (heap_set_neI (by omega)).trans K1.out
      have g2 : BlkR (w7.setCell ⟨X2, T, none⟩ (.bool true)) X2 (.cells (kwN N (reaIn (reaF m k) s ((movL m s).take j) ++ [T])) 4) := by rw [← kwN_set]; exact blk_set K2.out T _
      have go := own_setO (i := T) (x := .bool true) ho7 K2.out (by decide)
      have gm := own_setO (i := T) (x := .bool true) hom7 K2.out (by decide)
      have gb : Below w.heap.size w (w7.setCell ⟨X2, T, none⟩ (.bool true)) := HB7.out.setCell (by show w.heap.size ≤ X2; omega) _
      have gz : (w7.setCell ⟨X2, T, none⟩ (.bool true)).heap.size = w7.heap.size := by simp
      have gc : ((w7.setCell ⟨X2, T, none⟩ (.bool true)).alloc (Obj.cells #[.int .i64 (T : Int)] 3)).cell? ⟨w7.heap.size, 0, none⟩ = some (.int .i64 (T : Int)) := by rw [← gz]; exact blk_cell (heap_alloc_new _ _) (i := 0) rfl
      have GO := Lib.hid (go.alloc (.cells #[.int .i64 (T : Int)] 3))
      have GM := Lib.hid (gm.alloc (.cells #[.int .i64 (T : Int)] 3))
      have gba := (Below.refl (w7.setCell ⟨X2, T, none⟩ (.bool true)).heap.size _).alloc (w := w7.setCell ⟨X2, T, none⟩ (.bool true)) (Nat.le_refl _) (.cells #[.int .i64 (T : Int)] 3)
      have G1 := Lib.hid (g1.below gba)
      have G2 := Lib.hid (g2.below gba)
      have GB := Lib.hid (gb.trans (gba.mono gb.size))
      have GC := Lib.hid gc
      have GZ := Lib.hid gz
      clear g1 g2 go gm gb gz gc gba ho7 hom7 hx1
      go_wp2_with (at_builtin; refine wpList_app6 _ rfl _ _ rfl a5 p w7.heap.size _ _ (.int .i64 (T : Int)) rfl GO.out rfl GC.out rfl (by omega) (by rw [World.size_alloc, GZ.out]; omega) ?_)
      intro v' w9 hown9 hgr9 hbl9 hb9
      obtain ⟨av2, cv2, rfl, _, _⟩ := owns_slice hown9
      have hno : ∀ g, (Value.slice (some ⟨bm, om, none⟩) nm cm).ownBlock = some g → (Value.slice (some ⟨bo, oo, none⟩) p dw).ownBlock ≠ some g := fun g hg hg2 => by
       have h1 := HGM.out g hg
       have h2 := HOG.out g hg2
       omega
      have HM9 := Lib.hid (own_apart GM.out hgr9 hno)
      have HG9 := Lib.hid (show ∀ g, (Value.slice av2 (p + 1) cv2).ownBlock = some g → g < wo.heap.size ∨ w6.heap.size ≤ g from fun g hg => by
       rcases hbl9 with h | h
       ·exact HOG.out g (by rw [← h]; exact hg)
       ·rw [h, Option.some.injEq] at hg
        have := HZ7.out
        omega)
      have K19 := Lib.hid (BlkR.other G1.out GO.out hgr9 (by decide))
      have K29 := Lib.hid (BlkR.other G2.out GO.out hgr9 (by decide))
      have HB9 := Lib.hid (GB.out.trans (hb9.mono hza))
      have HZ9 := Lib.hid (show w6.heap.size ≤ w9.heap.size from by have h := hb9.size; rw [World.size_alloc, GZ.out] at h; have := HZ7.out; omega)
      have HO9 := Lib.hid (show w9.ownsRow a5 3 1 (.slice av2 (p + 1) cv2) (p + 1) (icells (nats (reaIn (reaF m k) s ((movL m s).take (j + 1))))) from by rw [HRI.out]; unfold nats; rw [List.map_append, icells_append]; exact hown9)
      have HL9 := Lib.hid (show p + 1 = (reaIn (reaF m k) s ((movL m s).take (j + 1))).length from by rw [HRI.out, List.length_append, ← HP.out]; rfl)
      have hp1 : p + 1 ≤ 64 := by rw [HL9.out]; exact HIO.out (j + 1)
      have hnm := HNM.out
      clear hown9 hgr9 hbl9 hb9 GO GM G1 G2 GB GC GZ hno h12 hza hz5 hz7 hzw
      go_wp2
      refine ⟨⟨j + 1, p + 1, _, _, rfl, by go_num, by omega, by omega, hp1, HL9, K19, Lib.hid (by rw [HRI.out]; exact K29.out), HO9, HM9, HG9, HB9, HZ9⟩, ?_⟩
      simp only [intOf]; omega
    ·obtain rfl : j = nm := by omega
     have j1 : ¬ ((j : Int) < (j : Int)) := by omega
     have HTA := Lib.hid (show reaIn (reaF m k) s ((movL m s).take j) = reaF m (k + 1) from by rw [HSS.out, List.take_of_length_le (by rw [HML.out]; exact Nat.le_refl _)])
     have HZ9 := Lib.hid (show a5 ≤ wr.heap.size from Nat.le_trans HZ6.out HZX.out)
     go_wp2
     refine ⟨⟨k + 1, p, _, _, rfl, by go_num, by omega, hp, Lib.hid (by rw [← HTA.out]; exact HP.out), K1, Lib.hid (by rw [← HTA.out]; exact K2.out), Lib.hid (by rw [← HTA.out]; exact HO.out), HB, HZ9⟩, ?_⟩
     simp only [intOf]; omega
  ·obtain rfl : k = q := by omega
   have i1 : ¬ ((k : Int) < (k : Int)) := by omega
   have HAA := Lib.hid (HA.out k hq (by rw [← HQ.out]; exact Nat.le_refl _))
   have K2' := Lib.hid (show BlkR wr X2 (.cells (kwN N (reaA m)) 4) from by rw [← HAA.out]; exact K2.out)
   have HB' := Lib.hid HB.out
   clear K1 K2 HO HB HZ HQ HMV
   go_wp2_with fail
   obtain ⟨wo, rfl⟩ : ∃ x, x = wr := ⟨_, rfl⟩
   obtain ⟨a9, ha9⟩ : ∃ a, a = wo.heap.size := ⟨_, rfl⟩
   have HA9 := Lib.hid (show a9 ≤ wo.heap.size by omega)
   have HA8 := Lib.hid (show wo.heap.size ≤ a9 by omega)
   have HX9 := Lib.hid (show X2 < a9 by rw [ha9]; exact K2'.out.lt)
   clear ha9
   go_loopw [9, 10] (fun v x wr => ∃ (j p : Nat) (aw : Option Addr) (dw : Nat), v = .slice aw p dw ∧ x = .int .i64 (j : Int) ∧ j ≤ N ∧ p ≤ j ∧ Hid (wr.ownsRow a9 3 1 (.slice aw p dw) p (icells (nats ((List.range j).filter (fun s => decide (s ∈ reaA m)))))) ∧ Hid (Below a9 wo wr)) (fun _ x _ => N - (intOf x).toNat)
   case atStart => exact ⟨0, 0, none, 0, rfl, rfl, by omega, by omega, Lib.hid (World.ownsRow_nil _ _ _ _), Lib.hid (Below.refl _ _)⟩
   case round =>
    obtain ⟨j, p, aw, dw, rfl, rfl, hj, hpj, HO, HBr⟩ := hrel
    have K2 := Lib.hid (show BlkR wr X2 _ from (HBr.out.block _ HX9.out).trans K2'.out)
    have j0 : (0 : Int) ≤ (j : Int) := by omega
    by_cases hjl : j < N
    ·have j1 : (j : Int) < (N : Int) := by omega
     have hkt := blk_cell K2.out (i := j) (kwN_get N _ hjl)
     have l2 := K2.out.lt
     have hrs : List.range (j + 1) = List.range j ++ [j] := List.range_succ
     have HRG := Lib.hid hrs
     clear hrs
     by_cases hkn : j ∈ reaA m
     ·rw [decide_eq_true hkn] at hkt
      have HFL := Lib.hid (show (List.range (j + 1)).filter (fun s => decide (s ∈ reaA m)) = (List.range j).filter (fun s => decide (s ∈ reaA m)) ++ [j] from by rw [HRG.out, List.filter_append, List.filter_cons_of_pos (by exact decide_eq_true hkn)]; rfl)
      clear hkn
      have ho : wr.ownsRow a9 3 1 (.slice aw p dw) p (icells (nats ((List.range j).filter (fun s => decide (s ∈ reaA m))))) := HO.out
      have hz := HBr.out.size
      have hz9 := HA9.out
      go_wp2_with (at_builtin; refine wpList_append_sl _ rfl _ _ 48 rfl a9 3 _ 1 8 Tryz.underlying48 infoInt rfl (by omega) (.slice aw p dw) p _ rfl (ho.alloc _) _ 1 1 [.int .i64 (j : Int)] rfl (SlR.lit _ _ _ _ _ 1 1 (by rfl) (by simp) rfl (by omega)) (by simp [Value.oneCell']) (by omega) (by omega) (by simp; omega) ?_)
      intro v2 w2' hown2 hgr2 hb2
      obtain ⟨av2, cv2, rfl, _, _⟩ := owns_slice hown2
      have HO9 := Lib.hid (show w2'.ownsRow a9 3 1 (.slice av2 (p + 1) cv2) (p + 1) (icells (nats ((List.range (j + 1)).filter (fun s => decide (s ∈ reaA m))))) from by rw [HFL.out]; unfold nats; rw [List.map_append, icells_append]; exact hown2)
      have HB9 := Lib.hid (show Below a9 wo w2' from (HBr.out.alloc (by omega) _).trans hb2)
      clear hown2 hgr2 hb2 ho hkt
      go_wp2
      refine ⟨⟨j + 1, p + 1, av2, cv2, rfl, by go_num, by omega, by omega, HO9, HB9⟩, ?_⟩
      simp only [intOf]; omega
     ·rw [decide_eq_false hkn] at hkt
      have HFL := Lib.hid (show (List.range (j + 1)).filter (fun s => decide (s ∈ reaA m)) = (List.range j).filter (fun s => decide (s ∈ reaA m)) from by rw [HRG.out, List.filter_append, List.filter_cons_of_neg (by rw [decide_eq_false hkn]; decide)]; simp)
      clear hkn
      go_wp2
      refine ⟨⟨j + 1, p, aw, dw, rfl, by go_num, by omega, by omega, Lib.hid (by rw [HFL.out]; exact HO.out), HBr⟩, ?_⟩
      simp only [intOf]; omega
    ·obtain rfl : j = N := by omega
     have j1 : ¬ ((j : Int) < (j : Int)) := by omega
     have HR := Lib.hid (show IntsR wr aw p (nats (reaS m)) from by rw [HRS.out]; exact SlR.of_owns HO.out)
     have HBw := Lib.hid (HB'.out.trans ((HBr.out.mono HA8.out).mono HB'.out.size))
     clear HO
     go_wp2
     go_ret
     exact ⟨aw, p, ⟨dw, rfl⟩, HBw.out, HR.out⟩
end Go.Proofs.YtdjinmieogpgcaaGreat
/- A state of an invariant, in plain words. -/
namespace Go.Proofs.YtdjinmieogpgcaaGreat
set_option linter.unusedVariables false
def kmE (m : Mac) (l : Lim) (L : List Int) (s c : Nat) : Int := firstErr [chgE m l s c, unl (L.any (fun q : Int => decide (((trn s c : Nat) : Int) = q))) 14]
def kmsE (m : Mac) (l : Lim) (L : List Int) (s : Nat) (cs : List Nat) : Int := firstErr (cs.map (kmE m l L s))
def kepB (L : List Int) (i : Nat) : Bool := decide (i = 0) || decide (L.getD (i - 1) 0 < L.getD i 0)
def kepF (m : Mac) (L : List Int) (i : Nat) : Int := firstErr [staE m.br.length (L.getD i 0), unl (kepB L i) 9]
def kepE (m : Mac) (l : Lim) (L : List Int) (i : Nat) : Int :=
 if kepF m L i ≠ 0 then kepF m L i else if safE m l (L.getD i 0).toNat ≠ 0 then safE m l (L.getD i 0).toNat else kmsE m l L (L.getD i 0).toNat (movL m (L.getD i 0).toNat)
def invX (m : Mac) (l : Lim) (L : List Int) : Int × Int :=
 if (firstAt (kepE m l L) L.length 0).2 ≠ 0 then firstAt (kepE m l L) L.length 0 else (0, unl (L.any (fun q : Int => decide (m.st = q))) 6)
/- What a failure and an invariant are, in plain words. -/
theorem firstAt_hitN {f : Nat → Int} {k : Nat} (hf : f k ≠ 0) : ∀ m j, j ≤ k → k < j + m → (∀ i, j ≤ i → i < k → f i = 0) → firstAt f m j = ((k : Int), f k)
 | 0, j, h1, h2, _ => by omega
 | m + 1, j, h1, h2, h => by
  unfold firstAt
  by_cases hj : j = k
  ·subst hj; rw [if_pos hf]
  ·rw [if_neg (by rw [h j (Nat.le_refl _) (by omega)]; exact fun h => h rfl)]
   exact firstAt_hitN hf m (j + 1) (by omega) (by omega) (fun i h3 h4 => h i (by omega) h4)
theorem nats_getD (r : List Nat) (j : Nat) : (nats r).getD j 0 = ((r.getD j 0 : Nat) : Int) := by
 unfold nats
 rw [List.getD_eq_getElem?_getD, List.getD_eq_getElem?_getD, List.getElem?_map]
 cases r[j]? <;> rfl
theorem nats_len (r : List Nat) : (nats r).length = r.length := by unfold nats; rw [List.length_map]
theorem firstErr_all0 : ∀ l : List Int, (∀ x ∈ l, x = 0) → firstErr l = 0
 | [], _ => rfl
 | x :: r, h => firstErr_cons.2 ⟨h x (by simp), firstErr_all0 r (fun y hy => h y (by simp [hy]))⟩
theorem invX_hit {m : Mac} {l : Lim} {L : List Int} {k : Nat} (hk : k < L.length) (h0 : ∀ j, j < k → kepE m l L j = 0) (h : kepE m l L k ≠ 0) : invX m l L = ((k : Int), kepE m l L k) := by
 unfold invX
 rw [firstAt_hitN h L.length 0 (by omega) (by omega) (fun i _ hi => h0 i hi), if_pos (by exact h)]
theorem invX_end {m : Mac} {l : Lim} {L : List Int} (h0 : ∀ j, j < L.length → kepE m l L j = 0) : invX m l L = (0, unl (L.any (fun q : Int => decide (m.st = q))) 6) := by
 unfold invX
 rw [firstAt_all _ _ (fun j _ hj => h0 j (by omega)), if_neg (by simp)]
theorem fe_at {f : Nat → Int} : ∀ (cs : List Nat) (q : Nat), q < cs.length → (∀ j, j < q → f (cs.getD j 0) = 0) → f (cs.getD q 0) ≠ 0 → firstErr (cs.map f) = f (cs.getD q 0)
 | c :: r, 0, _, _, h => by
  show (if f c = 0 then _ else f c) = f c
  rw [if_neg (show ¬ f c = 0 from h)]
 | c :: r, q + 1, hq, h0, h => by
  show (if f c = 0 then firstErr (r.map f) else f c) = _
  rw [if_pos (show f c = 0 from h0 0 (by omega))]
  exact fe_at r q (by simpa using hq) (fun j hj => h0 (j + 1) (by omega)) h
theorem kep1 {m : Mac} {l : Lim} {L : List Int} {k : Nat} (h : staE m.br.length (L.getD k 0) ≠ 0) : kepE m l L k = staE m.br.length (L.getD k 0) := by
 have h1 : kepF m L k = staE m.br.length (L.getD k 0) := by
  unfold kepF
  show (if staE m.br.length (L.getD k 0) = 0 then _ else _) = _
  rw [if_neg h]
 unfold kepE
 rw [if_pos (by rw [h1]; exact h), h1]
theorem kep2 {m : Mac} {l : Lim} {L : List Int} {k : Nat} (h : staE m.br.length (L.getD k 0) = 0) (hb : kepB L k = false) : kepE m l L k = 9 := by
 have h1 : kepF m L k = 9 := by
  unfold kepF
  rw [h, hb]; rfl
 unfold kepE
 rw [if_pos (by rw [h1]; decide), h1]
theorem kep3 {m : Mac} {l : Lim} {L : List Int} {k : Nat} (h : staE m.br.length (L.getD k 0) = 0) (hb : kepB L k = true) :
    kepE m l L k = if safE m l (L.getD k 0).toNat ≠ 0 then safE m l (L.getD k 0).toNat else kmsE m l L (L.getD k 0).toNat (movL m (L.getD k 0).toNat) := by
 have h1 : kepF m L k = 0 := by
  unfold kepF
  rw [h, hb]; rfl
 unfold kepE
 rw [if_neg (by rw [h1]; decide)]
theorem kmE_split (m : Mac) (l : Lim) (L : List Int) (s c : Nat) : kmE m l L s c = if chgE m l s c ≠ 0 then chgE m l s c else unl (L.any (fun q : Int => decide (((trn s c : Nat) : Int) = q))) 14 := by
 unfold kmE
 show (if chgE m l s c = 0 then _ else _) = _
 by_cases h : chgE m l s c = 0
 ·rw [if_pos h, if_neg (by rw [h]; decide)]
  cases L.any (fun q : Int => decide (((trn s c : Nat) : Int) = q)) <;> rfl
 ·rw [if_neg h, if_pos h]
/- New cells of a function's parameters. -/
open Go.RowKit Go.Shelf
theorem alA1 (w : World) (o1 : Obj) : Below w.heap.size w (w.alloc o1) ∧ BlkR (w.alloc o1) w.heap.size o1 := ⟨by (first|exact bwg|go_size), heap_alloc_new _ _⟩
theorem alA2 (w : World) (o1 o2 : Obj) : Below w.heap.size w ((w.alloc o1).alloc o2) ∧ BlkR ((w.alloc o1).alloc o2) w.heap.size o1 ∧ BlkR ((w.alloc o1).alloc o2) (w.heap.size + 1) o2 := by
 refine ⟨by (first|exact bwg|go_size), ?_, ?_⟩
 ·show _ = _
  rw [Below.heap_alloc _ _ _ (by simp)]
  exact heap_alloc_new _ _
 ·have := heap_alloc_new (w.alloc o1) o2
  show _ = _
  simpa using this
theorem alA3 (w : World) (o1 o2 o3 : Obj) : Below w.heap.size w (((w.alloc o1).alloc o2).alloc o3) ∧ BlkR (((w.alloc o1).alloc o2).alloc o3) w.heap.size o1 ∧ BlkR (((w.alloc o1).alloc o2).alloc o3) (w.heap.size + 1) o2 ∧ BlkR (((w.alloc o1).alloc o2).alloc o3) (w.heap.size + 1 + 1) o3 := by
 obtain ⟨h1, h2, h3⟩ := alA2 w o1 o2
 refine ⟨by (first|exact bwg|go_size), ?_, ?_, ?_⟩
 ·show _ = _
  rw [Below.heap_alloc _ _ _ h2.lt]
  exact h2
 ·show _ = _
  rw [Below.heap_alloc _ _ _ h3.lt]
  exact h3
 ·have := heap_alloc_new ((w.alloc o1).alloc o2) o3
  show _ = _
  simpa using this
end Go.Proofs.YtdjinmieogpgcaaGreat
