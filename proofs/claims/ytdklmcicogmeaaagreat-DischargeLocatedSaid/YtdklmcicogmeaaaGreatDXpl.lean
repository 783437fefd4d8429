import Derived.Test.YtdklmcicogmeaaaGreatMDRows
/- All explanations of what was measured: the program's function. -/
namespace Go.Proofs.YtdklmcicogmeaaaGreat
open Go.RowKit Go.Shelf
set_option linter.unusedVariables false
attribute [local go_sem] Oper.semAt_some

theorem nats_lt {S : List Nat} {m : Nat} (h : ∀ x ∈ S, x < m) : ∀ i ∈ nats S, 0 ≤ i ∧ i < (m : Int) := fun i hi => by
  unfold nats at hi
  obtain ⟨x, hx, rfl⟩ := List.mem_map.1 hi
  have := h x hx
  omega
theorem wpListIn_row {F : Fence} {N : Nat} {ops : Array Oper} {rest : List Oper} {o : Oper} {a : Act} {Q : Exit → Act → World → Prop} (w : World) (hgd : o.guard = none) (s x : Operand)
    (ho : o.op = .call { callee := .builtin .append, args := #[s, x], argTypes := #[95, 95] }) (base n B : Nat) (v : Value) (xs : List Value) (u : Value) (hs : a.eval s = v)
    (hown : w.ownsRow base 27 1 v n xs) (hx : a.eval x = .slice (some ⟨B, 0, none⟩) 1 1) (hc : w.cell? ⟨B, 0, none⟩ = some u) (h1 : u.oneCell' = true) (hn : n ≤ 1000000) (hbase : base ≤ w.heap.size)
    (h : ∀ v' w', w'.ownsRow base 27 1 v' (n + 1) (xs ++ [u]) → w.grownBy w' v.ownBlock → Below base w w' → wpListIn F N Tryz.prog ops Q rest (a.put o.dst v') w') : wpListIn F N Tryz.prog ops Q (o :: rest) a w := by
  obtain ⟨i, hi1, hi2, hi3, hi4⟩ := info_parts infoInts
  have hmul : (n + 1) * 24 ≤ 1000001 * 24 := Nat.mul_le_mul (by omega) (by omega)
  refine wpListIn_append_own w hgd s x 95 ho base 27 i _ 1 24 Tryz.underlying95 hi1 hi2 hi3 hi4 rfl (by omega) v n xs hs hown ⟨B, 0, none⟩ 1 1 [u] hx rfl (fun j u' hu => ?_) (fun u' hu => ?_) (by unfold maxLen; omega) (by omega) hbase
    (fun v' w' h2 h3 _ => h v' w' h2 h3 ((Below.refl base w).grown h3 hbase (fun k hk => (hown.lt k hk).1)))
  · rcases j with _ | j
    · simp at hu; subst hu; simpa [Addr.add] using hc
    · simp at hu
  · simp at hu; subst hu; exact h1
theorem RowsO.ints {lo : Nat} {w w' : World} {v : Value} {k : Nat} {LL : List (List Nat)} {vs : List Value} (h : RowsO lo w v k LL vs) (hg : w.grownBy w' v.ownBlock) : ∀ (B : Nat) cur z, w.heap[B]? = some (.cells cur 3 z) → w'.heap[B]? = some (.cells cur 3 z) := fun B cur z hB => by
  rw [hg.block B (Array.getElem?_eq_some_iff.1 hB).1 (fun e => ?_)]
  · exact hB
  · rcases h.own.2 with ⟨rfl, _⟩ | ⟨g, cap, cur', rfl, _, hgg, _⟩
    · simp [Value.ownBlock] at e
    · simp only [Value.ownBlock, Option.some.injEq] at e
      subst e
      rw [hgg] at hB
      simp only [Option.some.injEq, Obj.cells.injEq] at hB
      exact absurd hB.2.1 (by decide)
theorem ext_le : ∀ m, m ≤ 6 → ∀ k, k ≤ 7 → (ext m k 0).length ≤ 64 := by decide +kernel
theorem ext_small {m k q : Nat} {L : List (List Nat)} {S : List Nat} {p : List Nat → Bool} (hm : m ≤ 6) (hk : k ≤ 7) (h : (L ++ [S]) <+: ext m k 0) (hq : (L.filter p).length = q) : q ≤ 64 := by
  have h1 := h.length_le
  have h2 := ext_le m hm k hk
  have h3 := List.length_filter_le p L
  rw [List.length_append] at h1
  omega
theorem SlR.sameX {w w' : World} {a : Option Addr} {n sz : Nat} {xs : List Value} (h : SlR w a n sz xs) (hz : 0 < sz) (hs : SameCells w w') : SlR w' a n sz xs := by
  refine ⟨h.1, h.2.1, fun hn => ?_⟩
  obtain ⟨b, o, ha, hlt, hc⟩ := h.2.2 hn
  refine ⟨b, o, ha, ?_, fun i u hu => hs.cell (hc i u hu)⟩
  have hx : 0 < xs.length := by rw [h.1]; exact Nat.mul_pos hn hz
  obtain ⟨c, t, z, hb⟩ := blk_of_cell (hc 0 xs[0] (List.getElem?_eq_getElem hx))
  exact (Array.getElem?_eq_some_iff.1 (hs _ _ _ _ hb)).1
theorem RowsI.sameX {w w' : World} {a : Option Addr} {n : Nat} {LL : List (List Nat)} (h : RowsI w a n LL) (hs : SameCells w w') : RowsI w' a n LL := by
  obtain ⟨vs, h1, h2, h3⟩ := h
  refine ⟨vs, h1.sameX (by omega) hs, h2, fun i S hS => ?_⟩
  obtain ⟨b, m, c, h4, h5⟩ := h3 i S hS
  exact ⟨b, m, c, h4, SlR.sameX h5 (by omega) hs⟩
theorem filter_snoc_yes {p : List Nat → Bool} {L : List (List Nat)} {S : List Nat} (h : p S = true) : (L ++ [S]).filter p = L.filter p ++ [S] := by simp [h]
theorem filter_snoc_no {p : List Nat → Bool} {L : List (List Nat)} {S : List Nat} (h : p S = false) : (L ++ [S]).filter p = L.filter p := by simp [h]
set_option maxHeartbeats 4000000 in
set_option maxRecDepth 100000 in
theorem explanationsOf_any (n c m cm nf cf nr cr : Nat) (a ap af ar : Option Addr) (s l : List T3) (fs : List Int) (rs : List (Int × Int)) (w : World) (hs : T3R w a n s) (hl : T3R w ap m l) (hf : IntsR w af nf fs) (hr : PairsR w ar nr rs) :
    Calls Tryz.prog 44 #[.agg #[.slice a n c], .slice ap m cm, .agg #[.slice af nf cf, .slice ar nr cr]] w fun e' w' => ∃ a' k' c', e' = .returned (.tuple #[.slice a' k' c', .int .i64 (xplE s l fs rs).2]) ∧ Below w.heap.size w w' ∧ RowsI w' a' k' (xplE s l fs rs).1 := by
  have HA := Lib.hid (fun (w' : World) (hb : Below w.heap.size w w') => ask_any n c m cm nf cf nr cr a ap af ar s l fs rs w' (hs.below hb) (hl.below hb) (hf.below hb) (hr.below hb))
  by_cases h0 : askE s l fs rs = 0
  · have hV : xplE s l fs rs = xpS (fun S => expB s l fs rs (nats S)) m (m + 1) 0 := by unfold xplE; rw [if_neg (by rw [h0]; decide), hl.len]
    have hm6 : m ≤ 6 := by
      have h1 := h0
      unfold askE at h1
      obtain ⟨_, h1⟩ := firstErr_cons.1 h1
      obtain ⟨h2, _⟩ := firstErr_cons.1 h1
      have := (defsE_zero h2).1
      rw [hl.len] at this; exact this
    rw [hV]
    obtain ⟨V, hVV⟩ : ∃ V, V = xpS (fun S => expB s l fs rs (nats S)) m (m + 1) 0 := ⟨_, rfl⟩
    rw [← hVV]
    have HV := Lib.hid hVV
    obtain ⟨p, hp⟩ : ∃ p : List Nat → Bool, p = fun S => expB s l fs rs (nats S) := ⟨_, rfl⟩
    rw [← hp] at HV
    have HX := Lib.hid (fun (q cq : Nat) (aq : Option Addr) (S : List Nat) (W : World) (hS : IntsR W aq q (nats S)) (hq : q ≤ m) (hSB : ∀ x ∈ S, x < m) (h1 : T3R W a n s) (h2 : T3R W ap m l) (h3 : IntsR W af nf fs) (h4 : PairsR W ar nr rs) => show Calls Tryz.prog 105 #[.agg #[.slice a n c, .slice ap m cm, .slice af nf cf, .slice ar nr cr], .slice aq q cq] W fun e' w' => e' = .returned (.bool (p S)) ∧ Below W.heap.size W w' by
      rw [hp]
      exact explains_any n c m cm nf cf nr cr q cq a ap af ar aq s l fs rs (nats S) W h1 h2 h3 h4 hS h0 hq (nats_lt hSB))
    rw [h0] at HA
    clear hp
    clear hV hVV h0
    have HIN := Lib.hid (And.intro hs (And.intro hl (And.intro hf hr)))
    clear hs hl hf hr
    refine (callsIn_wide (n := 3)).1 ?_
    refine callsIn_of_wp_marks Tryz.func44 rfl trivial ?_ rfl
    simp only [Tryz.ntmps44, List.size_toArray, List.length_cons, List.length_nil, Nat.reduceAdd, Nat.reduceSub, Array.replicate_succ, Array.replicate_zero, List.push_toArray, List.append_toArray, List.nil_append, List.cons_append]
    refine (wpIn_wide (n := 3)).2 ?_
    go_wp2_with fail
    refine (HA.out _ (by (repeat' (first | (with_reducible exact Below.refl _ _) | (with_reducible assumption) | (with_reducible refine Below.drewN ?_ _) | (with_reducible refine Below.alloc ?_ ?_ _) | (with_reducible refine Below.drew ?_) | (with_reducible refine Below.setCell ?_ ?_ _) | (with_reducible refine Below.step (by assumption) ?_ ?_) | (with_reducible exact And.left (by assumption)) | go_size)))).mono ?_
    rintro e5 w5 ⟨rfl, hb5⟩
    have HB5 := Lib.hid (show Below w.heap.size w w5 from Below.trans (by (repeat' (first | (with_reducible exact Below.refl _ _) | (with_reducible assumption) | (with_reducible refine Below.drewN ?_ _) | (with_reducible refine Below.alloc ?_ ?_ _) | (with_reducible refine Below.drew ?_) | (with_reducible refine Below.setCell ?_ ?_ _) | (with_reducible refine Below.step (by assumption) ?_ ?_) | (with_reducible exact And.left (by assumption)) | go_size))) (hb5.mono (by simp; omega)))
    clear hb5 HA
    go_wp2_with fail
    obtain ⟨X8, hX8⟩ : ∃ X, X = w5.heap.size := ⟨_, rfl⟩
    rw [← hX8]
    generalize hWq : w5.alloc (Obj.cells #[.slice a n c, .slice ap m cm, .slice af nf cf, .slice ar nr cr] 170) = wq
    have hbq : Below w5.heap.size w5 wq := by rw [← hWq]; (repeat' (first | (with_reducible exact Below.refl _ _) | (with_reducible assumption) | (with_reducible refine Below.drewN ?_ _) | (with_reducible refine Below.alloc ?_ ?_ _) | (with_reducible refine Below.drew ?_) | (with_reducible refine Below.setCell ?_ ?_ _) | (with_reducible refine Below.step (by assumption) ?_ ?_) | (with_reducible exact And.left (by assumption)) | go_size))
    have k8 : wq.heap[X8]? = some (.cells #[.slice a n c, .slice ap m cm, .slice af nf cf, .slice ar nr cr] 170) := by rw [← hWq, hX8]; exact heap_alloc_new _ _
    have HBq := Lib.hid (HB5.out.trans (hbq.mono HB5.out.size))
    obtain ⟨hs, hl, hf, hr⟩ := HIN.out
    have HINq := Lib.hid (And.intro (hs.below HBq.out) (And.intro (hl.below HBq.out) (And.intro (hf.below HBq.out) (hr.below HBq.out))))
    clear hWq hbq hX8 hs hl hf hr HB5 HIN
    obtain ⟨I, hI⟩ : ∃ I : Act → World → Prop, I = fun A W => ∃ (k : Nat) (Ds : List Nat) (u10 u11 u27 u28 u29 u30 u31 u32 u41 u42 u43 u45 : Value), A = { tmps := #[.agg #[.slice a n c], .slice ap m cm, .agg #[.slice af nf cf, .slice ar nr cr], .pointer (some ⟨w.heap.size, 0, none⟩), undef, .pointer (some ⟨w.heap.size + 1, 0, none⟩), .slice none 0 0, .int .i64 0, .pointer (some ⟨X8, 0, none⟩), .int .i64 0, u10, u11, undef, .tuple #[.agg #[.slice a n c, .slice ap m cm, .slice af nf cf, .slice ar nr cr], .int .i64 0], .agg #[.slice a n c], .slice ap m cm, .agg #[.slice af nf cf, .slice ar nr cr], .tuple #[.agg #[.slice a n c, .slice ap m cm, .slice af nf cf, .slice ar nr cr], .int .i64 0], .agg #[.slice a n c, .slice ap m cm, .slice af nf cf, .slice ar nr cr], .int .i64 0, .int .i64 0, .bool false, undef, .slice ap m cm, .int .i64 m, .int .i64 ((m : Int) + 1), .int .i64 k, u27, u28, u29, u30, u31, u32, undef, undef, undef, undef, undef, undef, undef, undef, u41, u42, u43, undef, u45], defers := Ds.map mark } ∧ k ≤ m + 1 ∧ V = xpS p m (m + 1 - k) k ∧ SameCells wq W ∧ wq.heap.size ≤ W.heap.size ∧ Below w.heap.size w W ∧ MK w Ds W := ⟨_, rfl⟩
    obtain ⟨μ, hμ⟩ : ∃ μ : Act → World → Nat, μ = fun A _ => m + 1 - (intOf (A.tmps.getD 26 undef)).toNat := ⟨_, rfl⟩
    have HI := Lib.hid hI
    have HM := Lib.hid hμ
    clear hI hμ
    refine wp_loop I μ ?_ ?_
    · rw [HI.out]
      exact ⟨0, [], _, _, _, _, _, _, _, _, _, _, _, _, rfl, by omega, HV.out, SameCells.refl wq, Nat.le_refl _, HBq.out, ⟨List.nodup_nil, fun D hD => by simp at hD⟩⟩
    · intro A W hIA
      rw [HI.out] at hIA
      obtain ⟨k, Ds, u10, u11, u27, u28, u29, u30, u31, u32, u41, u42, u43, u45, rfl, hk, hVk, hS, hZ, hBw, hM⟩ := hIA
      have k0 : (0 : Int) ≤ (k : Int) := by omega
      have HVk := Lib.hid hVk
      have HS := Lib.hid hS
      have HBw := Lib.hid hBw
      have HMM := Lib.hid hM
      clear hVk hS hBw hM
      rcases Nat.lt_or_ge k (m + 1) with hlt | hge
      · have i1 : (k : Int) < (m : Int) + 1 := by omega
        go_wp2_with fail
        refine (subsets_any _ _ _).mono ?_
        rintro e6 w6 ⟨rfl, hb6, hz6, hc6, hc7⟩
        go_wp2_with fail
        obtain ⟨X11, hX11⟩ : ∃ X, X = W.heap.size := ⟨_, rfl⟩
        simp only [World.size_alloc] at hb6 hz6 hc6 hc7
        rw [← hX11] at hb6 hz6 hc6 hc7
        rw [← hX11]
        have k11 : w6.heap[X11]? = some (.cells #[.slice none 0 0] 95) := by rw [hb6.block _ (by omega), hX11]; exact heap_alloc_new _ _
        have hb6' : Below W.heap.size W w6 := Below.trans (b := W.alloc (Obj.cells #[.slice none 0 0] 95)) (by (repeat' (first | (with_reducible exact Below.refl _ _) | (with_reducible assumption) | (with_reducible refine Below.drewN ?_ _) | (with_reducible refine Below.alloc ?_ ?_ _) | (with_reducible refine Below.drew ?_) | (with_reducible refine Below.setCell ?_ ?_ _) | (with_reducible refine Below.step (by assumption) ?_ ?_) | (with_reducible exact And.left (by assumption)) | go_size))) (hb6.mono (by omega))
        have hS6 := HS.out.below hb6'
        have hZ6 : wq.heap.size ≤ w6.heap.size := by omega
        have hM6 := HMM.out.below hb6'
        have hBw6 := HBw.out.trans (hb6'.mono HBw.out.size)
        have n11 : wq.heap[X11]? = none := Array.getElem?_eq_none (by omega)
        have hw11 : w.heap.size ≤ X11 := by have := HBw.out.size; omega
        have c6 := cell_of_row _ _ 0 _ _ _ hc6
        have c7 := cell_of_row _ _ 0 _ _ _ hc7
        simp only [List.getElem?_toArray, List.getElem?_cons_zero] at c6 c7
        clear hb6 hb6' HS HMM HBw hc6 hc7
        refine (wpIn_wide (n := 3)).1 ?_
        refine range_two (gf := 114) (fst := #[]) (lst := #[.pointer (some ⟨X11 + 1, 0, none⟩), .pointer (some ⟨X11 + 1 + 1, 0, none⟩)]) rfl cf_subsets1 ?_
        intro rec hst hpe hpa htm has hbo
        have hL1 : ((w6.alloc (.deferred (some []))).alloc (.loop rec)).heap[w6.heap.size + 1]? = some (.loop rec) := by
          have := World.alloc_heap_new (w6.alloc (.deferred (some []))) (.loop rec); rwa [World.size_alloc] at this
        have hK1 : ((w6.alloc (.deferred (some []))).alloc (.loop rec)).heap[w6.heap.size]? = some (.deferred (some [])) := (Below.heap_alloc _ _ _ (by simp)).trans (World.alloc_heap_new w6 _)
        have hb9 : Below w6.heap.size w6 ((w6.alloc (.deferred (some []))).alloc (.loop rec)) := by (repeat' (first | (with_reducible exact Below.refl _ _) | (with_reducible assumption) | (with_reducible refine Below.drewN ?_ _) | (with_reducible refine Below.alloc ?_ ?_ _) | (with_reducible refine Below.drew ?_) | (with_reducible refine Below.setCell ?_ ?_ _) | (with_reducible refine Below.step (by assumption) ?_ ?_) | (with_reducible exact And.left (by assumption)) | go_size))
        generalize (w6.alloc (.deferred (some []))).alloc (.loop rec) = w9 at *
        obtain ⟨lr, hlr⟩ : ∃ lr, lr = w6.heap.size + 1 := ⟨_, rfl⟩
        obtain ⟨D, hD⟩ : ∃ D, D = w6.heap.size := ⟨_, rfl⟩
        rw [← hlr] at hL1
        rw [← hD] at hK1
        simp only [← hlr]
        simp only [← hD]
        have x11D : X11 < D := by omega
        have dl : D < lr := by omega
        have hwD : w.heap.size ≤ D := by omega
        have hnD : D ∉ Ds := fun h => by have := (Array.getElem?_eq_some_iff.1 (hM6.2 D h).2).1; omega
        have hDl : ∀ E ∈ Ds, E ≤ lr := fun E hE => by have := (Array.getElem?_eq_some_iff.1 (hM6.2 E hE).2).1; omega
        have hI9 : RInv lr D rec w wq w9 := ⟨hL1, hK1, hS6.below hb9, Nat.le_trans hZ6 hb9.size, hBw6.trans (hb9.mono hBw6.size)⟩
        have h11 := (hb9.block _ (Array.getElem?_eq_some_iff.1 k11).1).trans k11
        have hM9 := hM6.below hb9
        have c6' : w9.cell? ⟨X11 + 1, 0, none⟩ = some (.int .i64 m) := by rw [cellB hb9 _ _ (by omega)]; exact c6
        have c7' : w9.cell? ⟨X11 + 1 + 1, 0, none⟩ = some (.int .i64 k) := by rw [cellB hb9 _ _ (by omega)]; exact c7
        clear hL1 hK1 hb9 hlr hD hS6 hZ6 hM6 hBw6 k11 c6 c7 hX11
        show CallsIn Fence.wide _ _ _ #[.func (.yield lr) #[] #[], .pointer (some ⟨X11 + 1, 0, none⟩), .pointer (some ⟨X11 + 1 + 1, 0, none⟩)] _ _
        refine (callsIn_wide.2 (subsets1_calls lr m k (X11 + 1) (X11 + 1 + 1) (lr + 1)
          (fun L B => RInv lr D rec w wq B ∧ MK w Ds B ∧ ∃ q av cv vs, B.heap[X11]? = some (.cells #[.slice av q cv] 95) ∧ RowsO (lr + 1) B (.slice av q cv) q (L.filter p) vs)
          (fun _ => False) w9 (by omega) (by omega) ?_ ?_ ?_ c6' c7' ⟨hI9, hM9, 0, none, 0, [], h11, RowsO.zero _ _⟩)).mono ?_
        · rintro L A B ⟨h1, h2, q, av, cv, vs, h3, h4⟩ hb
          exact ⟨h1.below hb, h2.below hb, q, av, cv, vs, (hb.block _ (Array.getElem?_eq_some_iff.1 h3).1).trans h3, h4.keep (KeepR.below hb)⟩
        · rintro L A ⟨h1, _⟩
          have := (Array.getElem?_eq_some_iff.1 h1.1).1
          omega
        · rintro L S aS capS A hpre ⟨h1, h2, q, av, cv, vs, h3, h4⟩ hSl hSx hOS
          have hql := ext_small (show m ≤ 6 by omega) (show k ≤ 7 by omega) hpre h4.len
          clear hpre
          refine yield_two h1.1 hst hpe (by rw [hpa]; rfl) ?_
          obtain ⟨RB, hRB⟩ : ∃ RB : Loop, RB = { rec with state := .busy } := ⟨_, rfl⟩
          rw [← hRB]
          have HRB := Lib.hid hRB
          clear hRB
          rw [has, hbo, hpa, htm]
          clear has hbo hpa htm hst hpe
          have hjl := h1.1
          have hI := h1
          gi_wp2
          refine ⟨hjl, ?_⟩
          have hB1 : SameCells wq (A.putObj lr (.loop RB)) := hI.2.2.1.put hjl
          have hB2 : wq.heap.size ≤ (A.putObj lr (.loop RB)).heap.size := by rw [World.putObj_size]; exact hI.2.2.2.1
          have hB3 : Below w.heap.size w (A.putObj lr (.loop RB)) := hI.2.2.2.2.trans (belowK_b (w := w) (Nat.le_refl _) A lr _ _ (by omega) hjl rfl rfl)
          have hB4 : (A.putObj lr (.loop RB)).heap[lr]? = some (.loop RB) := World.putObj_heap_same (Array.getElem?_eq_some_iff.1 hjl).1
          have hB5 : (A.putObj lr (.loop RB)).heap[D]? = some (.deferred (some [])) := (World.putObj_heap_other (by omega)).trans hI.2.1
          have hB6 : KeepR A (A.putObj lr (.loop RB)) := KeepR.put hjl
          have hB7 : MK w Ds (A.putObj lr (.loop RB)) := h2.put hjl
          have e11 : (A.putObj lr (.loop RB)).heap[X11]? = _ := (World.putObj_heap_other (show X11 ≠ lr by omega)).trans h3
          have hR1 := h4.keep hB6
          have hS1 := (IntsT.of_owns hOS).keep hB6.1 (fun B cc z hB => hB6.2 _ _ _ _ (.inl rfl) hB)
          generalize A.putObj lr (.loop RB) = A1 at *
          clear hI hjl h1 h2 h3 h4 hOS
          have hnrm : ∀ (ac : Act) (W8 : World), W8.heap[lr]? = some (.loop RB) → W8.heap[D]? = some (.deferred (some [])) → SameCells wq W8 → wq.heap.size ≤ W8.heap.size → Below w.heap.size w W8 → MK w Ds W8 → (∀ (B : Nat) cur z, A1.heap[B]? = some (.cells cur 3 z) → W8.heap[B]? = some (.cells cur 3 z)) →
              (∃ q av cv vs, W8.heap[X11]? = some (.cells #[.slice av q cv] 95) ∧ RowsO (lr + 1) W8 (.slice av q cv) q ((L ++ [S]).filter p) vs) →
              twoPost Tryz.prog lr rec (fun e B => (e = .returned (.bool true) ∧ (RInv lr D rec w wq B ∧ MK w Ds B ∧ ∃ q av cv vs, B.heap[X11]? = some (.cells #[.slice av q cv] 95) ∧ RowsO (lr + 1) B (.slice av q cv) q ((L ++ [S]).filter p) vs) ∧ KeepI (lr + 1) A B) ∨ (e = .returned (.bool false) ∧ False)) .normal ac W8 := by
            rintro ac W8 g4 g5 g1 g2 g3 g7 gI ⟨q', av', cv', vs', g11, gR⟩
            refine ⟨by rw [← HRB.out]; exact g4, .inl ⟨rfl, ⟨RInv.ready (A1 := A1) g1 g2 g3 g4 g5 (by omega), g7.put g4, q', av', cv', vs', (World.putObj_heap_other (show X11 ≠ lr by omega)).trans g11, gR.keep (KeepR.put g4)⟩, fun B cc z _ hB => ?_⟩⟩
            exact (KeepR.put (r' := rec) g4).2 _ _ _ _ (.inl rfl) (gI _ _ _ (hB6.2 _ _ _ _ (.inl rfl) hB))
          have HNRM := Lib.hid hnrm
          clear hnrm
          have kx := hB1 _ _ _ _ k8
          have t0 := cell_of_row _ _ 0 _ _ _ kx
          have t1 := cell_of_row _ _ 1 _ _ _ kx
          have t2 := cell_of_row _ _ 2 _ _ _ kx
          have t3 := cell_of_row _ _ 3 _ _ _ kx
          simp only [List.getElem?_toArray, List.getElem?_cons_zero, List.getElem?_cons_succ] at t0 t1 t2 t3
          have HXS := Lib.hid (HX.out k capS aS S A1 hS1.1 (by omega) hSx (HINq.out.1.same hB1 hB2) (HINq.out.2.1.same hB1 hB2) (HINq.out.2.2.1.sameC hB1 hB2) (HINq.out.2.2.2.same hB1 hB2))
          have HF := Lib.hid (And.intro hB1 (And.intro hB2 (And.intro hB3 (And.intro hB4 (And.intro hB5 (And.intro hB7 (And.intro e11 (And.intro hR1 hS1))))))))
          clear hB1 hB2 hB3 hB4 hB5 hB6 hB7 e11 hR1 hS1 kx
          gi_wp2
          refine ⟨trivial, CallsIn.mono (callsIn_wide.2 HXS.out) ?_⟩
          rintro e7 w7 ⟨rfl, hb7⟩
          have HB7 := Lib.hid hb7
          have e11 := (hb7.block _ (Array.getElem?_eq_some_iff.1 HF.out.2.2.2.2.2.2.1).1).trans HF.out.2.2.2.2.2.2.1
          have y11 := cell_of_row _ _ 0 _ _ _ e11
          have f11 := frozen_of_row _ _ 0 _ _ e11
          simp only [List.getElem?_toArray, List.getElem?_cons_zero] at y11
          have HE11 := Lib.hid e11
          have HR7 := Lib.hid (HF.out.2.2.2.2.2.2.2.1.keep (KeepR.below hb7))
          have HS7 := Lib.hid (HF.out.2.2.2.2.2.2.2.2.keep hb7.size (fun B cc z hB => (KeepR.below hb7).2 _ _ _ _ (.inl rfl) hB))
          have l11 : X11 < w7.heap.size := (Array.getElem?_eq_some_iff.1 e11).1
          have llr : lr < w7.heap.size := Nat.lt_of_lt_of_le (Array.getElem?_eq_some_iff.1 HF.out.2.2.2.1).1 hb7.size
          clear hb7 e11 HXS t0 t1 t2 t3
          cases hpS : p S
          · gi_wp2
            obtain ⟨hB1, hB2, hB3, hB4, hB5, hB7, e11, hR1, hS1⟩ := HF.out
            have hb7 := HB7.out
            refine HNRM.out _ _ ((hb7.block _ (Array.getElem?_eq_some_iff.1 hB4).1).trans hB4) ((hb7.block _ (Array.getElem?_eq_some_iff.1 hB5).1).trans hB5) (hB1.below hb7) (Nat.le_trans hB2 hb7.size) (hB3.trans (hb7.mono hB3.size)) (hB7.below hb7) (fun B cc z hB => (KeepR.below hb7).2 _ _ _ _ (.inl rfl) hB) ⟨q, av, cv, vs, HE11.out, ?_⟩
            rw [filter_snoc_no hpS]
            exact HR7.out
          · gi_wp2_with (gi_at_builtin; refine wpListIn_row _ rfl _ _ rfl (lr + 1) q _ (.slice av q cv) vs (.slice aS k capS) rfl (HR7.out.own.alloc _) rfl (by simp [go_sem]) rfl (by omega) (by simp; omega) ?_)
            intro v2 w2 hown2 hgr2 hb2
            obtain ⟨av2, cv2, rfl, _, _⟩ := owns_slice hown2
            have hba : Below w7.heap.size w7 (w7.alloc (Obj.cells #[.slice aS k capS] 27)) := by (repeat' (first | (with_reducible exact Below.refl _ _) | (with_reducible assumption) | (with_reducible refine Below.drewN ?_ _) | (with_reducible refine Below.alloc ?_ ?_ _) | (with_reducible refine Below.drew ?_) | (with_reducible refine Below.setCell ?_ ?_ _) | (with_reducible refine Below.step (by assumption) ?_ ?_) | (with_reducible exact And.left (by assumption)) | go_size))
            have hRa := HR7.out.keep (KeepR.below hba)
            have hSa := HS7.out.keep hba.size (fun B cc z hB => (KeepR.below hba).2 _ _ _ _ (.inl rfl) hB)
            have hR2 := hRa.next hSa hown2 hgr2
            have hI2 := hRa.ints hgr2
            have hza := hba.size
            generalize w7.alloc (Obj.cells #[.slice aS k capS] 27) = wa at *
            have hb2' : Below (lr + 1) w7 w2 := (hba.mono (by omega)).trans hb2
            have e11 := (hb2'.block _ (by omega)).trans HE11.out
            have z11 := cell_of_row _ _ 0 _ _ _ e11
            have f12 := frozen_of_row _ _ 0 _ _ e11
            simp only [List.getElem?_toArray, List.getElem?_cons_zero] at z11
            have hz2 := hb2'.size
            have l12 : X11 < w2.heap.size := by omega
            have HB2 := Lib.hid hb2'
            have HR2 := Lib.hid hR2
            have HI2 := Lib.hid (fun (B : Nat) cc z (hB : w7.heap[B]? = some (Obj.cells cc 3 z)) => hI2 B cc z ((KeepR.below hba).2 _ _ _ _ (.inl rfl) hB))
            have HE12 := Lib.hid e11
            clear hba hRa hSa hR2 hI2 hown2 hgr2 hb2 hb2' e11 HR7 HS7 hza
            gi_wp2
            obtain ⟨hB1, hB2, hB3, hB4, hB5, hB7, _, _, _⟩ := HF.out
            have hb7 := HB7.out
            have hb2 := HB2.out
            have hq11 : wq.heap.size ≤ X11 := Array.getElem?_eq_none_iff.1 n11
            have g4 := (hb2.block lr (by omega)).trans ((hb7.block _ (Array.getElem?_eq_some_iff.1 hB4).1).trans hB4)
            have g5 := (hb2.block D (by omega)).trans ((hb7.block _ (Array.getElem?_eq_some_iff.1 hB5).1).trans hB5)
            have hS7 := hB1.below hb7
            have hS2 : SameCells wq w2 := fun j cc t z hj => (hb2.block j (by have := (Array.getElem?_eq_some_iff.1 hj).1; omega)).trans (hS7 j cc t z hj)
            have hM7 := hB7.below hb7
            have hM2 : MK w Ds w2 := ⟨hM7.1, fun E hE => ⟨(hM7.2 E hE).1, (hb2.block E (by have := hDl E hE; omega)).trans (hM7.2 E hE).2⟩⟩
            have hz7 := hb7.size
            have hBw2 : Below w.heap.size w w2 := (hB3.trans (hb7.mono hB3.size)).trans (hb2.mono (by omega))
            refine HNRM.out _ _ ((heap_set_ne (show lr ≠ X11 by omega)).trans g4) ((heap_set_ne (show D ≠ X11 by omega)).trans g5) (hS2.set n11) (by simp; omega) (hBw2.setCell hw11 _) (hM2.set HE12.out)
              (fun B cc z hB => (KeepR.set HE12.out).2 _ _ _ _ (.inl rfl) (HI2.out B cc z ((KeepR.below hb7).2 _ _ _ _ (.inl rfl) hB))) ⟨q + 1, av2, cv2, vs ++ [.slice aS k capS], cells_set HE12.out, ?_⟩
            rw [filter_snoc_yes hpS]
            exact HR2.out.keep (KeepR.set HE12.out)
        · rintro e W9 ⟨⟨v, rfl⟩, h⟩
          obtain ⟨h1, h2, q, av, cv, vs, h3, h4⟩ := h.resolve_right id
          refine ⟨⟨_, rfl⟩, .inl ⟨h1.1, ?_⟩⟩
          have hS := h1.2.2.1.put (r' := { rec with state := .exhausted }) h1.1
          have hZ9 : wq.heap.size ≤ (W9.putObj lr (.loop { rec with state := .exhausted })).heap.size := by rw [World.putObj_size]; exact h1.2.2.2.1
          have hBw : Below w.heap.size w (W9.putObj lr (.loop { rec with state := .exhausted })) := h1.2.2.2.2.trans (belowK_b (w := w) (Nat.le_refl _) W9 lr _ _ (by omega) h1.1 rfl rfl)
          have hM : MK w (D :: Ds) (W9.putObj lr (.loop { rec with state := .exhausted })) := (h2.cons h1.2.1 hwD hnD).put h1.1
          have g11 : (W9.putObj lr (.loop { rec with state := .exhausted })).heap[X11]? = _ := (World.putObj_heap_other (show X11 ≠ lr by omega)).trans h3
          have hR := h4.keep (KeepR.put (r' := { rec with state := .exhausted }) h1.1)
          generalize W9.putObj lr (.loop { rec with state := .exhausted }) = W2 at *
          have c11 := cell_of_row _ _ 0 _ _ _ g11
          simp only [List.getElem?_toArray, List.getElem?_cons_zero] at c11
          have l11 : X11 < W2.heap.size := (Array.getElem?_eq_some_iff.1 g11).1
          have hql := hR.len
          have HR := Lib.hid hR
          have HS := Lib.hid hS
          have HBw := Lib.hid hBw
          have HMM := Lib.hid hM
          have hstep : xpS p m (m + 1 - k) k = if (ext m k 0).filter p ≠ [] then ((ext m k 0).filter p, 0) else xpS p m (m + 1 - (k + 1)) (k + 1) := by
            rw [show m + 1 - k = (m + 1 - (k + 1)) + 1 by omega]; rfl
          have HVk := Lib.hid (HVk.out.trans hstep)
          clear h h1 h2 h3 h4 hst hpe hpa htm has hbo hI9 hM9 h11 c6' c7' g11 hR hS hBw hM hstep
          rcases Nat.eq_zero_or_pos q with hq0 | hq0
          · subst hq0
            have hnil : (ext m k 0).filter p = [] := List.eq_nil_of_length_eq_zero hql
            have HV2 := Lib.hid (HVk.out.trans (if_neg (fun h => h hnil)))
            clear hql hnil HVk
            go_wp2_with fail
            refine ⟨?_, ?_⟩
            · rw [HI.out]
              exact ⟨k + 1, D :: Ds, _, _, _, _, _, _, _, _, _, _, _, _, rfl, by omega, HV2.out, HS.out, hZ9, HBw.out, HMM.out⟩
            · rw [HM.out]
              simp [intOf]
              omega
          · have i2 : (0 : Int) < (q : Int) := by omega
            have hne : (ext m k 0).filter p ≠ [] := fun h => by rw [h] at hql; simp at hql; omega
            have HV2 := Lib.hid (HVk.out.trans (if_pos hne))
            clear hql hne HVk
            go_wp2_with fail
            refine leaves_marks (B := w.heap.size) (w0 := w) (D :: Ds) W2 HMM.out.1 HMM.out.2 HBw.out (fun w' hs hb' => ⟨.tuple #[.slice av q cv, .int .i64 0], ?_, av, q, cv, ?_, hb', ?_⟩)
            · simp [results, Tryz.results44, go_sem]
            · rw [HV2.out]
            · rw [HV2.out]
              exact HR.out.rows.2.sameX hs
      · obtain rfl : k = m + 1 := by omega
        have i1 : ¬ (((m + 1 : Nat) : Int) < (m : Int) + 1) := by omega
        go_wp2_with fail
        have hV2 : V = ([], 12) := by rw [HVk.out, Nat.sub_self]; rfl
        rw [hV2]
        refine leaves_marks (B := w.heap.size) (w0 := w) Ds W HMM.out.1 HMM.out.2 HBw.out (fun w' hs hb' => ⟨.tuple #[.slice none 0 0, .int .i64 12], ?_, none, 0, ⟨0, rfl⟩, hb', RowsI.nil _ _⟩)
        simp [results, Tryz.results44, go_sem]
  · have hV : xplE s l fs rs = ([], askE s l fs rs) := by unfold xplE; rw [if_pos h0]
    rw [hV]
    generalize askE s l fs rs = E at *
    have hE1 : (E != 0) = true := by simpa using h0
    clear hV h0 hs hl hf hr
    refine (callsIn_wide (n := 3)).1 ?_
    refine callsIn_of_wp_marks Tryz.func44 rfl trivial ?_ rfl
    simp only [Tryz.ntmps44, List.size_toArray, List.length_cons, List.length_nil, Nat.reduceAdd, Nat.reduceSub, Array.replicate_succ, Array.replicate_zero, List.push_toArray, List.append_toArray, List.nil_append, List.cons_append]
    refine (wpIn_wide (n := 3)).2 ?_
    go_wp2_with fail
    refine (HA.out _ (by (repeat' (first | (with_reducible exact Below.refl _ _) | (with_reducible assumption) | (with_reducible refine Below.drewN ?_ _) | (with_reducible refine Below.alloc ?_ ?_ _) | (with_reducible refine Below.drew ?_) | (with_reducible refine Below.setCell ?_ ?_ _) | (with_reducible refine Below.step (by assumption) ?_ ?_) | (with_reducible exact And.left (by assumption)) | go_size)))).mono ?_
    rintro e5 w5 ⟨rfl, hb5⟩
    have HB5 := Lib.hid (show Below w.heap.size w w5 from Below.trans (by (repeat' (first | (with_reducible exact Below.refl _ _) | (with_reducible assumption) | (with_reducible refine Below.drewN ?_ _) | (with_reducible refine Below.alloc ?_ ?_ _) | (with_reducible refine Below.drew ?_) | (with_reducible refine Below.setCell ?_ ?_ _) | (with_reducible refine Below.step (by assumption) ?_ ?_) | (with_reducible exact And.left (by assumption)) | go_size))) (hb5.mono (by simp; omega)))
    clear hb5 HA
    go_wp2_with fail
    refine leaves_marks (B := w.heap.size) (w0 := w) [] _ List.nodup_nil (fun D hD => by simp at hD) (Below.alloc HB5.out HB5.out.size _) (fun w' hs hb' => ⟨.tuple #[.slice none 0 0, .int .i64 E], ?_, none, 0, 0, rfl, hb', RowsI.nil _ _⟩)
    simp [results, Tryz.results44, go_sem]
end Go.Proofs.YtdklmcicogmeaaaGreat
