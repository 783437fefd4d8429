import Derived.ArgAppend
import Derived.Deep.AppendLies
import Derived.Test.YtdjinmieogpgcaaGreatMTCirP
import Derived.Test.YtdjinmieogpgcaaGreatTCurr
/- All states that are reached: the program. -/
namespace Go.Proofs.YtdjinmieogpgcaaGreat
open Go.RowKit Go.Shelf
set_option linter.unusedVariables false
set_option linter.unusedSimpArgs false
attribute [local go_sem] Oper.semAt_some
theorem own_otherO {w w' : World} {base n sz : Nat} {e : TypeId} {v : Value} {xs : List Value} (h : w.ownsRow base e sz v n xs) (hg : w.grownBy w' v.ownBlock) {k : Nat} {o : Obj} (hk : w.heap[k]? = some o) (ho : ∀ c z, o ≠ .cells c e z) : w'.heap[k]? = some o := by
 rw [hg.block k (Array.getElem?_eq_some_iff.1 hk).1 (fun e => ?_)]
 ·exact hk
 ·rcases h.2 with ⟨rfl, _⟩ | ⟨g, cap, cur', rfl, _, hgg, _⟩
  ·simp [Value.ownBlock] at e
  ·simp only [Value.ownBlock, Option.some.injEq] at e
   subst e
   rw [hgg] at hk
   simp only [Option.some.injEq] at hk
   exact ho _ _ hk.symm
structure ReaO (w wa : World) (Ds : List Nat) (X3 X4 : Nat) (O : List Nat) (B : World) : Prop where
 sc : SameCells wa B
 sz : wa.heap.size ≤ B.heap.size
 bw : Below w.heap.size w B
 mks : MK w Ds B
 x3 : BlkR B X3 (.cells (knw O) 141)
 x4 : ∃ q av cv, BlkR B X4 (.cells #[.slice av q cv] 48) ∧ B.ownsRow wa.heap.size 3 1 (.slice av q cv) q (icells (nats O))
theorem BlkR.put {w : World} {g l : Nat} {c : Array Value} {t : Nat} {r r' : Loop} (h : BlkR w g (.cells c t)) (hl : w.heap[l]? = some (.loop r)) : BlkR (w.putObj l (.loop r')) g (.cells c t) :=
 (World.putObj_heap_other (by rintro rfl; unfold BlkR at h; rw [hl] at h; cases h)).trans h
theorem ReaO.below {w wa A B : World} {Ds : List Nat} {X3 X4 : Nat} {O : List Nat} (h : ReaO w wa Ds X3 X4 O A) (hb : Below A.heap.size A B) : ReaO w wa Ds X3 X4 O B := by
 obtain ⟨q, av, cv, h4, h5⟩ := h.x4
 exact ⟨h.sc.below hb, Nat.le_trans h.sz hb.size, h.bw.trans (hb.mono h.bw.size), h.mks.below hb, h.x3.below hb, q, av, cv, h4.below hb, owns_below h5 hb (fun z hz => (h5.lt z hz).2)⟩
theorem ReaO.put {w wa A : World} {Ds : List Nat} {X3 X4 l : Nat} {O : List Nat} {r r' : Loop} (h : ReaO w wa Ds X3 X4 O A) (hl : A.heap[l]? = some (.loop r)) (hw : w.heap.size ≤ l) : ReaO w wa Ds X3 X4 O (A.putObj l (.loop r')) := by
 obtain ⟨q, av, cv, h4, h5⟩ := h.x4
 exact ⟨h.sc.put hl, by rw [World.putObj_size]; exact h.sz, h.bw.trans (belowK_b (w := w) (Nat.le_refl _) A l _ _ hw hl rfl rfl), h.mks.put hl, h.x3.put hl, q, av, cv, h4.put hl, own_put h5 hl⟩
theorem own_setO {w : World} {base n sz b i : Nat} {e t : TypeId} {v x : Value} {xs : List Value} {c : Array Value} (h : w.ownsRow base e sz v n xs) (hb : w.heap[b]? = some (.cells c t)) (ht : e ≠ t) : (w.setCell ⟨b, i, none⟩ x).ownsRow base e sz v n xs := by
 refine ⟨h.1, ?_⟩
 rcases h.2 with hn | ⟨g, cap, cur, rfl, hbase, hgg, rest⟩
 ·exact .inl hn
 ·refine .inr ⟨g, cap, cur, rfl, hbase, ?_, rest⟩
  rw [heap_set_neI (by rintro rfl; rw [hb] at hgg; simp only [Option.some.injEq, Obj.cells.injEq] at hgg; exact ht hgg.2.1.symm)]
  exact hgg
theorem MK.setI {w A : World} {Ds : List Nat} {b i : Nat} {t : TypeId} {c : Array Value} {v : Value} (h : MK w Ds A) (hb : A.heap[b]? = some (.cells c t)) : MK w Ds (A.setCell ⟨b, i, none⟩ v) := ⟨h.1, fun D hD => ⟨(h.2 D hD).1, (heap_set_neI (by rintro rfl; rw [(h.2 D hD).2] at hb; cases hb)).trans (h.2 D hD).2⟩⟩
theorem MK.other {w A B : World} {Ds : List Nat} {base n sz : Nat} {e : TypeId} {v : Value} {xs : List Value} (h : MK w Ds A) (ho : A.ownsRow base e sz v n xs) (hg : A.grownBy B v.ownBlock) : MK w Ds B := ⟨h.1, fun D hD => ⟨(h.2 D hD).1, own_otherO ho hg (h.2 D hD).2 (fun c z h => by cases h)⟩⟩
theorem BlkR.other {A B : World} {base n sz g : Nat} {e t : TypeId} {v : Value} {xs : List Value} {c : Array Value} (h : BlkR A g (.cells c t)) (ho : A.ownsRow base e sz v n xs) (hg : A.grownBy B v.ownBlock) (ht : t ≠ e) : BlkR B g (.cells c t) := own_otherO ho hg h (fun c z h => by injection h with _ h _; exact ht h)
theorem reaF_mono (m : Mac) (k : Nat) : (reaF m k).length ≤ (reaF m (k + 1)).length := by
 show _ ≤ (match (reaF m k)[k]? with | some s => reaIn (reaF m k) s (movL m s) | none => reaF m k).length
 have key : ∀ (o : List Nat) (s : Nat) (L : List Nat), o.length ≤ (reaIn o s L).length := fun o s => snoc_ind (Nat.le_refl _) (fun L c ih => by
  rw [reaIn_snoc]
  split
  ·exact ih
  ·rw [List.length_append]; omega)
 cases (reaF m k)[k]? with
 | none => exact Nat.le_refl _
 | some s => exact key _ _ _
set_option maxHeartbeats 4000000 in
set_option maxRecDepth 100000 in
theorem reachable_any (m : Mac) (ab ag : Option Addr) (nb cb ng cg : Nat) (w : World) (hm : MacV m) (hnb : m.br.length = nb) (hg : GrR w ag ng m.gs) :
    Calls Tryz.prog 51 #[.agg #[.slice ab nb cb, .int .i64 m.st, .slice ag ng cg]] w fun e' w' => ∃ a' n' c', e' = .returned (.slice a' n' c') ∧ Below w.heap.size w w' ∧ IntsR w' a' n' (nats (reaS m)) := by
 have hn6 : nb ≤ 6 := by rw [← hnb]; exact hm.n1
 have hst0 := hm.st.1
 have hst1 : m.st < 64 := by
  have := hm.st.2
  have hp : (2 : Int) ^ m.br.length ≤ 64 := by
   rw [hnb]
   have : nb = 0 ∨ nb = 1 ∨ nb = 2 ∨ nb = 3 ∨ nb = 4 ∨ nb = 5 ∨ nb = 6 := by omega
   rcases this with rfl | rfl | rfl | rfl | rfl | rfl | rfl <;> decide
  omega
 obtain ⟨sn, hsn⟩ : ∃ n : Nat, m.st = n := ⟨m.st.toNat, by omega⟩
 have HM := Lib.hid (And.intro hm hnb)
 have HGR := Lib.hid hg
 have HST := Lib.hid hsn
 have HRO := Lib.hid (reaF_ok hm)
 have HP64 := Lib.hid (show 2 ^ nb ≤ 64 from Nat.le_trans (Nat.pow_le_pow_right (by omega) hn6) (by decide))
 have HMV := Lib.hid (fun (s : Nat) (W : World) (h : GrR W ag ng m.gs) => moves_any m s ab ag nb cb ng cg W h)
 have HTU := Lib.hid (fun (s i : Nat) (W : World) (hs : s < 64) (hi : i < 6) => show Calls Tryz.prog 79 #[.int .i64 (s : Int), .int .i64 (i : Int)] W (fun e' w' => e' = .returned (.int .i64 ((trn s i : Nat) : Int)) ∧ W = w') from turned_any s i W hs hi)
 rw [hsn] at HMV ⊢
 have hs64 : sn < 64 := by omega
 have q0 : (0 : Int) ≤ (sn : Int) := by omega
 have q1 : (sn : Int) < 64 := by omega
 have hR0 : reaF m 0 = [sn] := by show [m.st.toNat] = [sn]; rw [hsn]; rfl
 clear hm hnb hg hst0 hst1 hsn
 refine (callsIn_wide (n := 3)).1 ?_
 refine callsIn_of_wp_marks Tryz.func51 rfl trivial ?_ rfl
 simp only [Tryz.ntmps51, List.size_toArray, List.length_cons, List.length_nil, Nat.reduceAdd, Nat.reduceSub, Array.replicate_succ, Array.replicate_zero, List.push_toArray, List.append_toArray, List.nil_append, List.cons_append]
 refine (wpIn_wide (n := 3)).2 ?_
 have HR0 := Lib.hid hR0
 clear hR0
 go_wp2_with fail
 obtain ⟨wa, hWa⟩ : ∃ wa, wa = w.alloc (Obj.cells #[.slice ab nb cb, .int .i64 (sn : Int), .slice ag ng cg] 98) := ⟨_, rfl⟩
 rw [← hWa]
 have hba : Below w.heap.size w wa := by rw [hWa]; (first|exact bwg|go_size)
 have k1 : BlkR wa w.heap.size (.cells #[.slice ab nb cb, .int .i64 (sn : Int), .slice ag ng cg] 98) := by show wa.heap[w.heap.size]? = _; rw [hWa]; exact heap_alloc_new _ _
 have hza : wa.heap.size = w.heap.size + 1 := by rw [hWa]; simp
 obtain ⟨X1, hX1⟩ : ∃ X, X = w.heap.size := ⟨_, rfl⟩
 obtain ⟨X3, hX3⟩ : ∃ X, X = w.heap.size + 1 := ⟨_, rfl⟩
 obtain ⟨g0, hg0⟩ : ∃ X, X = w.heap.size + 1 + 1 := ⟨_, rfl⟩
 obtain ⟨X4, hX4⟩ : ∃ X, X = w.heap.size + 1 + 1 + 1 := ⟨_, rfl⟩
 rw [← hX1] at k1
 simp only [← hX4]
 simp only [← hg0]
 simp only [← hX3]
 simp only [← hX1]
 generalize hKN : (List.set _ sn (Value.bool true)).toArray = KN
 have hKN2 : KN = knw [sn] := by rw [← hKN, ← List.setIfInBounds_toArray]; exact (congrArg (fun a => Array.setIfInBounds a sn (Value.bool true)) (show _ = knw [] from rfl)).trans (knw_set [] sn)
 clear hKN
 subst hKN2
 obtain ⟨w4, hW4⟩ : ∃ w4, w4 = ((wa.alloc (Obj.cells (knw [sn]) 141)).alloc (Obj.cells #[.int .i64 (sn : Int)] 3)).alloc (Obj.cells #[.slice (some ⟨g0, 0, none⟩) 1 1] 48) := ⟨_, rfl⟩
 rw [← hW4]
 have hb4 : Below wa.heap.size wa w4 := by rw [hW4]; (first|exact bwg|go_size)
 have z3 : wa.heap.size = X3 := by omega
 have k3 : BlkR w4 X3 (.cells (knw [sn]) 141) := by
  show w4.heap[X3]? = _
  rw [hW4, ← z3, Below.heap_alloc _ _ _ (by simp; omega), Below.heap_alloc _ _ _ (by simp)]
  exact heap_alloc_new _ _
 have k4 : BlkR w4 X4 (.cells #[.slice (some ⟨g0, 0, none⟩) 1 1] 48) := by
  show w4.heap[X4]? = _
  have := heap_alloc_new ((wa.alloc (Obj.cells (knw [sn]) 141)).alloc (Obj.cells #[.int .i64 (sn : Int)] 3)) (Obj.cells #[.slice (some ⟨g0, 0, none⟩) 1 1] 48)
  rw [← hW4] at this
  simpa [show wa.heap.size + 1 + 1 = X4 by omega] using this
 have hO0 : w4.ownsRow wa.heap.size 3 1 (.slice (some ⟨g0, 0, none⟩) 1 1) 1 (icells (nats [sn])) := by
  rw [hW4]
  exact (owns_lit (w0 := wa.alloc (Obj.cells (knw [sn]) 141)) (base := wa.heap.size) (n := 1) (sz := 1) (cs := #[.int .i64 (sn : Int)]) (by simp; omega) (by omega) (by omega) rfl).alloc _
 have hRE : ReaO w wa [] X3 X4 [sn] w4 := ⟨(SameCells.refl wa).below hb4, hb4.size, hba.trans (hb4.mono hba.size), ⟨List.nodup_nil, fun D hD => by simp at hD⟩, k3, 1, _, 1, k4, hO0⟩
 have K1 := Lib.hid k1
 have x13 : X1 < X3 := by omega
 have x34 : X3 < X4 := by omega
 have hw1 : w.heap.size ≤ X1 := by omega
 have hwa : wa.heap.size ≤ X3 := by omega
 have hwX : wa.heap.size ≤ X4 := by omega
 clear hW4 hb4 k3 k4 hO0 z3 hX1 hX3 hX4 hza k1 hWa hg0
 have HBA := Lib.hid hba
 clear hba
 obtain ⟨I, hI⟩ : ∃ I : Act → World → Prop, I = fun A W => ∃ (k : Nat) (Ds : List Nat) (u6 u7 u8 u17 u18 u19 u20 u21 u22 u23 u24 u25 u26 u27 u28 u29 u30 u31 u32 u33 u34 u35 u36 u37 u38 u39 u40 u41 u42 u43 u44 u45 u46 : Value), A = { tmps := #[.agg #[.slice ab nb cb, .int .i64 (sn : Int), .slice ag ng cg], .pointer (some ⟨X1, 0, none⟩), .slice none 0 0, .pointer (some ⟨X3, 0, none⟩), .pointer (some ⟨X4, 0, none⟩), .int .i64 (k : Int), u6, u7, u8, .pointer (some ⟨X1, 0, none⟩), .pointer (some ⟨X1, 1, none⟩), .int .i64 (sn : Int), .slice (some ⟨g0, 0, none⟩) 1 1, .pointer (some ⟨X1, 0, none⟩), .pointer (some ⟨X1, 1, none⟩), .int .i64 (sn : Int), .pointer (some ⟨X3, sn, none⟩), u17, u18, u19, u20, u21, u22, u23, u24, u25, u26, u27, u28, u29, u30, u31, u32, u33, u34, u35, u36, u37, u38, u39, u40, u41, u42, u43, u44, u45, u46], defers := Ds.map mark } ∧ k ≤ 64 ∧ k ≤ (reaF m k).length ∧ ReaO w wa Ds X3 X4 (reaF m k) W := ⟨_, rfl⟩
 obtain ⟨μ, hμ⟩ : ∃ μ : Act → World → Nat, μ = fun A _ => 65 - (intOf (A.tmps.getD 5 undef)).toNat := ⟨_, rfl⟩
 have HI := Lib.hid hI
 have HMU := Lib.hid hμ
 clear hI hμ
 refine wp_loop I μ ?_ ?_
 ·rw [HI.out]
  exact ⟨0, [], _, _, _, _, _, _, _, _, _, _, _, _, _, _, _, _, _, _, _, _, _, _, _, _, _, _, _, _, _, _, _, _, _, rfl, by omega, Nat.zero_le _, by rw [HR0.out]; exact hRE⟩
 ·intro A W hIA
  rw [HI.out] at hIA
  obtain ⟨k, Ds, u6, u7, u8, u17, u18, u19, u20, u21, u22, u23, u24, u25, u26, u27, u28, u29, u30, u31, u32, u33, u34, u35, u36, u37, u38, u39, u40, u41, u42, u43, u44, u45, u46, rfl, hk64, hkl, hRO⟩ := hIA
  clear hRE
  obtain ⟨q, av, cv, h4, h5⟩ := hRO.x4
  have hql : (reaF m k).length = q := by have := h5.1; simp only [icells, nats, List.length_map] at this; omega
  have HSL := Lib.hid (SlR.of_owns h5)
  have kx := hRO.sc _ _ _ _ K1.out
  have HKX := Lib.hid kx
  obtain ⟨c1, c1_1, c1_2, l1⟩ := blkc3 kx
  have c4 := blk_cell h4 (i := 0) rfl
  have l4 := blk_lt h4
  have k0 : (0 : Int) ≤ (k : Int) := by omega
  have HRO1 := Lib.hid hRO
  have HH4 := Lib.hid h4
  have HH5 := Lib.hid h5
  rw [hql] at hkl
  have HQL := Lib.hid hql
  clear kx hRO h4 h5 hql
  rcases Nat.lt_or_ge k q with hlt | hge
  ·have i1 : (k : Int) < (q : Int) := by omega
   have hklt : k < (reaF m k).length := by rw [HQL.out]; exact hlt
   have hk63 : k < 64 := Nat.lt_of_lt_of_le hklt ((HRO.out k).len HM.out.1)
   obtain ⟨s, hs⟩ : ∃ s, (reaF m k)[k]? = some s := ⟨_, List.getElem?_eq_getElem hklt⟩
   have hslt : s < 2 ^ nb := by rw [← HM.out.2]; exact (HRO.out k).lt s (List.mem_of_getElem? hs)
   have HS := Lib.hid (And.intro hs hslt)
   have hcell : (icells (nats (reaF m k)))[k]? = some (.int .i64 (s : Int)) := by
    unfold icells nats
    rw [List.getElem?_map, List.getElem?_map, hs]; rfl
   obtain ⟨bg, og, rfl, hbg, hcc⟩ := HSL.out.2.2 (by omega)
   have hcg := hcc k _ hcell
   have HKQ := Lib.hid (And.intro hklt hk63)
   clear hcell hcc hs hslt hklt hk63 HSL
   go_wp2_with fail
   obtain ⟨w5, hW5⟩ : ∃ w5, w5 = W.alloc (Obj.cells #[.int .i64 (s : Int)] 117) := ⟨_, rfl⟩
   rw [← hW5]
   have hb5 : Below W.heap.size W w5 := by rw [hW5]; (first|exact bwg|go_size)
   have k6 : BlkR w5 W.heap.size (.cells #[.int .i64 (s : Int)] 117) := by show w5.heap[W.heap.size]? = _; rw [hW5]; exact heap_alloc_new _ _
   obtain ⟨X6, hX6⟩ : ∃ X, X = W.heap.size := ⟨_, rfl⟩
   rw [← hX6] at k6
   simp only [← hX6]
   have x46 : X4 < X6 := by rw [hX6]; exact l4
   have hR5 := HRO1.out.below hb5
   have hg5 : GrR w5 ag ng m.gs := ER.same (HGR.out.below HBA.out) hR5.sc hR5.sz
   clear hW5 hX6 hb5 c1 c1_1 c1_2 l1 c4 l4 hcg hbg HH4 HH5 HRO1
   refine (HMV.out s w5 hg5).mono ?_
   rintro e6 w6 ⟨XM, XS, rfl, hb6, hmw⟩
   have hR6 := hR5.below hb6
   have k6 := k6.below hb6
   have kM : BlkR w6 XM (.cells #[.slice ab nb cb, .int .i64 m.st, .slice ag ng cg] 98) := hmw.1
   have kS : BlkR w6 XS (.cells #[.int .i64 (s : Int)] 117) := hmw.2.1
   clear hR5 hg5 hb6 hmw
   go_wp2_with fail
   refine (wpIn_wide (n := 3)).1 ?_
   refine range_two (gf := 112) (fst := #[]) (lst := #[.pointer (some ⟨XM, 0, none⟩), .pointer (some ⟨XS, 0, none⟩)]) rfl cf_moves ?_
   intro rec hst hpe hpa htm has hbo
   have hL1 : ((w6.alloc (.deferred (some []))).alloc (.loop rec)).heap[w6.heap.size + 1]? = some (.loop rec) := by
    have := World.alloc_heap_new (w6.alloc (.deferred (some []))) (.loop rec); rwa [World.size_alloc] at this
   have hK1 : ((w6.alloc (.deferred (some []))).alloc (.loop rec)).heap[w6.heap.size]? = some (.deferred (some [])) := (Below.heap_alloc _ _ _ (by simp)).trans (World.alloc_heap_new w6 _)
   have hb9 : Below w6.heap.size w6 ((w6.alloc (.deferred (some []))).alloc (.loop rec)) := by (first|exact bwg|go_size)
   generalize (w6.alloc (.deferred (some []))).alloc (.loop rec) = w9 at *
   obtain ⟨lr, hlr⟩ : ∃ lr, lr = w6.heap.size + 1 := ⟨_, rfl⟩
   obtain ⟨D, hD⟩ : ∃ D, D = w6.heap.size := ⟨_, rfl⟩
   rw [← hlr] at hL1
   rw [← hD] at hK1
   simp only [← hlr]
   simp only [← hD]
   have x6D : X6 < D := by rw [hD]; exact k6.lt
   have dl : D < lr := by omega
   have hwD : w.heap.size ≤ D := by omega
   have hnD : D ∉ Ds := fun h => by have := (Array.getElem?_eq_some_iff.1 (hR6.mks.2 D h).2).1; omega
   have hR9 := hR6.below hb9
   have k6 := k6.below hb9
   have kM := kM.below hb9
   have kS := kS.below hb9
   clear hR6 hb9 hlr hD
   show CallsIn Fence.wide _ _ _ #[.func (.yield lr) #[] #[], .pointer (some ⟨XM, 0, none⟩), .pointer (some ⟨XS, 0, none⟩)] _ _
   refine (callsIn_wide.2 (moves_calls m s XM XS lr ab ag nb cb ng cg
    (fun L B => B.heap[lr]? = some (.loop rec) ∧ B.heap[D]? = some (.deferred (some [])) ∧ BlkR B XM (.cells #[.slice ab nb cb, .int .i64 m.st, .slice ag ng cg] 98) ∧ BlkR B XS (.cells #[.int .i64 (s : Int)] 117) ∧ BlkR B X6 (.cells #[.int .i64 (s : Int)] 117) ∧ ReaO w wa Ds X3 X4 (reaIn (reaF m k) s L) B)
    (fun _ => False) w9 HM.out.1 HM.out.2 (Nat.lt_of_lt_of_le HS.out.2 HP64.out) ?_ ?_ ?_ ⟨hL1, hK1, kM, kS, k6, hR9⟩)).mono ?_
   ·rintro L A B ⟨p1, p2, p3, p4, p5, p6⟩ hb
    exact ⟨blk_below p1 hb, blk_below p2 hb, p3.below hb, p4.below hb, p5.below hb, p6.below hb⟩
   ·rintro L A ⟨p1, p2, p3, p4, p5, p6⟩
    exact ⟨p3, p4, ER.same (HGR.out.below HBA.out) p6.sc p6.sz⟩
   ·rintro i A hi hmb ⟨p1, p2, p3, p4, p5, p6⟩
    have hOK := Rea.inn HM.out.1 (HRO.out k) (by rw [HM.out.2]; exact HS.out.2) (movU m s i) (fun c hc => by
     unfold movU at hc
     have := List.mem_range.1 (List.mem_filter.1 hc).1
     rw [HM.out.2]; omega)
    have hOL := hOK.len HM.out.1
    obtain ⟨O, hO⟩ : ∃ O, O = reaIn (reaF m k) s (movU m s i) := ⟨_, rfl⟩
    rw [← hO] at p6 hOL
    have HYE := Lib.hid (fun (h : trn s i ∈ O) => show reaIn (reaF m k) s (movU m s i ++ [i]) = O by rw [hO] at h ⊢; exact reaIn_yes h)
    have HNO := Lib.hid (fun (h : trn s i ∉ O) => show reaIn (reaF m k) s (movU m s i ++ [i]) = O ++ [trn s i] by rw [hO] at h ⊢; exact reaIn_no h)
    have hT : trn s i < 64 := Nat.lt_of_lt_of_le (trn_lt' hn6 HS.out.2 hi) HP64.out
    have HTX := Lib.hid (fun (W : World) => HTU.out s i W (Nat.lt_of_lt_of_le HS.out.2 HP64.out) (by omega))
    obtain ⟨T, hTT⟩ : ∃ T, T = trn s i := ⟨_, rfl⟩
    rw [← hTT] at HYE HNO hT HTX
    clear hOK hO hTT
    refine yield_two p1 hst hpe (by rw [hpa]; rfl) ?_
    obtain ⟨RB, hRB⟩ : ∃ RB : Loop, RB = { rec with state := .busy } := ⟨_, rfl⟩
    rw [← hRB]
    have HRB := Lib.hid hRB
    clear hRB
    rw [has, hbo, hpa, htm]
    clear has hbo hpa htm hst hpe
    gi_wp2
    refine ⟨p1, ?_⟩
    have hwl : w.heap.size ≤ lr := by omega
    have e1 : (A.putObj lr (.loop RB)).heap[lr]? = some (.loop RB) := World.putObj_heap_same (Array.getElem?_eq_some_iff.1 p1).1
    have e2 : (A.putObj lr (.loop RB)).heap[D]? = some (.deferred (some [])) := (World.putObj_heap_other (by omega)).trans p2
    have e3 := p3.put (r' := RB) p1
    have e4 := p4.put (r' := RB) p1
    have e5 := p5.put (r' := RB) p1
    have e6 := p6.put (r' := RB) p1 hwl
    generalize A.putObj lr (.loop RB) = A1 at *
    clear p1 p2 p3 p4 p5 p6
    have hnrm : ∀ (O' : List Nat) (ac : Act) (W8 : World), reaIn (reaF m k) s (movU m s i ++ [i]) = O' → W8.heap[lr]? = some (.loop RB) → W8.heap[D]? = some (.deferred (some [])) → BlkR W8 XM (.cells #[.slice ab nb cb, .int .i64 m.st, .slice ag ng cg] 98) → BlkR W8 XS (.cells #[.int .i64 (s : Int)] 117) → BlkR W8 X6 (.cells #[.int .i64 (s : Int)] 117) → ReaO w wa Ds X3 X4 O' W8 →
        twoPost Tryz.prog lr rec (fun e B => (e = .returned (.bool true) ∧ (B.heap[lr]? = some (.loop rec) ∧ B.heap[D]? = some (.deferred (some [])) ∧ BlkR B XM (.cells #[.slice ab nb cb, .int .i64 m.st, .slice ag ng cg] 98) ∧ BlkR B XS (.cells #[.int .i64 (s : Int)] 117) ∧ BlkR B X6 (.cells #[.int .i64 (s : Int)] 117) ∧ ReaO w wa Ds X3 X4 (reaIn (reaF m k) s (movU m s i ++ [i])) B)) ∨ (e = .returned (.bool false) ∧ False)) .normal ac W8 := by
     rintro O' ac W8 hO' g1 g2 g3 g4 g5 g6
     exact ⟨by rw [← HRB.out]; exact g1, .inl ⟨rfl, World.putObj_heap_same (Array.getElem?_eq_some_iff.1 g1).1, (World.putObj_heap_other (by omega)).trans g2, g3.put g1, g4.put g1, g5.put g1, by rw [hO']; exact g6.put g1 hwl⟩⟩
    have HNRM := Lib.hid hnrm
    clear hnrm
    have c6 := blk_cell e5 (i := 0) rfl
    have l6 := e5.lt
    have l3 := e6.x3.lt
    have c3 := blk_cell e6.x3 (knw_get O hT)
    have f3 := blk_fz e6.x3 T
    have HE := Lib.hid (And.intro e1 (And.intro e2 (And.intro e3 (And.intro e4 (And.intro e5 e6)))))
    have t0 : (0 : Int) ≤ (T : Int) := by omega
    have t1 : (T : Int) < 64 := by omega
    clear e1 e2 e3 e4 e5 e6
    by_cases hin : T ∈ O
    ·have hin1 : decide (T ∈ O) = true := decide_eq_true hin
     rw [hin1] at c3
     have HIN := Lib.hid hin
     clear hin hin1
     gi_wp2
     refine ⟨trivial, CallsIn.mono (callsIn_wide.2 (HTX.out _)) ?_⟩
     rintro e7 w7 ⟨rfl, rfl⟩
     gi_wp2
     obtain ⟨e1, e2, e3, e4, e5, e6⟩ := HE.out
     exact HNRM.out O _ _ (HYE.out HIN.out) e1 e2 e3 e4 e5 e6
    ·have hin1 : decide (T ∈ O) = false := decide_eq_false hin
     rw [hin1] at c3
     have HIN := Lib.hid hin
     clear hin hin1
     gi_wp2
     refine ⟨trivial, CallsIn.mono (callsIn_wide.2 (HTX.out _)) ?_⟩
     rintro e7 w7 ⟨rfl, rfl⟩
     obtain ⟨e1, e2, e3, e4, e5, e6⟩ := HE.out
     obtain ⟨qr, avr, cvr, h4, h5⟩ := e6.x4
     have hqr : qr ≤ 64 := by have := h5.1; simp only [icells, nats, List.length_map] at this; omega
     have n43 : X4 ≠ X3 := by omega
     have a1 : (A1.setCell ⟨X3, T, none⟩ (.bool true)).heap[lr]? = some (.loop RB) := (heap_set_neI (by omega)).trans e1
     have a2 : (A1.setCell ⟨X3, T, none⟩ (.bool true)).heap[D]? = some (.deferred (some [])) := (heap_set_neI (by omega)).trans e2
     have a3 := e3.set e6.x3 (by decide) T (.bool true)
     have a4 := e4.set e6.x3 (by decide) T (.bool true)
     have a5 := e5.set e6.x3 (by decide) T (.bool true)
     have a6 := e6.sc.setI (b := X3) (i := T) (v := .bool true) (Array.getElem?_eq_none (by omega))
     have a7 := e6.mks.setI (i := T) (v := .bool true) e6.x3
     have a8 : BlkR (A1.setCell ⟨X3, T, none⟩ (.bool true)) X3 (.cells (knw (O ++ [T])) 141) := by rw [← knw_set]; exact blk_set e6.x3 T _
     have a9 := h4.set e6.x3 (by decide) T (.bool true)
     have a10 := own_setO (i := T) (x := .bool true) h5 e6.x3 (by decide)
     have a11 : Below w.heap.size w (A1.setCell ⟨X3, T, none⟩ (.bool true)) := e6.bw.setCell (show w.heap.size ≤ X3 by omega) _
     have a12 : wa.heap.size ≤ (A1.setCell ⟨X3, T, none⟩ (.bool true)).heap.size := by rw [World.size_setCell]; exact e6.sz
     have a13 := e6.sz
     have HG := Lib.hid (And.intro a1 (And.intro a2 (And.intro a3 (And.intro a4 (And.intro a5 (And.intro a6 (And.intro a7 (And.intro a8 (And.intro a9 (And.intro a10 (And.intro a11 a12)))))))))))
     have c4 := blk_cell h4 (i := 0) rfl
     have l4 := h4.lt
     clear e1 e2 e3 e4 e5 e6 h4 h5 a1 a2 a3 a4 a5 a6 a7 a8 a9 a10 a11 a12 HE
     gi_wp2_with (gi_at_builtin; refine wpListIn_int _ rfl _ _ rfl wa.heap.size qr _ (.slice avr qr cvr) (icells (nats O)) (T : Int) rfl (HG.out.2.2.2.2.2.2.2.2.2.1.alloc _) rfl (by have hq := heap_alloc_new (A1.setCell ⟨X3, T, none⟩ (.bool true)) (Obj.cells #[.int .i64 (T : Int)] 3); rw [World.size_setCell] at hq; rw [cell_of_row _ _ 0 _ _ _ hq]; rfl) (by omega) (by rw [World.size_alloc, World.size_setCell]; omega) ?_)
     intro v2 w2 hown2 hgr2 hb2
     obtain ⟨av2, cv2, rfl, _, _⟩ := owns_slice hown2
     obtain ⟨a1, a2, a3, a4, a5, a6, a7, a8, a9, a10, a11, a12⟩ := HG.out
     generalize A1.setCell ⟨X3, T, none⟩ (.bool true) = A2 at *
     have hba : Below A2.heap.size A2 (A2.alloc (Obj.cells #[.int .i64 (T : Int)] 3)) := by (first|exact bwg|go_size)
     have a1 := blk_below a1 hba
     have a2 := blk_below a2 hba
     have a3 := a3.below hba
     have a4 := a4.below hba
     have a5 := a5.below hba
     have a6 := a6.below hba
     have a7 := a7.below hba
     have a8 := a8.below hba
     have a9 := a9.below hba
     have a10 := a10.alloc (Obj.cells #[.int .i64 (T : Int)] 3)
     have a11 := a11.trans (hba.mono a11.size)
     have a12 := Nat.le_trans a12 hba.size
     generalize A2.alloc (Obj.cells #[.int .i64 (T : Int)] 3) = A3 at *
     have b1 : w2.heap[lr]? = some (.loop RB) := own_otherO a10 hgr2 a1 (fun c z h => by cases h)
     have b2 : w2.heap[D]? = some (.deferred (some [])) := own_otherO a10 hgr2 a2 (fun c z h => by cases h)
     have b3 := a3.other a10 hgr2 (by decide)
     have b4 := a4.other a10 hgr2 (by decide)
     have b5 := a5.other a10 hgr2 (by decide)
     have b6 : SameCells wa w2 := fun j cc t z hj => (hb2.block j (Array.getElem?_eq_some_iff.1 hj).1).trans (a6 j cc t z hj)
     have b7 := a7.other a10 hgr2
     have b8 := a8.other a10 hgr2 (by decide)
     have b9 := a9.other a10 hgr2 (by decide)
     have b11 := a11.trans (hb2.mono HBA.out.size)
     have b12 := Nat.le_trans a12 hb2.size
     have y4 := blk_cell b9 (i := 0) rfl
     have f4 := blk_fz b9 0
     have m4 := b9.lt
     have HG2 := Lib.hid (And.intro b1 (And.intro b2 (And.intro b3 (And.intro b4 (And.intro b5 (And.intro b6 (And.intro b7 (And.intro b8 (And.intro b9 (And.intro b11 b12))))))))))
     have HW2 := Lib.hid hown2
     clear a1 a2 a3 a4 a5 a6 a7 a8 a9 a10 a11 a12 a13 b1 b2 b3 b4 b5 b6 b7 b8 b9 b11 b12 hba hown2 hgr2 hb2 HG
     gi_wp2
     obtain ⟨b1, b2, b3, b4, b5, b6, b7, b8, b9, b11, b12⟩ := HG2.out
     have hON : icells (nats (O ++ [T])) = icells (nats O) ++ [.int .i64 (T : Int)] := by simp [nats, icells]
     refine HNRM.out (O ++ [T]) _ _ (HNO.out HIN.out) ((heap_set_neI (by omega)).trans b1) ((heap_set_neI (by omega)).trans b2) (b3.set b9 (by decide) 0 _) (b4.set b9 (by decide) 0 _) (b5.set b9 (by decide) 0 _) ⟨b6.setI (Array.getElem?_eq_none (by omega)), by rw [World.size_setCell]; exact b12, b11.setCell (show w.heap.size ≤ X4 by omega) _, b7.setI b9, b8.set b9 (by decide) 0 _, qr + 1, av2, cv2, blk_set b9 0 _, ?_⟩
     rw [hON]
     exact own_setO HW2.out b9 (by decide)
   ·rintro e W9 ⟨⟨v, rfl⟩, h⟩
    obtain ⟨p1, p2, p3, p4, p5, p6⟩ := h.resolve_right id
    refine ⟨⟨_, rfl⟩, .inl ⟨p1, ?_⟩⟩
    have hwl : w.heap.size ≤ lr := by omega
    have e6 := p6.put (r' := { rec with state := .exhausted }) p1 hwl
    have e2 : (W9.putObj lr (.loop { rec with state := .exhausted })).heap[D]? = some (.deferred (some [])) := (World.putObj_heap_other (by omega)).trans p2
    have hRN : ReaO w wa (D :: Ds) X3 X4 (reaF m (k + 1)) (W9.putObj lr (.loop { rec with state := .exhausted })) := by
     rw [reaF_next HS.out.1]
     exact ⟨e6.sc, e6.sz, e6.bw, e6.mks.cons e2 hwD hnD, e6.x3, e6.x4⟩
    generalize W9.putObj lr (.loop { rec with state := .exhausted }) = W2 at *
    have HRN := Lib.hid hRN
    clear h p1 p2 p3 p4 p5 p6 e2 e6 hRN hR9 kM kS k6 hL1 hK1 hst hpe hpa htm has hbo
    have w1 : IntKind.i64.wrap ((k : Int) + 1) = (k : Int) + 1 := by rw [IntKind.wrap_i64]; omega
    go_wp2_with fail
    refine ⟨?_, ?_⟩
    ·rw [HI.out]
     exact ⟨k + 1, D :: Ds, _, _, _, _, _, _, _, _, _, _, _, _, _, _, _, _, _, _, _, _, _, _, _, _, _, _, _, _, _, _, _, _, _, rfl, by have := HKQ.out.2; omega, by have := reaF_mono m k; have := HKQ.out.1; omega, HRN.out⟩
    ·rw [HMU.out]
     simp [intOf]
     omega
  ·obtain rfl : k = q := by omega
   have i1 : ¬ ((k : Int) < (k : Int)) := by omega
   have hpos : 0 < k := by
    have h1 := (HRO.out k).st
    rw [← HQL.out]
    exact List.length_pos_of_mem h1
   have HRA := Lib.hid (reaF_all HM.out.1 (k := k) (by rw [HQL.out]; exact Nat.le_refl _) hk64)
   clear c1 c1_1 c1_2 l1 hge
   go_wp2_with fail
   refine (sortInts_any _ _ _ _ _ _ HH5.out hpos (by omega)).mono ?_
   rintro e6 w6 ⟨rfl, hown6, hb6, hgr6⟩
   have r4 := HH4.out.other HH5.out hgr6 (by decide)
   have c4 := blk_cell r4 (i := 0) rfl
   have l4 := r4.lt
   have hb7 := HRO1.out.bw.trans (hb6.mono (by have := HBA.out.size; omega))
   have hm7 := HRO1.out.mks.other HH5.out hgr6
   have HR7 := Lib.hid (And.intro hb7 (And.intro hm7 hown6))
   clear hown6 hb6 hgr6 r4 hb7 hm7
   go_wp2_with fail
   refine leaves_marks (B := w.heap.size) (w0 := w) Ds w6 HR7.out.2.1.1 HR7.out.2.1.2 HR7.out.1 (fun w' hs hb' => ⟨.slice av k cv, ?_, av, k, cv, rfl, hb', ?_⟩)
   ·simp [results, Tryz.results51, go_sem]
   ·have h1 := SlR.of_owns (own_same HR7.out.2.2 hs)
    rw [HRA.out, srt_reaS HM.out.1] at h1
    exact h1
end Go.Proofs.YtdjinmieogpgcaaGreat
/- A queue: a slice whose beginning moves; an append behind it. slices.Clone at integers. -/
namespace Go.Proofs.YtdjinmieogpgcaaGreat
open Go.RowKit
set_option linter.unusedVariables false
def QueR (w : World) (base : Nat) (e : TypeId) (v : Value) (n : Nat) (xs : List Value) : Prop :=
 xs.length = n ∧ ∃ g o cap cur, v = .slice (some ⟨g, o, none⟩) n cap ∧ base ≤ g ∧ w.heap[g]? = some (.cells cur e (0, 0)) ∧ n ≤ cap ∧ o + cap ≤ cur.size ∧ cap ≤ maxLen ∧ (cur.toList.drop o).take n = xs
theorem QueR.of_own {w : World} {base : Nat} {e : TypeId} {g n cap : Nat} {xs : List Value} (h : w.ownsRow base e 1 (.slice (some ⟨g, 0, none⟩) n cap) n xs) : QueR w base e (.slice (some ⟨g, 0, none⟩) n cap) n xs := by
 obtain ⟨hl, h | ⟨g', cap', cur, hv, h1, h2, h3, h4, h5, h6⟩⟩ := h
 ·cases h.1
 ·cases hv
  rw [Nat.mul_one] at hl h5 h6
  exact ⟨hl, g, 0, cap, cur, rfl, h1, h2, h3, by omega, h4, by rw [List.drop_zero]; exact h6⟩
theorem QueR.mono {w : World} {base base' : Nat} {e : TypeId} {v : Value} {n : Nat} {xs : List Value} (h : QueR w base e v n xs) (hb : base' ≤ base) : QueR w base' e v n xs := by
 obtain ⟨hl, g, o, cap, cur, hv, h1, h2⟩ := h
 exact ⟨hl, g, o, cap, cur, hv, Nat.le_trans hb h1, h2⟩
theorem QueR.keep {w w' : World} {base : Nat} {e : TypeId} {v : Value} {n : Nat} {xs : List Value} (h : QueR w base e v n xs) (hk : ∀ (k : Nat) (cur : Array Value), w.heap[k]? = some (Obj.cells cur e (0, 0)) → w'.heap[k]? = some (Obj.cells cur e (0, 0))) : QueR w' base e v n xs := by
 obtain ⟨hl, g, o, cap, cur, hv, h1, h2, h3⟩ := h
 exact ⟨hl, g, o, cap, cur, hv, h1, hk _ _ h2, h3⟩
theorem QueR.below {w w' : World} {base : Nat} {e : TypeId} {v : Value} {n : Nat} {xs : List Value} (h : QueR w base e v n xs) (hb : Below w.heap.size w w') : QueR w' base e v n xs :=
 h.keep fun k cur hk => (hb.block k (Array.getElem?_eq_some_iff.1 hk).1).trans hk
theorem QueR.put {w : World} {base l : Nat} {e : TypeId} {v : Value} {n : Nat} {xs : List Value} {r r' : Loop} (h : QueR w base e v n xs) (hl : w.heap[l]? = some (.loop r)) : QueR (w.putObj l (.loop r')) base e v n xs :=
 h.keep fun k cur hk => (World.putObj_heap_other (by rintro rfl; rw [hl] at hk; cases hk)).trans hk
theorem QueR.set {w : World} {base b i : Nat} {e t : TypeId} {v x : Value} {n : Nat} {xs : List Value} {c : Array Value} (h : QueR w base e v n xs) (hb : w.heap[b]? = some (.cells c t)) (ht : e ≠ t) : QueR (w.setCell ⟨b, i, none⟩ x) base e v n xs :=
 h.keep fun k cur hk => (heap_set_neI (by rintro rfl; rw [hb] at hk; simp only [Option.some.injEq, Obj.cells.injEq] at hk; exact ht hk.2.1.symm)).trans hk
theorem QueR.cell {w : World} {base : Nat} {e : TypeId} {v : Value} {n : Nat} {x : Value} {xs : List Value} (h : QueR w base e v (n + 1) (x :: xs)) :
    ∃ g o cap, v = .slice (some ⟨g, o, none⟩) (n + 1) (cap + 1) ∧ n ≤ cap ∧ g < w.heap.size ∧ w.cell? ⟨g, o, none⟩ = some x ∧ ∃ cur, w.heap[g]? = some (.cells cur e (0, 0)) ∧ base ≤ g ∧ o + (cap + 1) ≤ cur.size ∧ cap + 1 ≤ maxLen ∧ (cur.toList.drop (o + 1)).take n = xs := by
 obtain ⟨hl, g, o, cap, cur, hv, h1, h2, h3, h4, h5, h6⟩ := h
 obtain ⟨cap, rfl⟩ : ∃ c, cap = c + 1 := ⟨cap - 1, by omega⟩
 have ho : o < cur.toList.length := by rw [Array.length_toList]; omega
 rw [List.drop_eq_getElem_cons ho, List.take_succ_cons] at h6
 injection h6 with h6 h7
 refine ⟨g, o, cap, hv, by omega, (Array.getElem?_eq_some_iff.1 h2).1, ?_, cur, h2, h1, h4, h5, h7⟩
 rw [cell_of_row _ _ _ _ _ _ h2]
 rw [Array.getElem?_eq_getElem (by rw [Array.length_toList] at ho; exact ho)]
 rw [← h6]
 simp
theorem run_append_que {P : Program} (w : World) (base : Nat) (t ty e : TypeId) (i : TypeInfo) (z : Value) (bytes : Nat) (ht : P.underlying t = some (.slice e)) (hi : P.info? e = some i) (hz : i.zero = some z)
    (hsize : i.size = 1) (hby : i.bytes = bytes) (hzs : z.cells.size = 1) (v : Value) (n : Nat) (xs : List Value) (hq : QueR w base e v n xs)
    (a : Addr) (c : Nat) (u : Value) (hu : w.cell? a = some u) (h1 : u.oneCell' = true) (h63 : n + 1 ≤ maxLen) (hbytes : (n + 1) * bytes ≤ 140737488355328) (hbase : base ≤ w.heap.size) :
    ∃ v' w', (Builtin.append_ #[t, t] ty #[v, .slice (some a) 1 c]).run P w = .ok v' w' ∧ QueR w' base e v' (n + 1) (xs ++ [u]) ∧ w.grownBy w' v.ownBlock ∧ (v'.ownBlock = v.ownBlock ∨ ∀ b, v'.ownBlock = some b → w.heap.size ≤ b) := by
 obtain ⟨hl, g, o, cap, cur, rfl, hbg, hg, hnc, hcs, hcm, htk⟩ := hq
 have hnews : ∀ j u', ([u] : List Value)[j]? = some u' → w.cell? (a.add j) = some u' := fun j u' hj => by
  match j with
  | 0 => simp only [List.getElem?_cons_zero, Option.some.injEq] at hj; subst hj; exact (by simpa [Addr.add] using hu)
  | j + 1 => simp at hj
 by_cases hroom : n + 1 ≤ cap
 ·have hr := run_append_room_cells (P := P) w t ty e i ht hi g o n cap a 1 c [u] (by rw [hsize]; rfl) hnews (by simpa using h1) hroom
    (fun j hj => by
     obtain rfl : j = 0 := by simpa using hj
     rw [hsize, Nat.mul_one, Nat.add_zero, cell_of_row _ _ _ _ _ _ hg, Array.getElem?_eq_getElem (by omega)]; rfl)
    (fun j hj => frozen_of_row _ _ _ _ _ hg)
  refine ⟨_, _, hr, ⟨by simp [hl], g, o, cap, cur.setIfInBounds (o + n) u, rfl, hbg, ?_, hroom, by simpa using hcs, hcm, ?_⟩, ?_⟩
  ·rw [hsize, Nat.mul_one]
   exact blk_set hg (o + n) u
  ·apply List.ext_getElem?
   intro j
   rw [← htk, Array.toList_setIfInBounds]
   by_cases hj : j < n + 1
   ·rw [List.getElem?_take_of_lt hj, List.getElem?_drop]
    by_cases hj2 : j < n
    ·rw [List.getElem?_append_left (by rw [htk]; omega), List.getElem?_take_of_lt hj2, List.getElem?_drop, List.getElem?_set_ne (by omega)]
    ·obtain rfl : j = n := by omega
     rw [List.getElem?_append_right (by rw [htk]; omega), htk, hl, Nat.sub_self, List.getElem?_set_self (by rw [Array.length_toList]; omega)]
     rfl
   ·rw [List.getElem?_eq_none (by rw [List.length_take]; omega), List.getElem?_eq_none (by rw [htk, List.length_append, List.length_singleton]; omega)]
  ·refine ⟨⟨rfl, rfl, rfl, by simp [World.setCells], fun k _ hk => ?_⟩, .inl rfl⟩
   rw [hsize, Nat.mul_one]
   exact heap_set_neI (fun e => hk (by simp [Value.ownBlock, e]))
 ·have holds : ∀ j u', xs[j]? = some u' → w.cell? ((⟨g, o, none⟩ : Addr).add j) = some u' := fun j u' hj => by
    rw [← htk] at hj
    have hjn : j < n := by
     have := (List.getElem?_eq_some_iff.1 hj).1
     rw [List.length_take] at this
     omega
    rw [List.getElem?_take_of_lt hjn, List.getElem?_drop] at hj
    rw [Addr.add_lit, cell_of_row _ _ _ _ _ _ hg]
    simpa using hj
  obtain ⟨v', w', hr, h2, h3⟩ := run_append_arg_grows (P := P) w t ty e i z 1 bytes ht hi hz hsize hby hzs (by omega) ⟨g, o, none⟩ n cap xs (by omega) holds a 1 c [u] rfl hnews (by omega) h63 hbytes
  obtain ⟨hl2, hh | ⟨g', cap', cur', rfl, hgb, h4⟩⟩ := h2
  ·omega
  ·refine ⟨_, w', hr, (QueR.of_own ⟨hl2, .inr ⟨g', cap', cur', rfl, hgb, h4⟩⟩).mono hbase, ?_, .inr (fun b hb => by simp only [Value.ownBlock, Option.some.injEq] at hb; omega)⟩
   obtain ⟨q1, q2, q3, q4, q5⟩ := h3
   exact ⟨q1, q2, q3, q4, fun k hk hne => q5 k hk (by simp)⟩
theorem wpListIn_que {F : Fence} {N : Nat} {P : Program} {ops : Array Oper} {rest : List Oper} {o : Oper} {a : Act} {Q : Exit → Act → World → Prop} (w : World) (hgd : o.guard = none) (s x : Operand) (t : TypeId)
    (ho : o.op = .call { callee := .builtin .append, args := #[s, x], argTypes := #[t, t] }) (base : Nat) (e : TypeId) (i : TypeInfo) (z : Value) (bytes : Nat) (ht : P.underlying t = some (.slice e)) (hi : P.info? e = some i) (hz : i.zero = some z)
    (hsize : i.size = 1) (hby : i.bytes = bytes) (hzs : z.cells.size = 1) (v : Value) (n : Nat) (xs : List Value) (hs : a.eval s = v) (hq : QueR w base e v n xs)
    (ad : Addr) (c : Nat) (u : Value) (hx : a.eval x = .slice (some ad) 1 c) (hu : w.cell? ad = some u) (h1 : u.oneCell' = true) (h63 : n + 1 ≤ maxLen) (hbytes : (n + 1) * bytes ≤ 140737488355328) (hbase : base ≤ w.heap.size)
    (h : ∀ v' w', QueR w' base e v' (n + 1) (xs ++ [u]) → w.grownBy w' v.ownBlock → Below base w w' → (v'.ownBlock = v.ownBlock ∨ ∀ b, v'.ownBlock = some b → w.heap.size ≤ b) → wpListIn F N P ops Q rest (a.put o.dst v') w') : wpListIn F N P ops Q (o :: rest) a w := by
 obtain ⟨v', w', hr, h2, h3, h4⟩ := run_append_que (P := P) w base t o.type e i z bytes ht hi hz hsize hby hzs v n xs hq ad c u hu h1 h63 hbytes hbase
 have hbl : Below base w w' := (Below.refl base w).grown h3 hbase (fun k hk => by
  obtain ⟨_, g, o', cap, cur, rfl, hb, _⟩ := hq
  simp only [Value.ownBlock, Option.some.injEq] at hk
  omega)
 refine wpListIn_plain hgd fun K hK' => ?_
 unfold Oper.wpIn
 refine ⟨?_, ?_⟩
 ·simp [Oper.about, ho, resolve, Target.leads, Sem.run_pure]
 ·rw [Oper.semAt_plain F _ _ (by rw [ho]; intro c hc'; cases hc')]
  simp [execOp, ho, resolve, invoke, builtin, hs, hx, hr, Result.andThen]
  exact hK' _ _ (h v' w' h2 h3 hbl h4)
end Go.Proofs.YtdjinmieogpgcaaGreat
