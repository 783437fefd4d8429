import Derived.Test.YthkekjgdknnaiaaGreatMDRespX
/- All explanations, set by set: the reference's function. -/
namespace Go.Proofs.YthkekjgdknnaiaaGreat
open Go.RowKit
set_option linter.unusedVariables false

/-- What is put together so far: the set among the first ones, once its place has come. -/
def nxB (S : List Nat) (l : List (List Nat)) : List (List Nat) := if l.any (bef S) = true then insB S l else l
theorem insB_no {S : List Nat} : ∀ l : List (List Nat), l.any (bef S) = false → insB S l = l ++ [S]
  | [], _ => rfl
  | o :: r, h => by
    rw [List.any_cons, Bool.or_eq_false_iff] at h
    rw [insB, if_neg (by rw [h.1]; decide), insB_no r h.2]; rfl
theorem insB_yes {S o : List Nat} : ∀ l : List (List Nat), l.any (bef S) = true → insB S (l ++ [o]) = insB S l ++ [o]
  | [], h => by simp at h
  | x :: r, h => by
    rw [List.cons_append, insB, insB]
    by_cases hx : bef S x = true
    · rw [if_pos hx, if_pos hx]; rfl
    · rw [if_neg hx, if_neg hx, insB_yes r (by simpa [hx] using h)]; rfl
theorem insB_new {S o : List Nat} (ho : bef S o = true) : ∀ l : List (List Nat), l.any (bef S) = false → insB S (l ++ [o]) = (l ++ [S]) ++ [o]
  | [], _ => by simp [insB, ho]
  | x :: r, h => by
    rw [List.any_cons, Bool.or_eq_false_iff] at h
    rw [List.cons_append, insB, if_neg (by rw [h.1]; decide), insB_new ho r h.2]; rfl
theorem nxB_yes {S o : List Nat} {l : List (List Nat)} (h : l.any (bef S) = true) : nxB S (l ++ [o]) = nxB S l ++ [o] := by
  unfold nxB
  rw [if_pos h, if_pos (by rw [List.any_append, h]; rfl), insB_yes l h]
theorem nxB_new {S o : List Nat} {l : List (List Nat)} (h : l.any (bef S) = false) (ho : bef S o = true) : nxB S (l ++ [o]) = (nxB S l ++ [S]) ++ [o] := by
  have h2 : (l ++ [o]).any (bef S) = true := by rw [List.any_append, h]; simp [ho]
  unfold nxB
  rw [if_pos h2, if_neg (by rw [h]; decide), insB_new ho l h]
theorem nxB_no {S o : List Nat} {l : List (List Nat)} (h : l.any (bef S) = false) (ho : bef S o = false) : nxB S (l ++ [o]) = nxB S l ++ [o] := by
  have h2 : (l ++ [o]).any (bef S) = false := by rw [List.any_append, h]; simp [ho]
  unfold nxB
  rw [if_neg (by rw [h2]; decide), if_neg (by rw [h]; decide)]
theorem nxB_end_yes {S : List Nat} {l : List (List Nat)} (h : l.any (bef S) = true) : insB S l = nxB S l := by unfold nxB; rw [if_pos h]
theorem nxB_end_no {S : List Nat} {l : List (List Nat)} (h : l.any (bef S) = false) : insB S l = nxB S l ++ [S] := by unfold nxB; rw [if_neg (by rw [h]; decide)]; exact insB_no l h
theorem insB_len (S : List Nat) : ∀ l : List (List Nat), (insB S l).length = l.length + 1
  | [] => rfl
  | o :: r => by
    rw [insB]
    split
    · rfl
    · rw [List.length_cons, insB_len S r]; rfl
theorem nxB_len (S : List Nat) (l : List (List Nat)) : (nxB S l).length ≤ l.length + 1 := by
  unfold nxB
  split
  · rw [insB_len]; exact Nat.le_refl _
  · omega
/-- What is kept of the sets of the first k numbers. -/
def outX (p : List Nat → Bool) (m k : Nat) : List (List Nat) := ((List.range k).map (memB m 0)).foldl (keepB p) []
theorem outX_succ (p : List Nat → Bool) (m k : Nat) : outX p m (k + 1) = keepB p (outX p m k) (memB m 0 k) := by
  unfold outX
  rw [List.range_succ, List.map_append, List.foldl_append]; rfl
theorem outX_len (p : List Nat → Bool) (m : Nat) : ∀ k, (outX p m k).length ≤ k
  | 0 => Nat.le_refl _
  | k + 1 => by
    have := outX_len p m k
    rw [outX_succ]
    unfold keepB
    split
    · omega
    · rw [insB_len]
      split
      · simp
      · omega
theorem RowsO.stay {lo : Nat} {w w' : World} {v : Value} {k : Nat} {LL : List (List Nat)} {vs : List Value} (h : RowsO lo w v k LL vs) (hb : Below w.heap.size w w') : RowsO lo w' v k LL vs := h.keep (KeepR.below hb)
theorem RowsO.base {lo lo' : Nat} {w : World} {v : Value} {k : Nat} {LL : List (List Nat)} {vs : List Value} (h : RowsO lo w v k LL vs) (hl : lo' ≤ lo) : RowsO lo' w v k LL vs := ⟨owns_mono h.own hl, h.len, h.row⟩
theorem IntsT.stay {w w' : World} {a : Option Addr} {n : Nat} {l : List Int} (h : IntsT w a n l) (hb : Below w.heap.size w w') : IntsT w' a n l := h.keep (KeepR.below hb).1 (fun B cc z hB => (KeepR.below hb).2 _ _ _ _ (.inl rfl) hB)
/-- The first and the next set of a row of rows, as its cells hold them. -/
theorem RowsO.cell {lo : Nat} {w : World} {a : Option Addr} {n c : Nat} {LL : List (List Nat)} {vs : List Value} (h : RowsO lo w (.slice a n c) n LL vs) {i : Nat} (hi : i < n) :
    ∃ b o S p k cp, a = some ⟨b, o, none⟩ ∧ b < w.heap.size ∧ LL[i]? = some S ∧ vs[i]? = some (Value.slice p k cp) ∧ w.cell? ⟨b, o + i, none⟩ = some (.slice p k cp) ∧ IntsT w p k (nats S) := by
  have hS : LL[i]? = some (LL[i]'(by rw [h.len]; exact hi)) := List.getElem?_eq_getElem _
  obtain ⟨p, k, cp, h1, h2⟩ := h.row i _ hS
  obtain ⟨_, _, h3⟩ := SlR.of_owns h.own
  obtain ⟨b, o, ha, hb, hc⟩ := h3 (by omega)
  exact ⟨b, o, _, p, k, cp, ha, hb, hS, h1, hc i _ h1, h2⟩
theorem memB_len : ∀ f i n, (memB f i n).length ≤ f
  | 0, _, _ => Nat.le_refl _
  | f + 1, i, n => by
    unfold memB
    split
    · simp
    · have := memB_len f (i + 1) (n / 2)
      split
      · rw [List.length_cons]; omega
      · omega
theorem wrap_pow : ∀ m, m ≤ 6 → wrap64 ((2 : Int) ^ m) = ((2 ^ m : Nat) : Int) := by decide +kernel
set_option maxHeartbeats 4000000 in
set_option maxRecDepth 100000 in
theorem rExplanations_any (n c m cm nf cf nr cr : Nat) (a ap af ar : Option Addr) (s l : List T3) (fs : List Int) (rs : List (Int × Int)) (w : World) (hs : T3R w a n s) (hl : T3R w ap m l) (hf : IntsR w af nf fs) (hr : PairsR w ar nr rs) (h0 : askE s l fs rs = 0) :
    Calls Tryz.prog 22 #[.agg #[.slice a n c], .slice ap m cm, .agg #[.slice af nf cf, .slice ar nr cr]] w fun e' w' => ∃ a' k' c', e' = .returned (.slice a' k' c') ∧ Below w.heap.size w w' ∧ RowsI w' a' k' (outX (fun S => expB s l fs rs (nats S)) m (2 ^ m)) := by
  have hm6 : m ≤ 6 := by
    have h1 := h0
    unfold askE at h1
    obtain ⟨_, h1⟩ := firstErr_cons.1 h1
    obtain ⟨h2, _⟩ := firstErr_cons.1 h1
    have := (defsE_zero h2).1
    rw [hl.len] at this; exact this
  have HX := Lib.hid (fun (q cq : Nat) (aq : Option Addr) (S : List Nat) (W : World) (hb : Below w.heap.size w W) (hS : IntsR W aq q (nats S)) (hq : q ≤ 1000) (hSB : ∀ x ∈ S, x < m) => rExplains_any n c m cm nf cf nr cr q cq a ap af ar aq s l fs rs S W (hs.below hb) (hl.below hb) (hf.below hb) (hr.below hb) hS h0 hq hSB)
  obtain ⟨p, hp⟩ : ∃ p : List Nat → Bool, p = fun S => expB s l fs rs (nats S) := ⟨_, rfl⟩
  have HX := Lib.hid (fun (q cq : Nat) (aq : Option Addr) (S : List Nat) (W : World) (hb : Below w.heap.size w W) (hS : IntsR W aq q (nats S)) (hq : q ≤ 1000) (hSB : ∀ x ∈ S, x < m) => show Calls Tryz.prog 25 #[.agg #[.slice a n c], .slice ap m cm, .agg #[.slice af nf cf, .slice ar nr cr], .slice aq q cq] W fun e' w' => e' = .returned (.bool (p S)) ∧ Below W.heap.size W w' by rw [hp]; exact HX.out q cq aq S W hb hS hq hSB)
  rw [← hp]
  clear hp hs hl hf hr h0
  have h2m : 2 ^ m ≤ 64 := Nat.le_trans (Nat.pow_le_pow_right (by omega) hm6) (by decide)
  have hw := wrap_pow m hm6
  obtain ⟨P, hP⟩ : ∃ P, P = 2 ^ m := ⟨_, rfl⟩
  rw [← hP] at hw h2m ⊢
  have HP := Lib.hid hP
  have HMM := Lib.hid (fun (k : Nat) (hk : k < P) (W : World) => members_any m k W (by omega) (by rw [← hP]; exact hk))
  clear hP
  go_enter Tryz.func22, Tryz.ntmps22
  go_wp2_with fail
  generalize hW : World.alloc _ _ = w5
  have hb5 : Below w.heap.size w w5 := by rw [← hW]; (repeat' (first | (with_reducible exact Below.refl _ _) | (with_reducible assumption) | (with_reducible refine Below.drewN ?_ _) | (with_reducible refine Below.alloc ?_ ?_ _) | (with_reducible refine Below.drew ?_) | (with_reducible refine Below.setCell ?_ ?_ _) | (with_reducible refine Below.step (by assumption) ?_ ?_) | (with_reducible exact And.left (by assumption)) | go_size))
  have q0 : w5.cell? ⟨w.heap.size, 0, none⟩ = some (.slice a n c) := by { rw [← hW]; clear hW; go_simp }
  have p0 : w5.cell? ⟨w.heap.size + 1, 0, none⟩ = some (.slice af nf cf) := by { rw [← hW]; clear hW; go_simp }
  have r0 : w5.cell? ⟨w.heap.size + 1, 1, none⟩ = some (.slice ar nr cr) := by { rw [← hW]; clear hW; go_simp }
  have l0 : w.heap.size + 1 < w5.heap.size := by { rw [← hW]; clear hW; simp }
  have HB5 := Lib.hid hb5
  clear hW hb5
  go_loopw [7, 8] (fun v i wr => ∃ (k q : Nat) (LL : List (List Nat)) (vs : List Value) (av : Option Addr) (cv : Nat), i = .int .i64 (k : Int) ∧ v = .slice av q cv ∧ k ≤ P ∧ q ≤ k ∧ Hid (LL = outX p m k) ∧ Hid (RowsO w5.heap.size wr (.slice av q cv) q LL vs) ∧ Hid (Below w5.heap.size w5 wr)) (fun _ i _ => P - (intOf i).toNat)
  case atStart => exact ⟨0, 0, [], [], none, 0, rfl, rfl, Nat.zero_le _, Nat.le_refl _, Lib.hid rfl, Lib.hid (RowsO.zero _ _), Lib.hid (Below.refl _ _)⟩
  case round =>
    obtain ⟨k, q, LL, vs, av, cv, rfl, rfl, hk, hq, hLL, hRO, hB⟩ := hrel
    have k0 : (0 : Int) ≤ (k : Int) := by omega
    have hbr := hB.out
    have hzr := hbr.size
    have q1 : wr.cell? ⟨w.heap.size, 0, none⟩ = some (.slice a n c) := by { rw [cellB hbr _ _ (by first | (simp; done) | (simp; omega) | omega)]; all_goals (first | assumption | go_simp) }; have p1 : wr.cell? ⟨w.heap.size + 1, 0, none⟩ = some (.slice af nf cf) := by { rw [cellB hbr _ _ (by first | (simp; done) | (simp; omega) | omega)]; all_goals (first | assumption | go_simp) }; have r1 : wr.cell? ⟨w.heap.size + 1, 1, none⟩ = some (.slice ar nr cr) := by { rw [cellB hbr _ _ (by first | (simp; done) | (simp; omega) | omega)]; all_goals (first | assumption | go_simp) }; have l1 : w.heap.size + 1 < wr.heap.size := by { omega }; have j1 : w.heap.size < wr.heap.size := by { omega }
    have HBW := Lib.hid (HB5.out.trans (hbr.mono HB5.out.size))
    by_cases hlt : k < P
    · have i1 : (k : Int) < (P : Int) := by omega
      go_wp2_with fail
      refine (HMM.out k hlt _).mono ?_
      rintro e6 w6 ⟨a9, q9, c9, rfl, hb6, ho6⟩
      have hz6 := hb6.size
      have q2 : w6.cell? ⟨w.heap.size, 0, none⟩ = some (.slice a n c) := by { rw [cellB hb6 _ _ (by first | (simp; done) | (simp; omega) | omega)]; all_goals (first | assumption | go_simp) }; have p2 : w6.cell? ⟨w.heap.size + 1, 0, none⟩ = some (.slice af nf cf) := by { rw [cellB hb6 _ _ (by first | (simp; done) | (simp; omega) | omega)]; all_goals (first | assumption | go_simp) }; have r2 : w6.cell? ⟨w.heap.size + 1, 1, none⟩ = some (.slice ar nr cr) := by { rw [cellB hb6 _ _ (by first | (simp; done) | (simp; omega) | omega)]; all_goals (first | assumption | go_simp) }; have l2 : w.heap.size + 1 < w6.heap.size := by { omega }; have j2 : w.heap.size < w6.heap.size := by { omega }
      have HB6 := Lib.hid (HBW.out.trans (hb6.mono HBW.out.size))
      have HW6 := Lib.hid (hB.out.trans (hb6.mono hB.out.size))
      have HS := Lib.hid (IntsT.of_owns ho6)
      have HRO := Lib.hid (hRO.out.stay hb6)
      have HSB := Lib.hid (show ∀ x ∈ memB m 0 k, x < m from fun x hx => by have := memB_lt m 0 k x (by rw [← HP.out]; exact hlt) hx; omega)
      have HQ9 := Lib.hid (show (memB m 0 k).length = q9 by have := HS.out.1.len; simpa [nats] using this)
      have hq9 : q9 ≤ 6 := by rw [← HQ9.out]; have := memB_len m 0 k; omega
      have HOS := Lib.hid (outX_succ p m k)
      clear hb6 ho6 hRO
      generalize memB m 0 k = S at *
      go_wp2_with fail
      refine (HX.out q9 c9 a9 S _ HB6.out HS.out.1 (by omega) HSB.out).mono ?_
      rintro e7 w7 ⟨rfl, hb7⟩
      have hz7 := hb7.size
      have q3 : w7.cell? ⟨w.heap.size, 0, none⟩ = some (.slice a n c) := by { rw [cellB hb7 _ _ (by first | (simp; done) | (simp; omega) | omega)]; all_goals (first | assumption | go_simp) }; have p3 : w7.cell? ⟨w.heap.size + 1, 0, none⟩ = some (.slice af nf cf) := by { rw [cellB hb7 _ _ (by first | (simp; done) | (simp; omega) | omega)]; all_goals (first | assumption | go_simp) }; have r3 : w7.cell? ⟨w.heap.size + 1, 1, none⟩ = some (.slice ar nr cr) := by { rw [cellB hb7 _ _ (by first | (simp; done) | (simp; omega) | omega)]; all_goals (first | assumption | go_simp) }; have l3 : w.heap.size + 1 < w7.heap.size := by { omega }; have j3 : w.heap.size < w7.heap.size := by { omega }
      have HB7 := Lib.hid (HB6.out.trans (hb7.mono HB6.out.size))
      have HW7 := Lib.hid (HW6.out.trans (hb7.mono HW6.out.size))
      have HS := Lib.hid (HS.out.stay hb7)
      have HRO := Lib.hid (HRO.out.stay hb7)
      clear hb7 hz7
      cases hpS : p S
      · have HK := Lib.hid (show LL = outX p m (k + 1) by rw [HOS.out, ← hLL.out]; unfold keepB; rw [if_pos (.inl hpS)])
        clear hpS HOS hLL
        go_wp2
        go_roundw
        case rel => exact ⟨k + 1, q, LL, vs, av, cv, by go_num, rfl, by omega, by omega, HK, HRO, HW7⟩
        case measure => simp [intOf]; omega
      · by_cases hq0 : q = 0
        · subst hq0
          obtain rfl : LL = [] := List.length_eq_zero_iff.1 HRO.out.len
          have HK := Lib.hid (show insB S [] = outX p m (k + 1) by rw [HOS.out, ← hLL.out]; unfold keepB; rw [if_neg (by simp [hpS])]; rfl)
          clear hpS HOS hLL
          go_wp2_with fail
          go_loopw [10, 11, 12] (fun nv b i wr => i = .int .i64 0 ∧ nv = .slice none 0 0 ∧ b = .bool false ∧ Hid (Below w7.heap.size w7 wr)) (fun _ _ _ _ => 0)
          case atStart => exact ⟨rfl, rfl, rfl, Lib.hid (Below.refl _ _)⟩
          case round =>
            obtain ⟨rfl, rfl, rfl, HN6⟩ := hrel
            have HNR := Lib.hid (RowsO.zero w7.heap.size wr)
            have HSS := Lib.hid HS.out
            go_wp2_with (at_builtin; refine wpList_append_sl _ rfl _ _ 34 rfl w7.heap.size 26 _ 1 24 Tryz.underlying34 infoInts rfl (by omega) (.slice none 0 0) 0 _ rfl (HNR.out.own.alloc _) _ 1 1 [.slice a9 q9 c9] rfl (SlR.lit _ _ _ _ _ 1 1 (by rfl) (by simp) rfl (by omega)) (by simp [Value.oneCell']) (by omega) (by omega) (by have := HN6.out.size; simp; omega) ?_)
            intro vx w10 hownx hgrx hbx
            obtain ⟨an, cn, rfl, _, _⟩ := owns_slice hownx
            have HNR := Lib.hid (RowsO.next (HNR.out.stay (Below.alloc (Below.refl _ _) (Nat.le_refl _) _)) ((HS.out.stay HN6.out).stay (Below.alloc (Below.refl _ _) (Nat.le_refl _) _)) hownx hgrx)
            have HN6 := Lib.hid ((HN6.out.alloc HN6.out.size _).trans hbx)
            clear hownx hgrx hbx
            have HK := Lib.hid (show [] ++ [S] = outX p m (k + 1) from HK.out)
            have hln := HNR.out.len
            rw [HK.out] at hln
            have hlk := outX_len p m (k + 1)
            have HKK := Lib.hid HK.out
            go_wp2
            go_roundw
            case rel => exact ⟨k + 1, (0 + 1), _, _, an, cn, by go_num, rfl, by omega, by omega, HKK, Lib.hid (HNR.out.base HW7.out.size), Lib.hid (HW7.out.trans (HN6.out.mono HW7.out.size))⟩
            case measure => simp [intOf]; omega
        · obtain ⟨b0, o0, S0, p0', k0', c0', rfl, hb0, hS0, hv0, hc0, hT0⟩ := HRO.out.cell (show 0 < q by omega)
          have hqp : 0 < q := by omega
          have hl0 : S0.length = k0' := by have := hT0.1.len; simpa [nats] using this
          have hhd : LL.headD [] = S0 := by cases LL with | nil => simp at hS0 | cons x r => simpa using hS0
          have hne : LL ≠ [] := by rintro rfl; simp at hS0
          rw [Nat.add_zero] at hc0
          by_cases hgt : k0' < q9
          · have HK := Lib.hid (show LL = outX p m (k + 1) by rw [HOS.out, ← hLL.out]; unfold keepB; rw [if_pos (.inr ⟨hne, by rw [hhd, hl0, HQ9.out]; exact hgt⟩)])
            clear hpS HOS hLL hhd hne hS0 hv0 hT0 hl0
            have hgt' : (k0' : Int) < (q9 : Int) := by omega
            go_wp2
            go_roundw
            case rel => exact ⟨k + 1, q, LL, vs, _, cv, by go_num, rfl, by omega, by omega, HK, HRO, HW7⟩
            case measure => simp [intOf]; omega
          · have hgt' : ¬ (k0' : Int) < (q9 : Int) := by omega
            by_cases hlt9 : q9 < k0'
            · have hlt' : (q9 : Int) < (k0' : Int) := by omega
              have HK := Lib.hid (show insB S [] = outX p m (k + 1) by rw [HOS.out, ← hLL.out]; unfold keepB; rw [if_neg (by rw [hhd, hl0, HQ9.out, hpS]; simp; omega), if_pos ⟨hne, by rw [hhd, hl0, HQ9.out]; exact hlt9⟩])
              clear hpS HOS hLL hhd hne hS0 hv0 hT0 hl0
              go_wp2_with fail
              go_loopw [10, 11, 12] (fun nv b i wr => i = .int .i64 0 ∧ nv = .slice none 0 0 ∧ b = .bool false ∧ Hid (Below w7.heap.size w7 wr)) (fun _ _ _ _ => 0)
              case atStart => exact ⟨rfl, rfl, rfl, Lib.hid (Below.refl _ _)⟩
              case round =>
                obtain ⟨rfl, rfl, rfl, HN6⟩ := hrel
                have HNR := Lib.hid (RowsO.zero w7.heap.size wr)
                have HSS := Lib.hid HS.out
                go_wp2_with (at_builtin; refine wpList_append_sl _ rfl _ _ 34 rfl w7.heap.size 26 _ 1 24 Tryz.underlying34 infoInts rfl (by omega) (.slice none 0 0) 0 _ rfl (HNR.out.own.alloc _) _ 1 1 [.slice a9 q9 c9] rfl (SlR.lit _ _ _ _ _ 1 1 (by rfl) (by simp) rfl (by omega)) (by simp [Value.oneCell']) (by omega) (by omega) (by have := HN6.out.size; simp; omega) ?_)
                intro vx w10 hownx hgrx hbx
                obtain ⟨an, cn, rfl, _, _⟩ := owns_slice hownx
                have HNR := Lib.hid (RowsO.next (HNR.out.stay (Below.alloc (Below.refl _ _) (Nat.le_refl _) _)) ((HS.out.stay HN6.out).stay (Below.alloc (Below.refl _ _) (Nat.le_refl _) _)) hownx hgrx)
                have HN6 := Lib.hid ((HN6.out.alloc HN6.out.size _).trans hbx)
                clear hownx hgrx hbx
                have HK := Lib.hid (show [] ++ [S] = outX p m (k + 1) from HK.out)
                have hln := HNR.out.len
                rw [HK.out] at hln
                have hlk := outX_len p m (k + 1)
                have HKK := Lib.hid HK.out
                go_wp2
                go_roundw
                case rel => exact ⟨k + 1, (0 + 1), _, _, an, cn, by go_num, rfl, by omega, by omega, HKK, Lib.hid (HNR.out.base HW7.out.size), Lib.hid (HW7.out.trans (HN6.out.mono HW7.out.size))⟩
                case measure => simp [intOf]; omega
            · have hlt' : ¬ (q9 : Int) < (k0' : Int) := by omega
              have HK := Lib.hid (show insB S LL = outX p m (k + 1) by rw [HOS.out, ← hLL.out]; unfold keepB; rw [if_neg (by rw [hhd, hl0, HQ9.out, hpS]; simp; omega), if_neg (by rw [hhd, hl0, HQ9.out]; simp; omega)])
              clear hpS HOS hLL hhd hne hS0 hv0 hT0 hl0
              go_wp2_with fail
              go_loopw [10, 11, 12] (fun nv b i wr => ∃ (j NQ : Nat) (NX : List (List Nat)) (nvs : List Value) (an : Option Addr) (cn : Nat) (pb : Bool), i = .int .i64 (j : Int) ∧ nv = .slice an NQ cn ∧ b = .bool pb ∧ j ≤ q ∧ NQ ≤ j + 1 ∧ Hid (pb = (LL.take j).any (bef S)) ∧ Hid (NX = nxB S (LL.take j)) ∧ Hid (RowsO w7.heap.size wr (.slice an NQ cn) NQ NX nvs) ∧ Hid (Below w7.heap.size w7 wr)) (fun _ _ i _ => q - (intOf i).toNat)
              case atStart => exact ⟨0, 0, [], [], none, 0, false, rfl, rfl, rfl, Nat.zero_le _, Nat.zero_le _, Lib.hid rfl, Lib.hid rfl, Lib.hid (RowsO.zero _ _), Lib.hid (Below.refl _ _)⟩
              case round =>
                obtain ⟨j, NQ, NX, nvs, an, cn, pb, rfl, rfl, rfl, hj, hNQ, hpb, hNX, HNR, HN6⟩ := hrel
                have j0 : (0 : Int) ≤ (j : Int) := by omega
                by_cases hjl : j < q
                · have j1 : (j : Int) < (q : Int) := by omega
                  obtain ⟨bo, oo, Sj, pj, kj, cj, hba, hbo, hSj, hvj, hcj, hTj⟩ := HRO.out.cell hjl
                  simp only [Option.some.injEq, Addr.mk.injEq] at hba
                  obtain ⟨rfl, rfl, _⟩ := hba
                  have hn6 := HN6.out
                  have hzn := hn6.size
                  have hcr : wr.cell? ⟨b0, o0 + j, none⟩ = some (.slice pj kj cj) := by { rw [cellB hn6 _ _ (by first | (simp; done) | (simp; omega) | omega)]; all_goals (first | assumption | go_simp) }; have hbr : b0 < wr.heap.size := by { omega }
                  have htk : LL.take (j + 1) = LL.take j ++ [Sj] := by rw [List.take_add_one, hSj]; rfl
                  have HSj := Lib.hid hTj
                  clear hvj hSj hTj hn6 hzn
                  cases pb
                  · go_wp2_with fail
                    refine (before_any S Sj a9 pj q9 c9 kj cj _ (HS.out.stay HN6.out).1 (HSj.out.stay HN6.out).1).mono ?_
                    rintro e8 w8 ⟨rfl, nd, hw8⟩
                    have hb8 : Below wr.heap.size wr w8 := by rw [hw8]; exact (Below.refl _ _).drewN _
                    have hz8 := hb8.size
                    have hc8 : w8.cell? ⟨b0, o0 + j, none⟩ = some (.slice pj kj cj) := by { rw [cellB hb8 _ _ (by first | (simp; done) | (simp; omega) | omega)]; all_goals (first | assumption | go_simp) }; have hbo8 : b0 < w8.heap.size := by { omega }
                    have HNR := Lib.hid (HNR.out.stay hb8)
                    have HN6 := Lib.hid (HN6.out.trans (hb8.mono HN6.out.size))
                    clear hw8 hb8 hcr hbr hz8
                    cases hbf : bef S Sj
                    · have HNX := Lib.hid (show NX ++ [Sj] = nxB S (LL.take (j + 1)) by rw [htk, nxB_no hpb.out.symm hbf, ← hNX.out])
                      have HPB := Lib.hid (show false = (LL.take (j + 1)).any (bef S) by rw [htk, List.any_append, ← hpb.out]; simp [hbf])
                      clear hbf htk hpb hNX
                      go_wp2_with (at_builtin; refine wpList_append_sl _ rfl _ _ 34 rfl w7.heap.size 26 _ 1 24 Tryz.underlying34 infoInts rfl (by omega) (.slice an NQ cn) NQ _ rfl (HNR.out.own.alloc _) _ 1 1 [.slice pj kj cj] rfl (SlR.lit _ _ _ _ _ 1 1 (by rfl) (by simp) rfl (by omega)) (by simp [Value.oneCell']) (by omega) (by omega) (by have := HN6.out.size; simp; omega) ?_)
                      intro vx w10 hownx hgrx hbx
                      obtain ⟨an, cn, rfl, _, _⟩ := owns_slice hownx
                      have HNR := Lib.hid (RowsO.next (HNR.out.stay (Below.alloc (Below.refl _ _) (Nat.le_refl _) _)) ((HSj.out.stay HN6.out).stay (Below.alloc (Below.refl _ _) (Nat.le_refl _) _)) hownx hgrx)
                      have HN6 := Lib.hid ((HN6.out.alloc HN6.out.size _).trans hbx)
                      obtain ⟨nvs, HNR⟩ : ∃ vs', Hid (RowsO w7.heap.size w10 (.slice an (NQ + 1) cn) (NQ + 1) _ vs') := ⟨_, HNR⟩
                      clear hownx hgrx hbx
                      go_wp2
                      go_roundw
                      case rel => exact ⟨j + 1, NQ + 1, NX ++ [Sj], _, an, cn, false, by go_num, rfl, rfl, by omega, by omega, HPB, HNX, HNR, HN6⟩
                      case measure => simp [intOf]; omega
                    · have hNQj : NQ ≤ j := by { have h3 := HNR.out.len; rw [hNX.out] at h3; unfold nxB at h3; rw [if_neg (by rw [← hpb.out]; decide), List.length_take] at h3; omega }
                      have HNX := Lib.hid (show (NX ++ [S]) ++ [Sj] = nxB S (LL.take (j + 1)) by rw [htk, nxB_new hpb.out.symm hbf, ← hNX.out])
                      have HPB := Lib.hid (show true = (LL.take (j + 1)).any (bef S) by rw [htk, List.any_append, ← hpb.out]; simp [hbf])
                      clear hbf htk hpb hNX hc8 hbo8
                      go_wp2_with (at_builtin; refine wpList_append_sl _ rfl _ _ 34 rfl w7.heap.size 26 _ 1 24 Tryz.underlying34 infoInts rfl (by omega) (.slice an NQ cn) NQ _ rfl (HNR.out.own.alloc _) _ 1 1 [.slice a9 q9 c9] rfl (SlR.lit _ _ _ _ _ 1 1 (by rfl) (by simp) rfl (by omega)) (by simp [Value.oneCell']) (by omega) (by omega) (by have := HN6.out.size; simp; omega) ?_)
                      intro vx w10 hownx hgrx hbx
                      obtain ⟨an, cn, rfl, _, _⟩ := owns_slice hownx
                      have HNR := Lib.hid (RowsO.next (HNR.out.stay (Below.alloc (Below.refl _ _) (Nat.le_refl _) _)) ((HS.out.stay HN6.out).stay (Below.alloc (Below.refl _ _) (Nat.le_refl _) _)) hownx hgrx)
                      have HN6 := Lib.hid ((HN6.out.alloc HN6.out.size _).trans hbx)
                      obtain ⟨nvs, HNR⟩ : ∃ vs', Hid (RowsO w7.heap.size w10 (.slice an (NQ + 1) cn) (NQ + 1) _ vs') := ⟨_, HNR⟩
                      clear hownx hgrx hbx
                      have hn6 := HN6.out
                      have hzn := hn6.size
                      have hcr : w10.cell? ⟨b0, o0 + j, none⟩ = some (.slice pj kj cj) := by { rw [cellB hn6 _ _ (by first | (simp; done) | (simp; omega) | omega)]; all_goals (first | assumption | go_simp) }; have hbr : b0 < w10.heap.size := by { omega }
                      clear hn6 hzn
                      go_wp2_with (at_builtin; refine wpList_append_sl _ rfl _ _ 34 rfl w7.heap.size 26 _ 1 24 Tryz.underlying34 infoInts rfl (by omega) (.slice an (NQ + 1) cn) (NQ + 1) _ rfl (HNR.out.own.alloc _) _ 1 1 [.slice pj kj cj] rfl (SlR.lit _ _ _ _ _ 1 1 (by rfl) (by simp) rfl (by omega)) (by simp [Value.oneCell']) (by omega) (by omega) (by have := HN6.out.size; simp; omega) ?_)
                      intro vx w11 hownx hgrx hbx
                      obtain ⟨an, cn, rfl, _, _⟩ := owns_slice hownx
                      have HNR := Lib.hid (RowsO.next (HNR.out.stay (Below.alloc (Below.refl _ _) (Nat.le_refl _) _)) ((HSj.out.stay HN6.out).stay (Below.alloc (Below.refl _ _) (Nat.le_refl _) _)) hownx hgrx)
                      have HN6 := Lib.hid ((HN6.out.alloc HN6.out.size _).trans hbx)
                      obtain ⟨nvs, HNR⟩ : ∃ vs', Hid (RowsO w7.heap.size w11 (.slice an ((NQ + 1) + 1) cn) ((NQ + 1) + 1) _ vs') := ⟨_, HNR⟩
                      clear hownx hgrx hbx
                      go_wp2
                      go_roundw
                      case rel => exact ⟨j + 1, NQ + 1 + 1, (NX ++ [S]) ++ [Sj], _, an, cn, true, by go_num, rfl, rfl, by omega, by omega, HPB, HNX, HNR, HN6⟩
                      case measure => simp [intOf]; omega
                  · have HNX := Lib.hid (show NX ++ [Sj] = nxB S (LL.take (j + 1)) by rw [htk, nxB_yes hpb.out.symm, ← hNX.out])
                    have HPB := Lib.hid (show true = (LL.take (j + 1)).any (bef S) by rw [htk, List.any_append, ← hpb.out]; rfl)
                    clear htk hpb hNX
                    go_wp2_with (at_builtin; refine wpList_append_sl _ rfl _ _ 34 rfl w7.heap.size 26 _ 1 24 Tryz.underlying34 infoInts rfl (by omega) (.slice an NQ cn) NQ _ rfl (HNR.out.own.alloc _) _ 1 1 [.slice pj kj cj] rfl (SlR.lit _ _ _ _ _ 1 1 (by rfl) (by simp) rfl (by omega)) (by simp [Value.oneCell']) (by omega) (by omega) (by have := HN6.out.size; simp; omega) ?_)
                    intro vx w10 hownx hgrx hbx
                    obtain ⟨an, cn, rfl, _, _⟩ := owns_slice hownx
                    have HNR := Lib.hid (RowsO.next (HNR.out.stay (Below.alloc (Below.refl _ _) (Nat.le_refl _) _)) ((HSj.out.stay HN6.out).stay (Below.alloc (Below.refl _ _) (Nat.le_refl _) _)) hownx hgrx)
                    have HN6 := Lib.hid ((HN6.out.alloc HN6.out.size _).trans hbx)
                    obtain ⟨nvs, HNR⟩ : ∃ vs', Hid (RowsO w7.heap.size w10 (.slice an (NQ + 1) cn) (NQ + 1) _ vs') := ⟨_, HNR⟩
                    clear hownx hgrx hbx
                    go_wp2
                    go_roundw
                    case rel => exact ⟨j + 1, NQ + 1, NX ++ [Sj], _, an, cn, true, by go_num, rfl, rfl, by omega, by omega, HPB, HNX, HNR, HN6⟩
                    case measure => simp [intOf]; omega
                · have htk : LL.take j = LL := List.take_of_length_le (by have := HRO.out.len; omega)
                  have HPB := Lib.hid (show pb = LL.any (bef S) by rw [hpb.out, htk])
                  cases pb
                  · have HK := Lib.hid (show NX ++ [S] = outX p m (k + 1) by rw [← HK.out, nxB_end_no HPB.out.symm, hNX.out, htk])
                    clear htk hNX hpb
                    go_wp2_with (at_builtin; refine wpList_append_sl _ rfl _ _ 34 rfl w7.heap.size 26 _ 1 24 Tryz.underlying34 infoInts rfl (by omega) (.slice an NQ cn) NQ _ rfl (HNR.out.own.alloc _) _ 1 1 [.slice a9 q9 c9] rfl (SlR.lit _ _ _ _ _ 1 1 (by rfl) (by simp) rfl (by omega)) (by simp [Value.oneCell']) (by omega) (by omega) (by have := HN6.out.size; simp; omega) ?_)
                    intro vx w10 hownx hgrx hbx
                    obtain ⟨an, cn, rfl, _, _⟩ := owns_slice hownx
                    have HNR := Lib.hid (RowsO.next (HNR.out.stay (Below.alloc (Below.refl _ _) (Nat.le_refl _) _)) ((HS.out.stay HN6.out).stay (Below.alloc (Below.refl _ _) (Nat.le_refl _) _)) hownx hgrx)
                    have HN6 := Lib.hid ((HN6.out.alloc HN6.out.size _).trans hbx)
                    obtain ⟨nvs, HNR⟩ : ∃ vs', Hid (RowsO w7.heap.size w10 (.slice an (NQ + 1) cn) (NQ + 1) _ vs') := ⟨_, HNR⟩
                    clear hownx hgrx hbx
                    have hln := HNR.out.len
                    rw [HK.out] at hln
                    have hlk := outX_len p m (k + 1)
                    have HKK := Lib.hid HK.out
                    go_wp2
                    go_roundw
                    case rel => exact ⟨k + 1, (NQ + 1), _, _, an, cn, by go_num, rfl, by omega, by omega, HKK, Lib.hid (HNR.out.base HW7.out.size), Lib.hid (HW7.out.trans (HN6.out.mono HW7.out.size))⟩
                    case measure => simp [intOf]; omega
                  · have HK := Lib.hid (show NX = outX p m (k + 1) by rw [← HK.out, nxB_end_yes HPB.out.symm, hNX.out, htk])
                    clear htk hNX hpb
                    have hln := HNR.out.len
                    rw [HK.out] at hln
                    have hlk := outX_len p m (k + 1)
                    have HKK := Lib.hid HK.out
                    go_wp2
                    go_roundw
                    case rel => exact ⟨k + 1, NQ, _, _, an, cn, by go_num, rfl, by omega, by omega, HKK, Lib.hid (HNR.out.base HW7.out.size), Lib.hid (HW7.out.trans (HN6.out.mono HW7.out.size))⟩
                    case measure => simp [intOf]; omega
    · obtain rfl : P = k := by omega
      have HRI := Lib.hid (show RowsI wr av q (outX p m (2 ^ m)) by rw [← HP.out, ← hLL.out]; exact hRO.out.rows.2)
      clear hLL hRO
      go_wp2
      go_ret
      exact ⟨av, q, cv, rfl, HBW.out, by rw [HP.out]; exact HRI.out⟩
end Go.Proofs.YthkekjgdknnaiaaGreat
