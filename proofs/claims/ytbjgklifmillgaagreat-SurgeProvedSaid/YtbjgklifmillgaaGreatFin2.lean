import Derived.Test.YtbjgklifmillgaaGreatAwake
import Derived.Test.YtbjgklifmillgaaGreatFin
/- The final distribution as fractions, of the program and of the reference. -/
namespace Go.Proofs.YtbjgklifmillgaaGreat
open Go.RowKit
set_option linter.unusedVariables false

set_option maxRecDepth 100000 in
theorem finalOf_bad (s e t : List Int) (a a1 a2 : Option Addr) (n c n1 c1 n2 c2 : Nat) (g : Bool) (w : World) (hs : IntsR w a n s) (he : IntsR w a1 n1 e) (ht : IntsR w a2 n2 t) (h : ladErr s e t ≠ 0) :
    Calls Tryz.prog 39 #[.agg #[.slice a n c, .slice a1 n1 c1, .slice a2 n2 c2, .bool g]] w fun e' w' => e' = .returned (.tuple #[.slice none 0 0, .int .i64 (ladErr s e t)]) ∧ Below w.heap.size w w' := by
  have HS := Lib.hid (fun (w' : World) (hb' : Below w.heap.size w w') => checkLadder_any s e t a a1 a2 n c n1 c1 n2 c2 g w' (hs.below hb') (he.below hb') (ht.below hb'))
  clear hs he ht
  generalize ladErr s e t = el at HS h
  have h1' : (el != 0) = true := by simpa using h
  clear h
  go_enter Tryz.func39, Tryz.ntmps39
  go_wp2_with fail
  refine (HS.out _ (by (repeat' (first | (with_reducible exact Below.refl _ _) | (with_reducible assumption) | (with_reducible refine Below.drewN ?_ _) | (with_reducible refine Below.alloc ?_ ?_ _) | (with_reducible refine Below.drew ?_) | (with_reducible refine Below.setCell ?_ ?_ _) | (with_reducible refine Below.step (by assumption) ?_ ?_) | (with_reducible exact And.left (by assumption)) | go_size)))).mono ?_
  rintro e5 w5 ⟨rfl, hb5⟩
  have hz5 := hb5.size
  go_wp2
  go_ret2
  exact ⟨rfl, by (repeat' (first | (with_reducible exact Below.refl _ _) | (with_reducible assumption) | (with_reducible refine Below.drewN ?_ _) | (with_reducible refine Below.alloc ?_ ?_ _) | (with_reducible refine Below.drew ?_) | (with_reducible refine Below.setCell ?_ ?_ _) | (with_reducible refine Below.step (by assumption) ?_ ?_) | (with_reducible exact And.left (by assumption)) | go_size))⟩
set_option maxHeartbeats 1000000 in
set_option maxRecDepth 100000 in
theorem finalOf_ok (s e t : List Int) (a a1 a2 : Option Addr) (n c n1 c1 n2 c2 : Nat) (g : Bool) (w : World) (hs : IntsR w a n s) (he : IntsR w a1 n1 e) (ht : IntsR w a2 n2 t) (h : ladErr s e t = 0) :
    Calls Tryz.prog 39 #[.agg #[.slice a n c, .slice a1 n1 c1, .slice a2 n2 c2, .bool g]] w fun e' w' => Below w.heap.size w w' ∧ ∃ a' c', e' = .returned (.tuple #[.slice a' (n + 1) c', .int .i64 0]) ∧ PairsR w' a' (n + 1) (finO t n g) := by
  obtain ⟨h0, hel, htl, h6, _, _, bt⟩ := ladErr_zero h
  have HS := Lib.hid (fun (w' : World) (hb' : Below w.heap.size w w') => checkLadder_any s e t a a1 a2 n c n1 c1 n2 c2 g w' (hs.below hb') (he.below hb') (ht.below hb'))
  rw [h] at HS
  have hsl := hs.len
  have htl2 := ht.len
  obtain rfl : n = n2 := by omega
  rw [hsl] at h0 h6
  have HF := Lib.hid (fun (w' : World) (hb' : Below w.heap.size w w') => final_any t a a1 a2 n c n1 c1 c2 g w' (ht.below hb') h0 h6 bt)
  have htb := tsum_bd bt n (by omega)
  have hvb := fun k (hk : k ≤ n) => finV_bd g bt (show n ≤ t.length by omega) hk
  have hsm := finO_small g bt (show n ≤ t.length by omega) h0 h6
  have hnb : ∀ x ∈ finN t n g, -9000000000000000000 ≤ x ∧ x ≤ 9000000000000000000 := fun x hx => by
    obtain ⟨j, hj, rfl⟩ := List.mem_map.1 hx
    have := hvb j (by have : j < n + 1 := by simpa using hj
                      omega)
    omega
  have HFR := Lib.hid (fun (w' : World) (a' : Option Addr) (c' : Nat) (hl : IntsR w' a' (n + 1) (finN t n g)) => fractions_any (finN t n g) (tsum t n) a' (n + 1) c' w' hl (by omega) hnb (by omega) (by omega))
  rw [show (finN t n g).map (low · (tsum t n)) = finO t n g from rfl, hsm] at HFR
  clear hs he ht h htb hvb hsm hnb hsl hel htl htl2 bt
  generalize tsum t n = den at *
  go_enter Tryz.func39, Tryz.ntmps39
  go_wp2_with fail
  refine (HS.out _ (by (repeat' (first | (with_reducible exact Below.refl _ _) | (with_reducible assumption) | (with_reducible refine Below.drewN ?_ _) | (with_reducible refine Below.alloc ?_ ?_ _) | (with_reducible refine Below.drew ?_) | (with_reducible refine Below.setCell ?_ ?_ _) | (with_reducible refine Below.step (by assumption) ?_ ?_) | (with_reducible exact And.left (by assumption)) | go_size)))).mono ?_
  rintro e5 w5 ⟨rfl, hb5⟩
  have hz5 := hb5.size
  simp only [World.size_alloc] at hz5
  have q0 : w5.cell? ⟨w.heap.size, 0, none⟩ = some (.slice a n c) := by { rw [cellB hb5 _ _ (by first | (simp; done) | (simp; omega) | omega)]; all_goals (first | assumption | go_simp) }; have q1 : w5.cell? ⟨w.heap.size, 1, none⟩ = some (.slice a1 n1 c1) := by { rw [cellB hb5 _ _ (by first | (simp; done) | (simp; omega) | omega)]; all_goals (first | assumption | go_simp) }; have q2 : w5.cell? ⟨w.heap.size, 2, none⟩ = some (.slice a2 n c2) := by { rw [cellB hb5 _ _ (by first | (simp; done) | (simp; omega) | omega)]; all_goals (first | assumption | go_simp) }; have q3 : w5.cell? ⟨w.heap.size, 3, none⟩ = some (.bool g) := by { rw [cellB hb5 _ _ (by first | (simp; done) | (simp; omega) | omega)]; all_goals (first | assumption | go_simp) }; have l0 : w.heap.size < w5.heap.size := by { omega }
  have HB5 := Lib.hid (show Below w.heap.size w w5 by (repeat' (first | (with_reducible exact Below.refl _ _) | (with_reducible assumption) | (with_reducible refine Below.drewN ?_ _) | (with_reducible refine Below.alloc ?_ ?_ _) | (with_reducible refine Below.drew ?_) | (with_reducible refine Below.setCell ?_ ?_ _) | (with_reducible refine Below.step (by assumption) ?_ ?_) | (with_reducible exact And.left (by assumption)) | go_size)))
  clear hb5 HS
  go_wp2_with fail
  refine (HF.out _ HB5.out).mono ?_
  rintro e7 w7 ⟨g7, rfl, hb7, hi7⟩
  have HB7 := Lib.hid (HB5.out.trans (hb7.mono HB5.out.size))
  have HFF := Lib.hid (HFR.out w7 (some ⟨g7, 0, none⟩) (n + 1) hi7)
  clear hb7 HF HFR hi7
  go_wp2_with fail
  refine HFF.out.mono ?_
  rintro e8 w8 ⟨hb8, hp⟩
  have HB8 := Lib.hid (HB7.out.trans (hb8.mono HB7.out.size))
  clear hb8
  rcases hp with ⟨hp1, rfl⟩ | ⟨hp1, a8, c8, rfl, hp2⟩
  · exact absurd hp1 (by simp)
  · have HP := Lib.hid hp2
    clear hp1 hp2
    go_wp2
    go_ret2
    exact ⟨HB8.out, a8, c8, rfl, HP.out⟩
theorem finO_succ {t : List Int} {n : Nat} (g : Bool) (j : Nat) (hj : j < n + 1) : (finO t n g).take (j + 1) = (finO t n g).take j ++ [low (finV t n g j) (tsum t n)] := by
  rw [List.take_add_one, List.getElem?_eq_getElem (by rw [finO_len]; exact hj)]
  have : (finO t n g)[j]'(by rw [finO_len]; exact hj) = low (finV t n g j) (tsum t n) := by simp [finO, finN]
  rw [this]; rfl
set_option maxHeartbeats 1000000 in
set_option maxRecDepth 100000 in
theorem rfinal_any (t : List Int) (a a1 a2 : Option Addr) (n c n1 c1 n2 c2 : Nat) (g : Bool) (w : World) (ht : IntsR w a2 n t) (h0 : 0 < n) (h6 : n ≤ 6) (bt : ∀ x ∈ t, 1 ≤ x ∧ x ≤ 1000) :
    Calls Tryz.prog 46 #[.agg #[.slice a n2 c, .slice a1 n1 c1, .slice a2 n c2, .bool g]] w fun e' w' => ∃ a' c', e' = .returned (.slice a' (n + 1) c') ∧ Below w.heap.size w w' ∧ PairsR w' a' (n + 1) (finO t n g) := by
  have htl := ht.len
  obtain ⟨bt0, ot, rfl, hbt, hct⟩ := ht.addr h0
  have HCT := Lib.hid (fun k (hk : k < n) => (show w.cell? ⟨bt0, ot + k, none⟩ = some (.int .i64 (t.getD k 0)) ∧ 1 ≤ t.getD k 0 ∧ t.getD k 0 ≤ 1000 from ⟨hct k hk, bt _ (getD_mem (by omega))⟩))
  have HTS := Lib.hid (fun k (hk : k ≤ n) => (show (k : Int) ≤ tsum t k ∧ tsum t k ≤ 6000 by have := tsum_bd bt k (by omega); omega))
  have HFV := Lib.hid (fun k (hk : k ≤ n) => finV_bd g bt (show n ≤ t.length by omega) hk)
  clear ht hct bt htl
  go_enter Tryz.func46, Tryz.ntmps46
  go_wp2
  generalize hW : World.alloc _ _ = w5 at *
  have q2 : w5.cell? ⟨w.heap.size, 2, none⟩ = some (.slice (some ⟨bt0, ot, none⟩) n c2) := by { rw [← hW]; clear hW; go_simp }
  have q3 : w5.cell? ⟨w.heap.size, 3, none⟩ = some (.bool g) := by { rw [← hW]; clear hW; go_simp }
  have hb5 : Below w.heap.size w w5 := by rw [← hW]; (repeat' (first | (with_reducible exact Below.refl _ _) | (with_reducible assumption) | (with_reducible refine Below.drewN ?_ _) | (with_reducible refine Below.alloc ?_ ?_ _) | (with_reducible refine Below.drew ?_) | (with_reducible refine Below.setCell ?_ ?_ _) | (with_reducible refine Below.step (by assumption) ?_ ?_) | (with_reducible exact And.left (by assumption)) | go_size))
  have hz5 : w.heap.size < w5.heap.size := by rw [← hW]; simp
  have HB5 := Lib.hid hb5
  clear hW hb5
  go_loop [3, 5] (fun al i => ∃ k : Nat, i = .int .i64 k ∧ k ≤ n ∧ al = .int .i64 (tsum t k)) (fun _ i => n - (intOf i).toNat)
  case atStart => exact ⟨0, rfl, Nat.zero_le _, rfl⟩
  case round =>
    obtain ⟨k, rfl, hk, rfl⟩ := hrel
    rcases Nat.lt_or_ge k n with hlt | hge
    · have hc := (HCT.out k hlt).1
      rw [← cellB HB5.out _ _ hbt] at hc
      have hx := (HCT.out k hlt).2
      have hs := HTS.out k hk
      have HT := Lib.hid (show tsum t (k + 1) = tsum t k + t.getD k 0 from rfl)
      generalize t.getD k 0 = x at hc hx HT
      generalize tsum t k = S at hs HT
      have k0 : (0 : Int) ≤ (k : Int) := by omega
      have k1 : (k : Int) < (n : Int) := by omega
      go_wp2
      go_round
      case rel => exact ⟨k + 1, by go_num, by omega, by rw [HT.out]⟩
      case measure => simp [intOf]; omega
    · obtain rfl : k = n := by omega
      go_wp2
      go_loopw [4, 6, 7] (fun bf v i wr => ∃ (j : Nat) (T : Int) (av : Option Addr) (cv : Nat), i = .int .i64 j ∧ j ≤ k + 1 ∧ bf = .int .i64 T ∧ v = .slice av j cv ∧ Hid (j ≤ k → T = tsum t j) ∧ Hid (wr.ownsRow w5.heap.size 28 2 (.slice av j cv) j (pcells ((finO t k g).take j))) ∧ Hid (Below w5.heap.size w5 wr)) (fun _ _ i _ => k + 1 - (intOf i).toNat)
      case atStart => exact ⟨0, 0, none, 0, rfl, Nat.zero_le _, rfl, rfl, Lib.hid (fun _ => rfl), Lib.hid (World.ownsRow_nil _ _ _ _), Lib.hid (Below.refl _ _)⟩
      case round =>
        obtain ⟨j, T, av, cv, rfl, hj, rfl, rfl, hT, hO, hB⟩ := hrel
        obtain ⟨w6, rfl⟩ : ∃ w', w' = wr := ⟨wr, rfl⟩
        have hz6 := hB.out.size
        rcases Nat.lt_or_ge j (k + 1) with hlt | hge
        · have hr := hT.out (by omega)
          have hs := HTS.out j (by omega)
          have hsk := HTS.out k (Nat.le_refl _)
          have hfv := HFV.out j (by omega)
          rw [← hr] at hs
          have p2 : w6.cell? ⟨w.heap.size, 2, none⟩ = some (.slice (some ⟨bt0, ot, none⟩) k c2) := by rw [cellB hB.out _ _ (by omega)]; exact q2
          have p3 : w6.cell? ⟨w.heap.size, 3, none⟩ = some (.bool g) := by rw [cellB hB.out _ _ (by omega)]; exact q3
          have lw : w.heap.size < w6.heap.size := by omega
          have HTJ := Lib.hid hr
          have HO6 := Lib.hid hO.out
          have HB6 := Lib.hid hB.out
          have HFV1 := Lib.hid (show finV t k g j = if g = true then tsum t k - tsum t j else tsum t k from rfl)
          rw [← hr] at HFV1
          have HTK := Lib.hid (finO_succ (t := t) (n := k) g j hlt)
          generalize hA : tsum t k = A at hsk HFV1 HTK hfv
          have HA := Lib.hid hA
          have hA0 : 0 < A := by omega
          have j0 : (0 : Int) ≤ (j : Int) := by omega
          have j1 : (j : Int) ≤ (k : Int) := by omega
          clear hT hO hB hr hA q2 q3
          obtain ⟨⟨P, Q⟩, hPQ⟩ : ∃ p, low (finV t k g j) A = p := ⟨_, rfl⟩
          rw [hPQ] at HTK
          have HPQ := Lib.hid hPQ
          clear hPQ
          go_upto_if 30 with fail
          go_cut [6] from 31 to 42 (fun v6 wx => ∃ a6 c6, v6 = .slice a6 (j + 1) c6 ∧ Hid (wx.ownsRow w5.heap.size 28 2 (.slice a6 (j + 1) c6) (j + 1) (pcells ((finO t k g).take (j + 1)))) ∧ Hid (Below w5.heap.size w5 wx))
          case first =>
            cases g
            · simp only [Bool.false_eq_true, if_false] at HFV1
              have hPQ2 := HPQ.out
              rw [HFV1.out, low_self hA0] at hPQ2
              obtain ⟨rfl, rfl⟩ : P = 1 ∧ Q = 1 := ⟨(congrArg Prod.fst hPQ2).symm, (congrArg Prod.snd hPQ2).symm⟩
              clear hPQ2
              go_wp2_with fail
              refine (whole_any 1 _).mono ?_
              rintro e7 w7 ⟨rfl, hb7⟩
              have hz7 := hb7.size
              have HO7 := Lib.hid (owns_below HO6.out hb7 (fun q hq => (HO6.out.lt q hq).2))
              have HB7 := Lib.hid (HB6.out.trans (hb7.mono hz6))
              clear hb7
              go_wp2_with (at_builtin; refine wpList_append_sl _ rfl _ _ 33 rfl w5.heap.size 28 _ 2 16 Tryz.underlying33 infoFrac rfl (by omega) (.slice av j cv) j _ rfl (HO7.out.alloc _) _ 1 1 [.int .i64 1, .int .i64 1] rfl (SlR.lit _ _ _ _ _ 1 2 (by rfl) (by simp) rfl (by omega)) (by simp [Value.oneCell']) (by omega) (by omega) (by simp; omega) ?_)
              intro v8 w8 hown8 _ hb8
              obtain ⟨a8, c8, rfl, _, _⟩ := owns_slice hown8
              have HO8 := Lib.hid (show w8.ownsRow w5.heap.size 28 2 (.slice a8 (j + 1) c8) (j + 1) (pcells ((finO t k _).take (j + 1))) by rw [HTK.out, pcells_append]; exact hown8)
              have HB8 := Lib.hid (show Below w5.heap.size w5 w8 from Below.trans (HB7.out.alloc (by omega) _) hb8)
              clear hown8 hb8
              go_wp2_with fail
              go_meet
              case rel => exact ⟨a8, c8, rfl, HO8, HB8⟩
            · simp only [if_true] at HFV1
              have hPQ2 := HPQ.out
              rw [HFV1.out] at hPQ2
              have hlow := fun w' => blowest_any (A - T) A w' (by omega) (by omega) hA0 (by omega)
              rw [show (A - T).tdiv (gc (A - T) A) = P from congrArg Prod.fst hPQ2, show A / gc (A - T) A = Q from congrArg Prod.snd hPQ2] at hlow
              have HLOW := Lib.hid hlow
              clear hPQ2 hlow
              go_wp2_with fail
              refine (HLOW.out _).mono ?_
              rintro e7 w7 ⟨rfl, hb7⟩
              have hz7 := hb7.size
              have HO7 := Lib.hid (owns_below HO6.out hb7 (fun q hq => (HO6.out.lt q hq).2))
              have HB7 := Lib.hid (HB6.out.trans (hb7.mono hz6))
              clear hb7
              go_wp2_with (at_builtin; refine wpList_append_sl _ rfl _ _ 33 rfl w5.heap.size 28 _ 2 16 Tryz.underlying33 infoFrac rfl (by omega) (.slice av j cv) j _ rfl (HO7.out.alloc _) _ 1 1 [.int .i64 P, .int .i64 Q] rfl (SlR.lit _ _ _ _ _ 1 2 (by rfl) (by simp) rfl (by omega)) (by simp [Value.oneCell']) (by omega) (by omega) (by simp; omega) ?_)
              intro v8 w8 hown8 _ hb8
              obtain ⟨a8, c8, rfl, _, _⟩ := owns_slice hown8
              have HO8 := Lib.hid (show w8.ownsRow w5.heap.size 28 2 (.slice a8 (j + 1) c8) (j + 1) (pcells ((finO t k _).take (j + 1))) by rw [HTK.out, pcells_append]; exact hown8)
              have HB8 := Lib.hid (show Below w5.heap.size w5 w8 from Below.trans (HB7.out.alloc (by omega) _) hb8)
              clear hown8 hb8
              go_wp2_with fail
              go_meet
              case rel => exact ⟨a8, c8, rfl, HO8, HB8⟩
          case rest =>
            obtain ⟨w7, rfl⟩ : ∃ w', w' = wc := ⟨wc, rfl⟩
            obtain ⟨a6, c6, rfl, hO, hB⟩ := hcut
            have HO7 := Lib.hid hO.out
            have HB7 := Lib.hid hB.out
            have p2' : w7.cell? ⟨w.heap.size, 2, none⟩ = some (.slice (some ⟨bt0, ot, none⟩) k c2) := by rw [cellB hB.out _ _ (by omega), ← cellB HB6.out _ _ (by omega)]; exact p2
            have lw7 : w.heap.size < w7.heap.size := by have := hB.out.size; omega
            clear hO hB p2 p3
            by_cases hjk : j < k
            · have hc := (HCT.out j hjk).1
              rw [← cellB HB5.out _ _ hbt, ← cellB HB7.out _ _ (by omega)] at hc
              have hx := (HCT.out j hjk).2
              have HT := Lib.hid (show tsum t (j + 1) = tsum t j + t.getD j 0 from rfl)
              rw [← HTJ.out] at HT
              generalize t.getD j 0 = x at hc hx HT
              have j2 : (j : Int) < (k : Int) := by omega
              go_wp2
              go_roundw
              case rel => exact ⟨j + 1, _, a6, c6, by go_num, by omega, rfl, rfl, Lib.hid (fun _ => HT.out.symm), HO7, HB7⟩
              case measure => simp [intOf]; omega
            · have j2 : ¬ ((j : Int) < (k : Int)) := by omega
              go_wp2
              go_roundw
              case rel => exact ⟨j + 1, _, a6, c6, by go_num, by omega, rfl, rfl, Lib.hid (fun h => absurd h (by omega)), HO7, HB7⟩
              case measure => simp [intOf]; omega
        · obtain rfl : j = k + 1 := by omega
          have HR := Lib.hid (SlR.of_owns hO.out)
          have HB6 := Lib.hid (HB5.out.trans (hB.out.mono (by omega)))
          have p2 : w6.cell? ⟨w.heap.size, 2, none⟩ = some (.slice (some ⟨bt0, ot, none⟩) k c2) := by rw [cellB hB.out _ _ (by omega)]; exact q2
          have j1 : ¬ ((k : Int) + 1 ≤ (k : Int)) := by omega
          clear hO hB hT q2 q3
          go_wp2
          go_ret
          have := HR.out
          rw [List.take_of_length_le (by rw [finO_len]; omega)] at this
          exact ⟨av, ⟨cv, rfl⟩, HB6.out, this⟩
end Go.Proofs.YtbjgklifmillgaaGreat
