import Derived.Test.YtbjgklifmillgaaGreatAwake
import Derived.Test.YtbjgklifmillgaaGreatFallLib
import Derived.Test.YtbjgklifmillgaaGreatRanked
/- The statement SurgePaths: the walk. -/
namespace Go.Proofs.YtbjgklifmillgaaGreat
open Go.RowKit
set_option linter.unusedVariables false

theorem infoPath : (Tryz.prog.info? 118).map (fun i => (i.zero, i.size, i.bytes)) = some (some (.agg #[.string ByteArray.empty, .int .i64 0, .int .i64 0, .int .i64 0, .int .i64 0]), 5, 48) := by kernel_rfl
theorem pEnc_one (l : List PathV) : ∀ u ∈ ecells pEnc l, u.oneCell' = true := ecells_ones (fun x u hu => by
  simp only [pEnc, List.mem_cons, List.not_mem_nil, or_false] at hu
  rcases hu with rfl | rfl | rfl | rfl | rfl <;> rfl) l
set_option maxRecDepth 100000 in
theorem copyPaths_any (l : List PathV) (a : Option Addr) (n c : Nat) (w : World) (h : PathsR w a n l) (hn : n ≤ 100000) :
    Calls Tryz.prog 19 #[.slice a n c] w fun e' w' => ∃ a' c', e' = .returned (.slice a' n c') ∧ n ≤ c' ∧ Below w.heap.size w w' ∧ PathsR w' a' n l := by
  have H := Lib.hid h.2
  have HN := Lib.hid h.1
  clear h
  go_enter Tryz.func19, Tryz.ntmps19
  go_wp2_with (at_builtin; refine wpList_append_sl _ rfl _ _ 48 rfl w.heap.size 118 _ 5 48 Tryz.underlying48 infoPath rfl (by omega) _ _ _ rfl (World.ownsRow_made w #[] 0 (by omega) (by simp [maxLen]) rfl) a n c (ecells pEnc l) rfl (H.out.below (by (repeat' (first | (with_reducible exact Below.refl _ _) | (with_reducible assumption) | (with_reducible refine Below.drewN ?_ _) | (with_reducible refine Below.alloc ?_ ?_ _) | (with_reducible refine Below.drew ?_) | (with_reducible refine Below.setCell ?_ ?_ _) | (with_reducible refine Below.step (by assumption) ?_ ?_) | (with_reducible exact And.left (by assumption)) | go_size)))) (pEnc_one _) (by omega) (by omega) (by simp) ?_)
  intro v2 w2 hown2 _ hb2
  try simp only [Nat.zero_add, List.nil_append] at hown2
  obtain ⟨a', c', rfl, hc', _⟩ := owns_slice hown2
  have HO := Lib.hid (ER.of_owns HN.out hown2)
  have HB := Lib.hid hb2
  clear hown2 hb2
  go_wp2
  go_ret
  exact ⟨a', c', rfl, hc', Below.trans (by (repeat' (first | (with_reducible exact Below.refl _ _) | (with_reducible assumption) | (with_reducible refine Below.drewN ?_ _) | (with_reducible refine Below.alloc ?_ ?_ _) | (with_reducible refine Below.drew ?_) | (with_reducible refine Below.setCell ?_ ?_ _) | (with_reducible refine Below.step (by assumption) ?_ ?_) | (with_reducible exact And.left (by assumption)) | go_size))) HB.out, HO.out⟩
/-- No two paths bear one name. -/
theorem names_apart {l : List PathV} {m : Int} {n : Nat} (hn : l.length = n) (hok : ∀ (i : Nat) (p : PathV), i < n → l[i]? = some p → pthErr p (l.take i) m = 0) {i j : Nat} {x y : PathV} (hx : l[i]? = some x) (hy : l[j]? = some y) (hij : i < j) : x.nm.toList ≠ y.nm.toList := by
  have hj := (List.getElem?_eq_some_iff.1 hy).1
  have h1 := (pth_ok (hok j y (by omega) hy)).2.1
  rw [List.any_eq_false] at h1
  have h2 := h1 x (List.mem_iff_getElem?.2 ⟨i, by rw [List.getElem?_take, if_pos hij]; exact hx⟩)
  simpa using h2
theorem pths_ok {l : List PathV} {m : Int} (h : pthsErr l m = 0) : l.length ≤ 12 ∧ ∀ (i : Nat) (p : PathV), i < l.length → l[i]? = some p → pthErr p (l.take i) m = 0 := by
  unfold pthsErr at h
  split at h
  · cases h
  · rename_i h12
    refine ⟨by omega, ?_⟩
    have : ∀ (k i0 : Nat), pthsFrom l m i0 k = 0 → ∀ (i : Nat) (p : PathV), i0 ≤ i → i < i0 + k → l[i]? = some p → pthErr p (l.take i) m = 0 := by
      intro k
      induction k with
      | zero => intro i0 _ i p h1 h2; omega
      | succ k ih =>
        intro i0 h0 i p h1 h2 hp
        obtain ⟨q, hq⟩ : ∃ q, l[i0]? = some q := by
          have := (List.getElem?_eq_some_iff.1 hp).1
          exact ⟨l[i0]'(by omega), List.getElem?_eq_getElem (by omega)⟩
        by_cases hz : pthErr q (l.take i0) m = 0
        · rw [pthsFrom_step hq hz] at h0
          rcases Nat.lt_or_ge i0 i with h3 | h3
          · exact ih (i0 + 1) h0 i p (by omega) (by omega) hp
          · obtain rfl : i = i0 := by omega
            rw [hq] at hp; obtain rfl := Option.some.inj hp; exact hz
        · rw [pthsFrom_stop hq hz] at h0; exact absurd h0 hz
    exact fun i p hi hp => this l.length 0 h i p (Nat.zero_le _) (by omega) hp
/-- Sorted ranks of paths with names of their own: names of their own. -/
theorem perm_apart {v : Int} {u : List (Int × Int)} {l : List PathV} {m : Int} {n : Nat} (hn : l.length = n) (hok : ∀ (i : Nat) (p : PathV), i < n → l[i]? = some p → pthErr p (l.take i) m = 0) {S : List RankV} (hp : S.Perm (l.map (rkOf v u))) :
    ∀ (i j : Nat) (x y : RankV), S[i]? = some x → S[j]? = some y → x.nm.toList = y.nm.toList → i = j := by
  have h1 : (l.map (fun p => p.nm.toList)).Pairwise (· ≠ ·) := by
    rw [List.pairwise_iff_getElem]
    intro i j hi hj hij
    rw [List.getElem_map, List.getElem_map]
    simp only [List.length_map] at hi hj
    exact names_apart hn hok (List.getElem?_eq_getElem hi) (List.getElem?_eq_getElem hj) hij
  have h2 : (S.map (fun r => r.nm.toList)).Perm (l.map (fun p => p.nm.toList)) := by
    have := hp.map (fun r : RankV => r.nm.toList)
    rwa [List.map_map] at this
  have h3 : (S.map (fun r => r.nm.toList)).Pairwise (· ≠ ·) := (h2.pairwise_iff (fun h => Ne.symm h)).2 h1
  rw [List.pairwise_iff_getElem] at h3
  intro i j x y hx hy hxy
  obtain ⟨hi, rfl⟩ := List.getElem?_eq_some_iff.1 hx
  obtain ⟨hj, rfl⟩ := List.getElem?_eq_some_iff.1 hy
  rcases Nat.lt_trichotomy i j with h | h | h
  · have := h3 i j (by simpa using hi) (by simpa using hj) h
    rw [List.getElem_map, List.getElem_map] at this
    exact absurd hxy this
  · exact h
  · have := h3 j i (by simpa using hj) (by simpa using hi) h
    rw [List.getElem_map, List.getElem_map] at this
    exact absurd hxy.symm this
theorem rkE1_cases {v : Int} {u : List (Int × Int)} {m n : Nat} (h : rkE1 v u m n ≠ 0) :
    (wi v 1 1000000 = false ∧ rkE1 v u m n = 2) ∨ (wi v 1 1000000 = true ∧ dstErr u m ≠ 0 ∧ rkE1 v u m n = dstErr u m) ∨ (wi v 1 1000000 = true ∧ dstErr u m = 0 ∧ 12 < n ∧ rkE1 v u m n = 8) := by
  unfold rkE1 at h ⊢
  rw [first_three] at h ⊢
  cases h1 : wi v 1 1000000
  · exact .inl ⟨rfl, by simp [unl]⟩
  · rw [h1] at h
    by_cases h2 : dstErr u m = 0
    · rcases Nat.lt_or_ge 12 n with h3 | h3
      · refine .inr (.inr ⟨rfl, h2, h3, ?_⟩)
        have h4 : decide ((n : Int) ≤ 12) = false := by simp; omega
        rw [h4, h2]; simp [unl]
      · have h4 : decide ((n : Int) ≤ 12) = true := by simp; omega
        rw [h4, h2] at h; simp [unl] at h
    · exact .inr (.inl ⟨rfl, h2, by simp [unl, h2]⟩)
set_option maxHeartbeats 4000000 in
set_option maxRecDepth 100000 in
theorem spaths_walk (v : Int) (u : List (Int × Int)) (l : List PathV) (a a2 : Option Addr) (m c n c2 : Nat) (w : World) (hu : PairsR w a m u) (hl : PathsR w a2 n l)
    (hub : ∀ i, i < m → -9223372036854775808 ≤ (gp u i).1 ∧ (gp u i).1 ≤ 9223372036854775807 ∧ (gp u i).2 ≤ 9223372036854775807) (hs : ∀ p ∈ l, p.nm.size ≤ maxLen) :
    Calls Tryz.prog 5 #[.int .i64 v, .slice a m c, .slice a2 n c2] w fun e' w' => e' = .returned (.bool true) ∧ Below w.heap.size w w' := by
  have hmS := hu.small
  have hnS := ER.small hl
  have HU := Lib.hid hu
  have HL := Lib.hid hl
  have HUB := Lib.hid hub
  have HS := Lib.hid hs
  have HLN := Lib.hid (ER.len hl)
  clear hu hl hub hs
  go_enter Tryz.func5, Tryz.ntmps5
  go_wp2_with fail
  refine (awake_any _).mono ?_
  rintro e5 w5 ⟨rfl, hb5⟩
  have HB5 := Lib.hid hb5
  clear hb5
  rcases Nat.lt_or_ge 9 m with hm | hm
  · have h1 : 9 < (m : Int) := by omega
    go_wp2
    go_ret
    exact ⟨rfl, HB5.out⟩
  rcases Nat.lt_or_ge 14 n with hn | hn
  · have h1 : ¬ 9 < (m : Int) := by omega
    have h2 : 14 < (n : Int) := by omega
    go_wp2
    go_ret
    exact ⟨rfl, HB5.out⟩
  have h1 : ¬ 9 < (m : Int) := by omega
  have h2 : ¬ 14 < (n : Int) := by omega
  have HWI := Lib.hid (fun w' => bwithin_any v 1 1000000 w')
  have HDE := Lib.hid (fun (w' : World) (hb : Below w.heap.size w w') => rdistributionErr_any u a m c w' (HU.out.below hb) hm HUB.out)
  have HPE := Lib.hid (fun (w' : World) (hb : Below w.heap.size w w') => rpathsErr_any (m : Int) l a2 n c2 w' (HL.out.below hb) HS.out hn (by omega) (by omega))
  go_wp2_with fail
  refine (copyFracs_any u a m c w5 (HU.out.below HB5.out) (by omega)).mono ?_
  rintro e6 w6 ⟨a6, c6, rfl, hb6, ho6⟩
  have HU6 := Lib.hid (show PairsR w6 a6 m u from SlR.of_owns ho6)
  have HB6 := Lib.hid (HB5.out.trans (hb6.mono HB5.out.size))
  clear hb6 ho6
  go_wp2_with fail
  refine (copyPaths_any l a2 n c2 w6 (HL.out.below HB6.out) (by omega)).mono ?_
  rintro e7 w7 ⟨a7, c7, rfl, hnc, hb7, hp7⟩
  have HU7 := Lib.hid (HU6.out.below hb7)
  have HP7 := Lib.hid hp7
  have HB7 := Lib.hid (HB6.out.trans (hb7.mono HB6.out.size))
  clear hb7 hp7 HU6
  go_wp2_with fail
  refine (rankPaths_any v u l a6 a7 m c6 n c7 w7 HU7.out HP7.out hm hn hnc HUB.out HS.out).mono ?_
  rintro e8 w8 ⟨hb8, hcase⟩
  have HB8 := Lib.hid (HB7.out.trans (hb8.mono HB7.out.size))
  clear hb8 HU7 HP7 hnc
  rcases hcase with ⟨hE, rfl⟩ | ⟨hE, hP, rfl⟩ | ⟨hE, hP, hbad, rfl⟩ | ⟨hE, hP, hall, a3, c3, S, rfl, hER, hperm, hsort⟩
  · rcases rkE1_cases hE with ⟨e1, e2⟩ | ⟨e1, e2, e3⟩ | ⟨e1, e2, e3, e4⟩
    · rw [e2]
      rw [e1] at HWI
      clear hE e1 e2
      go_wp2_with fail
      refine (HWI.out _).mono ?_
      rintro e9 w9 ⟨rfl, rfl⟩
      go_wp2
      go_ret
      exact ⟨rfl, HB8.out⟩
    · rw [e3]
      rw [e1] at HWI
      obtain ⟨E, hEE⟩ : ∃ E, E = dstErr u m := ⟨_, rfl⟩
      rw [← hEE] at e2 HDE ⊢
      have e5 : (E == 0) = false := by simpa using e2
      have e6 : (E != 0) = true := by simpa using e2
      clear hE e1 e2 e3 hEE
      go_wp2_with fail
      refine (HWI.out _).mono ?_
      rintro e9 w9 ⟨rfl, rfl⟩
      go_wp2_with fail
      refine (HDE.out _ HB8.out).mono ?_
      rintro eA wA ⟨rfl, hbA⟩
      have HBA := Lib.hid (HB8.out.trans (hbA.mono HB8.out.size))
      have HNA := Lib.hid hbA
      clear hbA
      go_wp2
      go_ret
      exact ⟨rfl, HBA.out⟩
    · rw [e4]
      rw [e1] at HWI
      rw [e2] at HDE
      rw [pths_long (by rw [HLN.out]; exact e3)] at HPE
      clear hE e1 e2 e3 e4
      go_wp2_with fail
      refine (HWI.out _).mono ?_
      rintro e9 w9 ⟨rfl, rfl⟩
      go_wp2_with fail
      refine (HDE.out _ HB8.out).mono ?_
      rintro eA wA ⟨rfl, hbA⟩
      have HBA := Lib.hid (HB8.out.trans (hbA.mono HB8.out.size))
      have HNA := Lib.hid hbA
      clear hbA
      go_wp2_with fail
      refine (HPE.out _ HBA.out).mono ?_
      rintro eB wB ⟨rfl, hbB⟩
      have HBB := Lib.hid (HBA.out.trans (hbB.mono HBA.out.size))
      have HNB := Lib.hid (HNA.out.trans (hbB.mono HNA.out.size))
      clear hbB
      go_wp2
      go_ret
      exact ⟨rfl, HBB.out⟩
  all_goals
    obtain ⟨⟨v0, v1⟩, hdst, hn12⟩ := rkE1_ok hE
    have HD0 := Lib.hid hdst
    rw [hdst] at HDE
    rw [show wi v 1 1000000 = true from wi_iff.2 ⟨v0, v1⟩] at HWI
    clear hE hdst
  · obtain ⟨E, hEE⟩ : ∃ E, E = pthsErr l m := ⟨_, rfl⟩
    rw [← hEE] at hP HPE ⊢
    have e5 : (E == 0) = false := by simpa using hP
    have e6 : (E != 0) = true := by simpa using hP
    clear hP hEE
    go_wp2_with fail
    refine (HWI.out _).mono ?_
    rintro e9 w9 ⟨rfl, rfl⟩
    go_wp2_with fail
    refine (HDE.out _ HB8.out).mono ?_
    rintro eA wA ⟨rfl, hbA⟩
    have HBA := Lib.hid (HB8.out.trans (hbA.mono HB8.out.size))
    have HNA := Lib.hid hbA
    clear hbA
    go_wp2_with fail
    refine (HPE.out _ HBA.out).mono ?_
    rintro eB wB ⟨rfl, hbB⟩
    have HBB := Lib.hid (HBA.out.trans (hbB.mono HBA.out.size))
    have HNB := Lib.hid (HNA.out.trans (hbB.mono HNA.out.size))
    clear hbB
    go_wp2
    go_ret
    exact ⟨rfl, HBB.out⟩
  all_goals
    have HOK := Lib.hid (show ∀ (i : Nat) (p : PathV), i < n → l[i]? = some p → pthErr p (l.take i) m = 0 from fun i p hi hp => (pths_ok hP).2 i p (by rw [HLN.out]; exact hi) hp)
    rw [hP] at HPE
    clear hP
  · have HBAD := Lib.hid hbad
    clear hbad
    go_wp2_with fail
    refine (HWI.out _).mono ?_
    rintro e9 w9 ⟨rfl, rfl⟩
    go_wp2_with fail
    refine (HDE.out _ HB8.out).mono ?_
    rintro eA wA ⟨rfl, hbA⟩
    have HBA := Lib.hid (HB8.out.trans (hbA.mono HB8.out.size))
    have HNA := Lib.hid hbA
    clear hbA
    go_wp2_with fail
    refine (HPE.out _ HBA.out).mono ?_
    rintro eB wB ⟨rfl, hbB⟩
    have HBB := Lib.hid (HBA.out.trans (hbB.mono HBA.out.size))
    have HNB := Lib.hid (HNA.out.trans (hbB.mono HNA.out.size))
    clear hbB
    go_wp2_with fail
    refine (ranked_any v u l [] a a2 m c n c2 wB (HU.out.below HBB.out) (HL.out.below HBB.out) ⟨v0, v1⟩ HD0.out hn12 HOK.out (fun hall => by
      obtain ⟨p, hp, hq⟩ := HBAD.out
      rw [hall p hp] at hq; cases hq)).mono ?_
    rintro eC wC ⟨hbC, hr⟩
    have HBC := Lib.hid (HBB.out.trans (hbC.mono HBB.out.size))
    clear hbC
    rcases hr with ⟨_, rfl⟩ | ⟨hall, _⟩
    rotate_left
    · exfalso
      obtain ⟨p, hp, hq⟩ := HBAD.out
      rw [hall p hp] at hq; cases hq
    have HSR := Lib.hid (sameRanks_any [] none none 0 0 0 wC (ER.nil _ _) (ER.nil _ _))
    go_wp2_with fail
    refine HSR.out.mono ?_
    rintro eD wD ⟨rfl, hbD⟩
    have HBD := Lib.hid (HBC.out.trans (hbD.mono HBC.out.size))
    clear hbD
    go_wp2
    go_ret
    exact ⟨rfl, HBD.out⟩
  · have HALL := Lib.hid hall
    have HRS := Lib.hid (RanksR.of_s hER)
    have HPM := Lib.hid hperm
    have HST := Lib.hid (show ∀ (i j : Nat) (x y : RankV), i < j → (S.map Subtype.val)[i]? = some x → (S.map Subtype.val)[j]? = some y → rkL y x = false from fun i j x y hij hx hy => by
      rw [List.getElem?_map, Option.map_eq_some_iff] at hx hy
      obtain ⟨x', hx', rfl⟩ := hx
      obtain ⟨y', hy', rfl⟩ := hy
      exact hsort i j x' y' hij hx' hy')
    clear hall hER hperm hsort
    generalize S.map Subtype.val = T at *
    go_wp2_with fail
    refine (HWI.out _).mono ?_
    rintro e9 w9 ⟨rfl, rfl⟩
    go_wp2_with fail
    refine (HDE.out _ HB8.out).mono ?_
    rintro eA wA ⟨rfl, hbA⟩
    have HBA := Lib.hid (HB8.out.trans (hbA.mono HB8.out.size))
    have HNA := Lib.hid hbA
    clear hbA
    go_wp2_with fail
    refine (HPE.out _ HBA.out).mono ?_
    rintro eB wB ⟨rfl, hbB⟩
    have HBB := Lib.hid (HBA.out.trans (hbB.mono HBA.out.size))
    have HNB := Lib.hid (HNA.out.trans (hbB.mono HNA.out.size))
    clear hbB
    go_wp2_with fail
    refine (ranked_any v u l T a a2 m c n c2 wB (HU.out.below HBB.out) (HL.out.below HBB.out) ⟨v0, v1⟩ HD0.out hn12 HOK.out (fun _ => ⟨HPM.out, HST.out, perm_apart HLN.out HOK.out HPM.out⟩)).mono ?_
    rintro eC wC ⟨hbC, hr⟩
    have HBC := Lib.hid (HBB.out.trans (hbC.mono HBB.out.size))
    have HRC := Lib.hid (RanksR.below HRS.out (HNB.out.trans (hbC.mono HNB.out.size)))
    clear hbC
    rcases hr with ⟨hbad, _⟩ | ⟨_, aT, cT, rfl, hT⟩
    · exfalso
      obtain ⟨p, hp, hq⟩ := hbad
      rw [HALL.out p hp] at hq; cases hq
    have HSR := Lib.hid (sameRanks_any T a3 aT n c3 cT wC HRC.out hT)
    clear hT
    go_wp2_with fail
    refine HSR.out.mono ?_
    rintro eD wD ⟨rfl, hbD⟩
    have HBD := Lib.hid (HBC.out.trans (hbD.mono HBC.out.size))
    clear hbD
    go_wp2
    go_ret
    exact ⟨rfl, HBD.out⟩
end Go.Proofs.YtbjgklifmillgaaGreat
