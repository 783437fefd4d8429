import Derived.Test.YtbjgklifmillgaaMF2
import Derived.Test.YtbjgklifmillgaaMNm
import Derived.Test.YtbjgklifmillgaaMRs
/- The error of a distribution, in the program and in the reference. -/
namespace Go.Proofs.Ytbjgklifmillgaa
open Go.RowKit
set_option linter.unusedVariables false

/-- The error of a distribution, up to an item. -/
def duE (u : List (Int × Int)) (m : Nat) : Nat → Int
  | 0 => firstErr [unl (decide ((m : Int) ≥ 2)) 10, unl (decide ((m : Int) ≤ 7)) 8]
  | k + 1 => firstErr [duE u m k, frE (gp u k).1 (gp u k).2]
theorem first_two (a b : Int) : firstErr [a, b] = if a = 0 then b else a := by
  by_cases h : a = 0
  · subst h; by_cases hb : b = 0
    · subst hb; rfl
    · simp [firstErr]
      intro h0; exact absurd h0 hb
  · simp [firstErr, h]
theorem duE_zero {u : List (Int × Int)} {m k : Nat} (h : duE u m k = 0) : duE u m (k + 1) = frE (gp u k).1 (gp u k).2 := by
  show firstErr [duE u m k, _] = _
  rw [first_two, if_pos h]
theorem duE_keep {u : List (Int × Int)} {m k : Nat} (h : duE u m k ≠ 0) : ∀ j, duE u m (k + j) = duE u m k
  | 0 => rfl
  | j + 1 => by
    show firstErr [duE u m (k + j), _] = _
    rw [duE_keep h j, first_two, if_neg h]
theorem duE_at {u : List (Int × Int)} {m k n : Nat} (h : duE u m k ≠ 0) (hk : k ≤ n) : duE u m n = duE u m k := by
  obtain ⟨j, rfl⟩ : ∃ j, n = k + j := ⟨n - k, by omega⟩
  exact duE_keep h j
def dstErr (u : List (Int × Int)) (m : Nat) : Int := duE u m m
theorem duE_small {u : List (Int × Int)} {m : Nat} (h : duE u m 0 = 0) : 2 ≤ m ∧ m ≤ 7 := by
  unfold duE at h
  rw [first_two] at h
  by_cases h1 : (m : Int) ≥ 2
  · by_cases h2 : (m : Int) ≤ 7
    · omega
    · simp [unl, h1, h2] at h
  · simp [unl, h1] at h
theorem dst_short {u : List (Int × Int)} {m : Nat} (h : m < 2) : dstErr u m = 10 := by
  have h1 : duE u m 0 = 10 := by
    unfold duE; rw [first_two, show decide ((m : Int) ≥ 2) = false by simp; omega]; rfl
  unfold dstErr; rw [duE_at (k := 0) (by rw [h1]; decide) (Nat.zero_le _), h1]
theorem dst_long {u : List (Int × Int)} {m : Nat} (h : 7 < m) : dstErr u m = 8 := by
  have h1 : duE u m 0 = 8 := by
    unfold duE; rw [first_two, show decide ((m : Int) ≥ 2) = true by simp; omega, show decide ((m : Int) ≤ 7) = false by simp; omega]; rfl
  unfold dstErr; rw [duE_at (k := 0) (by rw [h1]; decide) (Nat.zero_le _), h1]
theorem dst_start {u : List (Int × Int)} {m : Nat} (h : 2 ≤ m) (h7 : m ≤ 7) : duE u m 0 = 0 := by
  unfold duE; rw [first_two, show decide ((m : Int) ≥ 2) = true by simp; omega, show decide ((m : Int) ≤ 7) = true by simp; omega]; rfl
/-- No error: every item is a fraction in lowest terms. -/
theorem dst_ok {u : List (Int × Int)} {m : Nat} (h : dstErr u m = 0) : 2 ≤ m ∧ m ≤ 7 ∧ ∀ i, i < m → frE (gp u i).1 (gp u i).2 = 0 := by
  have hz : ∀ k, k ≤ m → duE u m k = 0 := fun k hk => by
    rcases Decidable.em (duE u m k = 0) with e | e
    · exact e
    · exact absurd ((duE_at e hk).symm.trans h) e
  refine ⟨(duE_small (hz 0 (Nat.zero_le _))).1, (duE_small (hz 0 (Nat.zero_le _))).2, fun i hi => ?_⟩
  rw [← duE_zero (hz i (by omega))]
  exact hz (i + 1) hi
set_option maxHeartbeats 1000000 in
set_option maxRecDepth 100000 in
theorem distributionErr_any (u : List (Int × Int)) (a : Option Addr) (m c : Nat) (w : World) (hu : PairsR w a m u) (hm : m ≤ 9)
    (hub : ∀ i, i < m → -9223372036854775808 ≤ (gp u i).1 ∧ (gp u i).1 ≤ 9223372036854775807 ∧ (gp u i).2 ≤ 9223372036854775807) :
    Calls Try.prog 89 #[.slice a m c] w fun e' w' => e' = .returned (.int .i64 (dstErr u m)) ∧ Below w.heap.size w w' := by
  have HFE := Lib.hid (fun (i : Nat) (hi : i < m) (w' : World) => fracErr_all (gp u i).1 (gp u i).2 w' (hub i hi).1 (hub i hi).2.1 (hub i hi).2.2)
  have HU := Lib.hid (fun (h0 : 0 < m) => hu.addr h0)
  clear hu hub
  go_enter Try.func89, Try.ntmps89
  go_wp2_with fail
  refine (unless_any _ _ _).mono ?_
  rintro e1 w1 ⟨rfl, rfl⟩
  go_wp2_with fail
  refine (unless_any _ _ _).mono ?_
  rintro e2 w2 ⟨rfl, rfl⟩
  go_wp2_with fail
  refine (first2 _ _ _ _ _ _ (by rfl) (by simp)).mono ?_
  rintro e3 w3 ⟨rfl, hw3⟩
  have HB3 := Lib.hid (show Below w.heap.size w w3 by rw [← hw3]; (repeat' (first | (with_reducible exact Below.refl _ _) | (with_reducible assumption) | (with_reducible refine Below.drewN ?_ _) | (with_reducible refine Below.alloc ?_ ?_ _) | (with_reducible refine Below.drew ?_) | (with_reducible refine Below.setCell ?_ ?_ _) | (with_reducible refine Below.step (by assumption) ?_ ?_) | (with_reducible exact And.left (by assumption)) | go_size)))
  clear hw3
  rw [show firstErr [unl (decide ((m : Int) ≥ 2)) 10, unl (decide ((m : Int) ≤ 7)) 8] = duE u m 0 from rfl]
  obtain ⟨E, hE⟩ : ∃ E, E = duE u m 0 := ⟨_, rfl⟩
  rw [← hE]
  have HE0 := Lib.hid hE
  clear hE
  go_wp2
  go_loopw [18, 3] (fun i x wr => ∃ (k : Nat) (F : Int), i = .int .i64 k ∧ x = .int .i64 F ∧ k ≤ m ∧ Hid (F = duE u m k) ∧ Hid (Below w3.heap.size w3 wr)) (fun i _ _ => m - (intOf i).toNat)
  case atStart => exact ⟨0, E, rfl, rfl, Nat.zero_le _, HE0, Lib.hid (Below.refl _ _)⟩
  case round =>
    obtain ⟨k, F, rfl, rfl, hk, hF, hBr⟩ := hrel
    have HBw := Lib.hid (HB3.out.trans (hBr.out.mono HB3.out.size))
    have hzr := hBr.out.size
    have hz3 := HB3.out.size
    rcases Nat.lt_or_ge k m with hlt | hge
    · obtain ⟨b, o, rfl, hb, hcu⟩ := HU.out (by omega)
      obtain ⟨P, hP⟩ : ∃ P, P = (gp u k).1 := ⟨_, rfl⟩
      obtain ⟨Q, hQ⟩ : ∃ P, P = (gp u k).2 := ⟨_, rfl⟩
      have cP : wr.cell? ⟨b, o + k * 2, none⟩ = some (.int .i64 P) := by rw [cellB HBw.out _ _ hb, hP]; exact (hcu k hlt).1
      have cQ : wr.cell? ⟨b, o + k * 2 + 1, none⟩ = some (.int .i64 Q) := by rw [cellB HBw.out _ _ hb, hQ]; exact (hcu k hlt).2
      have hfe := HFE.out k hlt
      rw [← hP, ← hQ] at hfe
      have HFK := Lib.hid hfe
      have HFF := Lib.hid (show firstErr [F, frE P Q] = duE u m (k + 1) by rw [hF.out, hP, hQ]; rfl)
      have i0 : (0 : Int) ≤ (k : Int) := by omega
      have i1 : (k : Int) < (m : Int) := by omega
      clear hP hQ hfe hcu hF
      go_wp2_with fail
      refine (HFK.out _).mono ?_
      rintro e8 w8 ⟨rfl, hb8⟩
      have HB8 := Lib.hid ((show Below wr.heap.size wr w8 from Below.trans (by (repeat' (first | (with_reducible exact Below.refl _ _) | (with_reducible assumption) | (with_reducible refine Below.drewN ?_ _) | (with_reducible refine Below.alloc ?_ ?_ _) | (with_reducible refine Below.drew ?_) | (with_reducible refine Below.setCell ?_ ?_ _) | (with_reducible refine Below.step (by assumption) ?_ ?_) | (with_reducible exact And.left (by assumption)) | go_size))) (hb8.mono (by simp))))
      clear hb8
      go_wp2_with fail
      refine (first2 _ _ _ _ _ _ (by rfl) (by simp)).mono ?_
      rintro e9 w9 ⟨rfl, hw9⟩
      have HB9 := Lib.hid (show Below w3.heap.size w3 w9 from hBr.out.trans ((HB8.out.trans ((show Below w8.heap.size w8 w9 by rw [← hw9]; (repeat' (first | (with_reducible exact Below.refl _ _) | (with_reducible assumption) | (with_reducible refine Below.drewN ?_ _) | (with_reducible refine Below.alloc ?_ ?_ _) | (with_reducible refine Below.drew ?_) | (with_reducible refine Below.setCell ?_ ?_ _) | (with_reducible refine Below.step (by assumption) ?_ ?_) | (with_reducible exact And.left (by assumption)) | go_size))).mono HB8.out.size)).mono hzr))
      clear hw9
      go_wp2
      go_roundw
      case rel => exact ⟨k + 1, _, by go_num, rfl, by omega, HFF, HB9⟩
      case measure => simp [intOf]; omega
    · obtain rfl : m = k := by omega
      have HFF := Lib.hid (show F = dstErr u m from hF.out)
      clear hF
      go_wp2
      go_ret
      exact ⟨ret_int HFF.out, HBw.out⟩
set_option maxHeartbeats 1000000 in
set_option maxRecDepth 100000 in
theorem rdistributionErr_any (u : List (Int × Int)) (a : Option Addr) (m c : Nat) (w : World) (hu : PairsR w a m u) (hm : m ≤ 9)
    (hub : ∀ i, i < m → -9223372036854775808 ≤ (gp u i).1 ∧ (gp u i).1 ≤ 9223372036854775807 ∧ (gp u i).2 ≤ 9223372036854775807) :
    Calls Try.prog 40 #[.slice a m c] w fun e' w' => e' = .returned (.int .i64 (dstErr u m)) ∧ Below w.heap.size w w' := by
  have HFE := Lib.hid (fun (i : Nat) (hi : i < m) (w' : World) => rfracErr_all (gp u i).1 (gp u i).2 w' (hub i hi).1 (hub i hi).2.1 (hub i hi).2.2)
  have HU := Lib.hid (fun (h0 : 0 < m) => hu.addr h0)
  clear hu hub
  go_enter Try.func40, Try.ntmps40
  rcases Nat.lt_or_ge m 2 with h1 | h1
  · have he := Lib.hid (dst_short (u := u) h1)
    have h2 : (m : Int) < 2 := by omega
    go_wp2
    go_ret
    exact ⟨ret_int he.out.symm, Below.refl _ _⟩
  rcases Nat.lt_or_ge 7 m with h2 | h2
  · have he := Lib.hid (dst_long (u := u) h2)
    have h3 : ¬ (m : Int) < 2 := by omega
    have h4 : 7 < (m : Int) := by omega
    go_wp2
    go_ret
    exact ⟨ret_int he.out.symm, Below.refl _ _⟩
  have h3 : ¬ (m : Int) < 2 := by omega
  have h4 : ¬ 7 < (m : Int) := by omega
  have HE0 := Lib.hid (dst_start (u := u) h1 h2)
  go_wp2
  go_loopw [3] (fun i wr => ∃ (k : Nat), i = .int .i64 k ∧ k ≤ m ∧ Hid (duE u m k = 0) ∧ Hid (Below w.heap.size w wr)) (fun i _ => m - (intOf i).toNat)
  case atStart => exact ⟨0, rfl, Nat.zero_le _, HE0, Lib.hid (Below.refl _ _)⟩
  case round =>
    obtain ⟨k, rfl, hk, hF, HBw⟩ := hrel
    have hzr := HBw.out.size
    rcases Nat.lt_or_ge k m with hlt | hge
    · obtain ⟨b, o, rfl, hb, hcu⟩ := HU.out (by omega)
      obtain ⟨P, hP⟩ : ∃ P, P = (gp u k).1 := ⟨_, rfl⟩
      obtain ⟨Q, hQ⟩ : ∃ P, P = (gp u k).2 := ⟨_, rfl⟩
      have cP : wr.cell? ⟨b, o + k * 2, none⟩ = some (.int .i64 P) := by rw [cellB HBw.out _ _ hb, hP]; exact (hcu k hlt).1
      have cQ : wr.cell? ⟨b, o + k * 2 + 1, none⟩ = some (.int .i64 Q) := by rw [cellB HBw.out _ _ hb, hQ]; exact (hcu k hlt).2
      have hfe := HFE.out k hlt
      rw [← hP, ← hQ] at hfe
      obtain ⟨F, hFq⟩ : ∃ F, F = frE P Q := ⟨_, rfl⟩
      rw [← hFq] at hfe
      have HFK := Lib.hid hfe
      have HFF := Lib.hid (show duE u m (k + 1) = F by rw [duE_zero hF.out, hFq, hP, hQ])
      have i0 : (0 : Int) ≤ (k : Int) := by omega
      have i1 : (k : Int) < (m : Int) := by omega
      clear hP hQ hfe hcu hF hFq
      by_cases hF0 : F = 0
      · subst hF0
        go_wp2_with fail
        refine (HFK.out _).mono ?_
        rintro e8 w8 ⟨rfl, hb8⟩
        have HB8 := Lib.hid (HBw.out.trans (hb8.mono hzr))
        clear hb8
        go_wp2
        go_roundw
        case rel => exact ⟨k + 1, by go_num, by omega, HFF, HB8⟩
        case measure => simp [intOf]; omega
      · have hF1 : (F != 0) = true := by simpa using hF0
        have HF0 := Lib.hid (show dstErr u m = F by
          unfold dstErr; rw [duE_at (k := k + 1) (by rw [HFF.out]; exact hF0) hlt, HFF.out])
        clear hF0
        go_wp2_with fail
        refine (HFK.out _).mono ?_
        rintro e8 w8 ⟨rfl, hb8⟩
        have HB8 := Lib.hid (HBw.out.trans (hb8.mono hzr))
        clear hb8
        go_wp2
        go_ret
        exact ⟨ret_int HF0.out.symm, HB8.out⟩
    · obtain rfl : m = k := by omega
      have HFF := Lib.hid (show dstErr u m = 0 from hF.out)
      clear hF
      go_wp2
      go_ret
      exact ⟨ret_int HFF.out.symm, HBw.out⟩
end Go.Proofs.Ytbjgklifmillgaa

/- surge.RankPaths. -/
namespace Go.Proofs.Ytbjgklifmillgaa
open Go.RowKit
set_option linter.unusedVariables false

/-- The rank of a path. -/
def stOf (v : Int) (u : List (Int × Int)) (p : PathV) : Rat := stq v (gp u p.fr.toNat) (gp u p.to.toNat) p.ln
def rkOf (v : Int) (u : List (Int × Int)) (p : PathV) : RankV := ⟨p.nm, stOf v u p, decide ((stOf v u p).num ≤ p.lm * ((stOf v u p).den : Int))⟩
def rkE1 (v : Int) (u : List (Int × Int)) (m n : Nat) : Int := firstErr [unl (wi v 1 1000000) 2, dstErr u m, unl (decide ((n : Int) ≤ 12)) 8]
theorem first_three (a b c : Int) : firstErr [a, b, c] = if a ≠ 0 then a else if b ≠ 0 then b else c := by
  by_cases ha : a = 0
  · by_cases hb : b = 0
    · by_cases hc : c = 0
      · simp [firstErr, ha, hb, hc]
      · simp [firstErr, ha, hb]
        intro h; exact absurd h hc
    · simp [firstErr, ha, hb]
  · simp [firstErr, ha]
theorem rkE1_ok {v : Int} {u : List (Int × Int)} {m n : Nat} (h : rkE1 v u m n = 0) : (1 ≤ v ∧ v ≤ 1000000) ∧ dstErr u m = 0 ∧ n ≤ 12 := by
  unfold rkE1 at h
  rw [first_three] at h
  by_cases h1 : wi v 1 1000000 = true
  · rw [h1] at h
    simp only [unl] at h
    by_cases h2 : dstErr u m = 0
    · by_cases h3 : (n : Int) ≤ 12
      · exact ⟨wi_iff.1 h1, h2, by omega⟩
      · simp [h2, h3] at h
    · simp [h2] at h
  · have h1' : wi v 1 1000000 = false := by simpa using h1
    rw [h1'] at h
    simp [unl] at h
theorem pth_ok {p : PathV} {l : List PathV} {m : Int} (h : pthErr p l m = 0) : nameOk p.nm = true ∧ l.any (fun x : PathV => x.nm.toList == p.nm.toList) = false ∧ (0 ≤ p.fr ∧ p.fr ≤ m - 1) ∧ (0 ≤ p.to ∧ p.to ≤ m - 1) ∧ p.fr ≠ p.to ∧ (1 ≤ p.ln ∧ p.ln ≤ 10000) ∧ (0 ≤ p.lm ∧ p.lm ≤ 1000000) := by
  unfold pthErr at h
  rw [first_five] at h
  cases h1 : nameOk p.nm
  · rw [h1] at h; simp [unl] at h
  · cases h2 : l.any (fun x : PathV => x.nm.toList == p.nm.toList)
    · cases h3 : (wi p.fr 0 (m - 1) && wi p.to 0 (m - 1))
      · rw [h1, h2, h3] at h; simp [unl] at h
      · by_cases h4 : p.fr = p.to
        · rw [h1, h2, h3, h4] at h; simp [unl] at h
        · cases h5 : (wi p.ln 1 10000 && wi p.lm 0 1000000)
          · have : (p.fr != p.to) = true := by simpa using h4
            rw [h1, h2, h3, h5, this] at h; simp [unl] at h
          · simp only [Bool.and_eq_true, wi_iff] at h3 h5
            exact ⟨rfl, rfl, h3.1, h3.2, h4, h5.1, h5.2⟩
    · rw [h1, h2] at h; simp [unl] at h
theorem infoRank : (Try.prog.info? 110).map (fun i => (i.zero, i.size, i.bytes)) = some (some (.agg #[.string ByteArray.empty, .int .i64 0, .int .i64 0, .bool false]), 4, 40) := by kernel_rfl
set_option maxHeartbeats 4000000 in
set_option maxRecDepth 100000 in
theorem rankPaths_any (v : Int) (u : List (Int × Int)) (l : List PathV) (a a2 : Option Addr) (m c n c2 : Nat) (w : World) (hu : PairsR w a m u) (hl : PathsR w a2 n l) (hm : m ≤ 9) (hn : n ≤ 14) (hnc : n ≤ c2)
    (hub : ∀ i, i < m → -9223372036854775808 ≤ (gp u i).1 ∧ (gp u i).1 ≤ 9223372036854775807 ∧ (gp u i).2 ≤ 9223372036854775807) (hs : ∀ p ∈ l, p.nm.size ≤ maxLen) :
    Calls Try.prog 41 #[.int .i64 v, .slice a m c, .slice a2 n c2] w fun e' w' => Below w.heap.size w w' ∧
      ((rkE1 v u m n ≠ 0 ∧ e' = .returned (.tuple #[.slice none 0 0, .int .i64 (rkE1 v u m n)])) ∨
       (rkE1 v u m n = 0 ∧ pthsErr l m ≠ 0 ∧ e' = .returned (.tuple #[.slice none 0 0, .int .i64 (pthsErr l m)])) ∨
       (rkE1 v u m n = 0 ∧ pthsErr l m = 0 ∧ (∃ p ∈ l, smallQ (stOf v u p) = false) ∧ e' = .returned (.tuple #[.slice none 0 0, .int .i64 8])) ∨
       (rkE1 v u m n = 0 ∧ pthsErr l m = 0 ∧ (∀ p ∈ l, smallQ (stOf v u p) = true) ∧ ∃ a3 c3, ∃ S : List RkS, e' = .returned (.tuple #[.slice a3 n c3, .int .i64 0]) ∧ ER sEnc 4 w' a3 n S ∧ (S.map Subtype.val).Perm (l.map (rkOf v u)) ∧
          ∀ (i j : Nat) (x y : RkS), i < j → S[i]? = some x → S[j]? = some y → rkL y.1 x.1 = false)) := by
  have HDE := Lib.hid (fun (w' : World) (hb : Below w.heap.size w w') => distributionErr_any u a m c w' (hu.below hb) hm hub)
  have HPE := Lib.hid (fun (k : Nat) (hk : k < n) (p : PathV) (hp : l[k]? = some p) (w' : World) (hb : Below w.heap.size w w') => pathErr_any p.nm p.fr p.to p.ln p.lm (m : Int) (l.take k) a2 k c2 w' (ER_take pEnc_len (hl.below hb) (by omega)) (hs p (List.mem_of_getElem? hp)) (by omega) (by omega))
  have HU := Lib.hid hu
  have HL := Lib.hid hl
  have HLN := Lib.hid (ER.len hl)
  clear hu hl hs hub
  go_enter Try.func41, Try.ntmps41
  go_wp2_with fail
  refine (within_any _ _ _ _).mono ?_
  rintro e1 w1 ⟨rfl, rfl⟩
  go_wp2_with fail
  refine (unless_any _ _ _).mono ?_
  rintro e2 w2 ⟨rfl, rfl⟩
  go_wp2_with fail
  refine (HDE.out _ (by (repeat' (first | (with_reducible exact Below.refl _ _) | (with_reducible assumption) | (with_reducible refine Below.drewN ?_ _) | (with_reducible refine Below.alloc ?_ ?_ _) | (with_reducible refine Below.drew ?_) | (with_reducible refine Below.setCell ?_ ?_ _) | (with_reducible refine Below.step (by assumption) ?_ ?_) | (with_reducible exact And.left (by assumption)) | go_size)))).mono ?_
  rintro e3 w3 ⟨rfl, hb3⟩
  have HB3 := Lib.hid hb3
  clear hb3
  go_wp2_with fail
  refine (unless_any _ _ _).mono ?_
  rintro e4 w4 ⟨rfl, rfl⟩
  go_wp2_with fail
  refine (first3 _ _ _ _ _ _ _ (by rfl) (by simp)).mono ?_
  rintro e5 w5 ⟨rfl, hw5⟩
  have HB5 := Lib.hid (HB3.out.trans ((show Below w3.heap.size w3 w5 by rw [← hw5]; (repeat' (first | (with_reducible exact Below.refl _ _) | (with_reducible assumption) | (with_reducible refine Below.drewN ?_ _) | (with_reducible refine Below.alloc ?_ ?_ _) | (with_reducible refine Below.drew ?_) | (with_reducible refine Below.setCell ?_ ?_ _) | (with_reducible refine Below.step (by assumption) ?_ ?_) | (with_reducible exact And.left (by assumption)) | go_size))).mono HB3.out.size))
  clear hw5
  rw [show firstErr [unl (wi v 1 1000000) 2, dstErr u m, unl (decide ((n : Int) ≤ 12)) 8] = rkE1 v u m n from rfl]
  have HRK := Lib.hid (fun (h : rkE1 v u m n = 0) => rkE1_ok h)
  obtain ⟨E1, hE1⟩ : ∃ E, E = rkE1 v u m n := ⟨_, rfl⟩
  rw [← hE1] at HRK ⊢
  have HEQ := Lib.hid hE1
  clear hE1
  by_cases hE : E1 = 0
  rotate_left
  · have hE1 : (E1 != 0) = true := by simpa using hE
    have HE := Lib.hid hE
    clear hE
    go_wp2
    go_ret2
    exact ⟨HB5.out, .inl ⟨by rw [← HEQ.out]; exact HE.out, by rw [← HEQ.out]; rfl⟩⟩
  · subst hE
    obtain ⟨hv, hdst, h12⟩ := HRK.out rfl
    clear HRK HDE
    have HDS := Lib.hid (dst_ok hdst)
    have HF0 := Lib.hid (show pthsErr l m = pthsFrom l m 0 (n - 0) by rw [pths_short (by rw [HLN.out]; omega), HLN.out]; rfl)
    clear hdst
    go_wp2
    go_loopw [33] (fun i wr => ∃ k : Nat, i = .int .i64 k ∧ k ≤ n ∧ Hid (pthsErr l m = pthsFrom l m k (n - k)) ∧ Hid (∀ i p, i < k → l[i]? = some p → pthErr p (l.take i) m = 0) ∧ Hid (Below w5.heap.size w5 wr)) (fun i _ => n - (intOf i).toNat)
    case atStart => exact ⟨0, rfl, Nat.zero_le _, HF0, Lib.hid (fun i p hi _ => by omega), Lib.hid (Below.refl _ _)⟩
    case round =>
      obtain ⟨k, rfl, hk, hF, hOK, hBr⟩ := hrel
      obtain ⟨w6, rfl⟩ : ∃ w', w' = wr := ⟨wr, rfl⟩
      have HB6 := Lib.hid (HB5.out.trans (hBr.out.mono HB5.out.size))
      have hz6 := HB6.out.size
      rcases Nat.lt_or_ge k n with hlt | hge
      · obtain ⟨b, o, rfl, hb, hcu⟩ := PathsR.addr HL.out (by omega)
        obtain ⟨⟨s, f, t, len, lim⟩, hx⟩ := ER.get HL.out hlt
        obtain ⟨q0, q1, q2, q3, q4⟩ := hcu k _ hx
        rw [← cellB HB6.out _ _ hb] at q0 q1 q2 q3 q4
        have HV := Lib.hid (fun (h0 : pthErr ⟨s, f, t, len, lim⟩ (l.take k) m ≠ 0) => show pthsErr l m = pthErr ⟨s, f, t, len, lim⟩ (l.take k) m by
          rw [hF.out, show n - k = (n - (k + 1)) + 1 by omega, pthsFrom_stop hx h0])
        have HVZ := Lib.hid (fun (h : pthErr ⟨s, f, t, len, lim⟩ (l.take k) m = 0) => show pthsErr l m = pthsFrom l m (k + 1) (n - (k + 1)) by
          rw [hF.out, show n - k = (n - (k + 1)) + 1 by omega, pthsFrom_step hx h])
        have HOK1 := Lib.hid (fun (h : pthErr ⟨s, f, t, len, lim⟩ (l.take k) m = 0) => show ∀ i p, i < k + 1 → l[i]? = some p → pthErr p (l.take i) m = 0 from fun i p hi hp => by
          rcases Nat.lt_or_ge i k with h2 | h2
          · exact hOK.out i p h2 hp
          · obtain rfl : i = k := by omega
            rw [hx] at hp; obtain rfl := Option.some.inj hp; exact h)
        have HPK := Lib.hid (fun w' hb => HPE.out k hlt _ hx w' hb)
        have i0 : (0 : Int) ≤ (k : Int) := by omega
        have i1 : (k : Int) < (n : Int) := by omega
        have i2 : k ≤ c2 := by omega
        have i3 : (k : Int) ≤ (c2 : Int) := by omega
        clear hcu hx hF hOK
        go_wp2_with fail
        generalize hW : World.alloc _ _ = w7 at *
        have hb7 : Below w6.heap.size w6 w7 := by rw [← hW]; (repeat' (first | (with_reducible exact Below.refl _ _) | (with_reducible assumption) | (with_reducible refine Below.drewN ?_ _) | (with_reducible refine Below.alloc ?_ ?_ _) | (with_reducible refine Below.drew ?_) | (with_reducible refine Below.setCell ?_ ?_ _) | (with_reducible refine Below.step (by assumption) ?_ ?_) | (with_reducible exact And.left (by assumption)) | go_size))
        have x0 : w7.cell? ⟨w6.heap.size, 0, none⟩ = some (.string s) := by { rw [← hW]; clear hW; go_simp }
        have x1 : w7.cell? ⟨w6.heap.size, 1, none⟩ = some (.int .i64 f) := by { rw [← hW]; clear hW; go_simp }
        have x2 : w7.cell? ⟨w6.heap.size, 2, none⟩ = some (.int .i64 t) := by { rw [← hW]; clear hW; go_simp }
        have x3 : w7.cell? ⟨w6.heap.size, 3, none⟩ = some (.int .i64 len) := by { rw [← hW]; clear hW; go_simp }
        have x4 : w7.cell? ⟨w6.heap.size, 4, none⟩ = some (.int .i64 lim) := by { rw [← hW]; clear hW; go_simp }
        have lx : w6.heap.size < w7.heap.size := by rw [← hW]; simp
        have HB7 := Lib.hid (HB6.out.trans (hb7.mono hz6))
        have HBr7 := Lib.hid (hBr.out.trans (hb7.mono hBr.out.size))
        clear hW hb7 q0 q1 q2 q3 q4
        generalize w6.heap.size = X at *
        obtain ⟨F, hF⟩ : ∃ F, F = pthErr ⟨s, f, t, len, lim⟩ (l.take k) (m : Int) := ⟨_, rfl⟩
        rw [← hF] at HPK HV HVZ HOK1
        clear hF
        refine later_all (by kernel_rfl) (by kernel_rfl) ?_; repeat go_big_quiet_step(exact calls_later (HPK.out _ (HB7.out.trans (Below.mono (Later.below _) HB7.out.size))))
        refine wpQuiet_nil ?_; intro w8 hb8
        have HB8 := Lib.hid (HB7.out.trans (hb8.mono HB7.out.size))
        have HBr8 := Lib.hid (HBr7.out.trans (hb8.mono HBr7.out.size))
        clear hb8 x0 x1 x2 x3 x4 HPK
        by_cases hF0 : F = 0
        · subst hF0
          have HZ := Lib.hid (HVZ.out rfl)
          have HO := Lib.hid (HOK1.out rfl)
          clear HVZ HOK1 HV
          go_wp2
          go_roundw
          case rel => exact ⟨k + 1, by go_num, by omega, HZ, HO, HBr8⟩
          case measure => simp [intOf]; omega
        · have hF1 : (F != 0) = true := by simpa using hF0
          have HF := Lib.hid (HV.out hF0)
          have HF0 := Lib.hid hF0
          clear hF0 HV HVZ HOK1
          go_wp2
          go_ret2
          exact ⟨HB8.out, .inr (.inl ⟨HEQ.out.symm, by rw [HF.out]; exact HF0.out, by rw [HF.out]; rfl⟩)⟩
      · obtain rfl : n = k := by omega
        have HP0 := Lib.hid (show pthsErr l m = 0 by rw [hF.out, Nat.sub_self]; rfl)
        have HOK := Lib.hid hOK.out
        clear hF hOK hBr HF0
        have HPO := Lib.hid (fun (i : Nat) (p : PathV) (hi : i < n) (hp : l[i]? = some p) => pth_ok (HOK.out i p hi hp))
        clear HOK
        go_wp2
        go_loopw [51, 12] (fun i x wr => ∃ (k : Nat) (av : Option Addr) (cv : Nat), i = .int .i64 k ∧ x = .slice av k cv ∧ k ≤ n ∧ Hid (wr.ownsRow w6.heap.size 110 4 (.slice av k cv) k (ecells rEnc ((l.take k).map (rkOf v u)))) ∧ Hid (∀ i p, i < k → l[i]? = some p → smallQ (stOf v u p) = true) ∧ Hid (Below w6.heap.size w6 wr)) (fun i _ _ => n - (intOf i).toNat)
        case atStart => exact ⟨0, none, 0, rfl, rfl, Nat.zero_le _, Lib.hid (World.ownsRow_nil _ _ _ _), Lib.hid (fun i p hi _ => by omega), Lib.hid (Below.refl _ _)⟩
        case round =>
          obtain ⟨k, av, cv, rfl, rfl, hk, hO, hS, hBr⟩ := hrel
          obtain ⟨w9, rfl⟩ : ∃ w', w' = wr := ⟨wr, rfl⟩
          have HO9 := Lib.hid hO.out
          have HS9 := Lib.hid hS.out
          have HBr9 := Lib.hid hBr.out
          have HB9 := Lib.hid (HB6.out.trans (hBr.out.mono hz6))
          have hz9 := HBr9.out.size
          clear hO hS hBr
          rcases Nat.lt_or_ge k n with hlt | hge
          · obtain ⟨b, o, rfl, hb, hcu⟩ := PathsR.addr HL.out (by omega)
            obtain ⟨bu, ou, rfl, lbu, hcv⟩ := HU.out.addr (by have := HDS.out.1; omega)
            obtain ⟨⟨s, f, t, len, lim⟩, hx⟩ := ER.get HL.out hlt
            obtain ⟨q0, q1, q2, q3, q4⟩ := hcu k _ hx
            rw [← cellB HB9.out _ _ hb] at q0 q1 q2 q3 q4
            obtain ⟨_, _, ⟨f0, f1⟩, ⟨t0, t1⟩, _, ⟨g0, g1⟩, ⟨i0, i1⟩⟩ := HPO.out k _ hlt hx
            simp only at f0 f1 t0 t1 g0 g1 i0 i1
            obtain ⟨fn, rfl⟩ : ∃ z : Nat, f = (z : Int) := ⟨f.toNat, by omega⟩
            obtain ⟨tn, rfl⟩ : ∃ z : Nat, t = (z : Int) := ⟨t.toNat, by omega⟩
            obtain ⟨Ln, rfl⟩ : ∃ z : Nat, len = (z : Int) := ⟨len.toNat, by omega⟩
            obtain ⟨V, hV⟩ : ∃ z : Nat, v = (z : Int) := ⟨v.toNat, by omega⟩
            have fo1 := frE_ok (HDS.out.2.2 fn (by omega))
            have fo2 := frE_ok (HDS.out.2.2 tn (by omega))
            have cu0 := (hcv fn (by omega)).1
            have cu1 := (hcv fn (by omega)).2
            have cv0 := (hcv tn (by omega)).1
            have cv1 := (hcv tn (by omega)).2
            rw [← cellB HB9.out _ _ lbu] at cu0 cu1 cv0 cv1
            have hqe : stOf v u ⟨s, fn, tn, Ln, lim⟩ = stq v (gp u fn) (gp u tn) (Ln : Int) := by unfold stOf; simp
            have hrk : rkOf v u ⟨s, fn, tn, Ln, lim⟩ = ⟨s, stq v (gp u fn) (gp u tn) (Ln : Int), decide ((stq v (gp u fn) (gp u tn) (Ln : Int)).num ≤ lim * ((stq v (gp u fn) (gp u tn) (Ln : Int)).den : Int))⟩ := by unfold rkOf; rw [hqe]
            obtain ⟨sx, sy, hsm, hst⟩ := stress_any (gp u fn) (gp u tn) V Ln fo1 fo2 (by omega) (by omega) (by omega) (by omega)
            rw [← hV] at hst hsm
            change _ = some (Value.int .i64 (gp u fn).1) at cu0
            change _ = some (Value.int .i64 (gp u fn).2) at cu1
            change _ = some (Value.int .i64 (gp u tn).1) at cv0
            change _ = some (Value.int .i64 (gp u tn).2) at cv1
            generalize stq v (gp u fn) (gp u tn) (Ln : Int) = q at *
            generalize gp u fn = A at *
            generalize gp u tn = B at *
            obtain ⟨a1, a2⟩ := A
            obtain ⟨b1, b2⟩ := B
            simp only at cu0 cu1 cv0 cv1 hst
            have HST := Lib.hid hst
            have HSM := Lib.hid hsm
            have HQE := Lib.hid hqe
            have HRK := Lib.hid hrk
            have HX := Lib.hid hx
            have k0 : (0 : Int) ≤ (k : Int) := by omega
            have k1 : (k : Int) < (n : Int) := by omega
            have fn1 : (fn : Int) < (m : Int) := by omega
            have tn1 : (tn : Int) < (m : Int) := by omega
            clear hcu hcv hqe hrk hst hsm hx hV fo1 fo2
            go_wp2_with fail
            generalize hW : World.alloc _ _ = w7 at *
            have hb7 : Below w9.heap.size w9 w7 := by rw [← hW]; (repeat' (first | (with_reducible exact Below.refl _ _) | (with_reducible assumption) | (with_reducible refine Below.drewN ?_ _) | (with_reducible refine Below.alloc ?_ ?_ _) | (with_reducible refine Below.drew ?_) | (with_reducible refine Below.setCell ?_ ?_ _) | (with_reducible refine Below.step (by assumption) ?_ ?_) | (with_reducible exact And.left (by assumption)) | go_size))
            have hz7 := hb7.size
            have x0 : w7.cell? ⟨w9.heap.size, 0, none⟩ = some (.string s) := by { rw [← hW]; clear hW; go_simp }
            have x1 : w7.cell? ⟨w9.heap.size, 1, none⟩ = some (.int .i64 fn) := by { rw [← hW]; clear hW; go_simp }
            have x2 : w7.cell? ⟨w9.heap.size, 2, none⟩ = some (.int .i64 tn) := by { rw [← hW]; clear hW; go_simp }
            have x3 : w7.cell? ⟨w9.heap.size, 3, none⟩ = some (.int .i64 Ln) := by { rw [← hW]; clear hW; go_simp }
            have x4 : w7.cell? ⟨w9.heap.size, 4, none⟩ = some (.int .i64 lim) := by { rw [← hW]; clear hW; go_simp }
            have lx : w9.heap.size < w7.heap.size := by rw [← hW]; simp
            have lu9 : bu < w9.heap.size := by omega
            have cu0' : w7.cell? ⟨bu, ou + fn * 2, none⟩ = some (.int .i64 a1) := by { rw [cellB hb7 _ _ (by first | (simp; done) | (simp; omega) | omega)]; all_goals (first | assumption | go_simp) }; have cu1' : w7.cell? ⟨bu, ou + fn * 2 + 1, none⟩ = some (.int .i64 a2) := by { rw [cellB hb7 _ _ (by first | (simp; done) | (simp; omega) | omega)]; all_goals (first | assumption | go_simp) }; have cv0' : w7.cell? ⟨bu, ou + tn * 2, none⟩ = some (.int .i64 b1) := by { rw [cellB hb7 _ _ (by first | (simp; done) | (simp; omega) | omega)]; all_goals (first | assumption | go_simp) }; have cv1' : w7.cell? ⟨bu, ou + tn * 2 + 1, none⟩ = some (.int .i64 b2) := by { rw [cellB hb7 _ _ (by first | (simp; done) | (simp; omega) | omega)]; all_goals (first | assumption | go_simp) }; have lu7 : bu < w7.heap.size := by { omega }
            have HO7 := Lib.hid (owns_below HO9.out hb7 (fun q hq => (HO9.out.lt q hq).2))
            have HBr7 := Lib.hid (HBr9.out.trans (hb7.mono hz9))
            clear hW hb7 q0 q1 q2 q3 q4 cu0 cu1 cv0 cv1 HO9 HBr9 HB9
            generalize w9.heap.size = X at *
            obtain ⟨ok, hok⟩ : ∃ x, x = smallQ q := ⟨_, rfl⟩
            rw [← hok] at HST HSM
            have HOKQ := Lib.hid hok
            clear hok
            go_cut [15, 16] from 55 to 71 (fun v15 v16 wx => ∃ Y : Nat, v15 = .pointer (some ⟨Y, 0, none⟩) ∧ v16 = .bool ok ∧ wx.cell? ⟨Y, 0, none⟩ = some (.int .i64 sx) ∧ wx.cell? ⟨Y, 1, none⟩ = some (.int .i64 sy) ∧ Y < wx.heap.size ∧ Hid (Below w7.heap.size w7 wx))
            case first =>
              have HN := Lib.hid (Below.refl w7.heap.size w7).drew
              refine wp_region_laterT (B := w7.heap.size) (.head 0 (.head 1 (.head 2 (.head 3 (.head 4 (.head 5 (.head 6 (.head 7 (.head 8 (.head 9 (.head 10 (.head 11 (.head 12 (.two 13 (.head 14 (.head 15 (.head 16 (.one 17 (.one 18 (.head 19 .done)))))) 17 (.one 13 (.head 14 (.head 15 (.head 16 (.one 18 (.head 19 .done)))))))))))))))))))) (by kernel_rfl) (by kernel_rfl) ?_
              repeat (refine tree_head rfl ?_; (show wpQuiet _ _ _ _ (_ :: _) _; go_big_quiet_step (fail)); refine wpQuiet_nil ?_)
              refine tree_two rfl rfl ?_ ?_
              · go_wp2_with fail
                refine (HST.out _).mono ?_
                rintro ex wx1 ⟨rfl, hbx⟩
                have hzx := hbx.size
                have HN := Lib.hid (HN.out.trans (hbx.mono HN.out.size))
                clear hbx
                go_wp2_with fail
                refine tailL_mk HN.out ?_
                repeat (refine tree_head rfl ?_; (show wpQuiet _ _ _ _ (_ :: _) _; go_big_quiet_step (fail)); refine wpQuiet_nil ?_)
                refine tree_one rfl ?_
                go_wp2_with fail
                obtain ⟨X9, hX9⟩ : ∃ X, X = wx1.heap.size := ⟨_, rfl⟩
                have hNX : w7.heap.size ≤ X9 := by rw [hX9]; exact HN.out.size
                have hx9 : (wx1.alloc (Obj.cells #[.int .i64 0, .int .i64 0] 39)).heap[X9]? = some (.cells #[.int .i64 0, .int .i64 0] 39) := by rw [hX9]; exact heap_alloc_new _ _
                have l9 : X9 < (wx1.alloc (Obj.cells #[.int .i64 0, .int .i64 0] 39)).heap.size := by rw [hX9]; simp
                have hs9 : (wx1.alloc (Obj.cells #[.int .i64 0, .int .i64 0] 39)).heap.size = wx1.heap.size + 1 := by simp
                have hbx : Below wx1.heap.size wx1 (wx1.alloc (Obj.cells #[.int .i64 0, .int .i64 0] 39)) := by (repeat' (first | (with_reducible exact Below.refl _ _) | (with_reducible assumption) | (with_reducible refine Below.drewN ?_ _) | (with_reducible refine Below.alloc ?_ ?_ _) | (with_reducible refine Below.drew ?_) | (with_reducible refine Below.setCell ?_ ?_ _) | (with_reducible refine Below.step (by assumption) ?_ ?_) | (with_reducible exact And.left (by assumption)) | go_size))
                try simp only [← hX9]
                generalize (wx1.alloc (Obj.cells #[.int .i64 0, .int .i64 0] 39)) = wx2 at *
                have HX9 := Lib.hid (And.intro hX9 hs9)
                have HN := Lib.hid (HN.out.trans (hbx.mono HN.out.size))
                clear hbx hX9 hs9
                refine tailL_mk HN.out ?_
                repeat (refine tree_head rfl ?_; (show wpQuiet _ _ _ _ (_ :: _) _; go_big_quiet_step (fail)); refine wpQuiet_nil ?_)
                refine tree_one rfl ?_
                have c90 := cell_of_row _ _ 0 _ _ _ hx9
                have f90 := frozen_of_row _ _ 0 _ _ hx9
                have c91 := cell_of_row _ _ 1 _ _ _ hx9
                have f91 := frozen_of_row _ _ 1 _ _ hx9
                simp only [List.getElem?_toArray, List.getElem?_cons_zero, List.getElem?_cons_succ] at c90 c91
                go_wp2_with fail
                have HN := Lib.hid (show Below w7.heap.size w7 ((wx2.setCell ⟨X9, 0, none⟩ (.int .i64 sx)).setCell ⟨X9, 1, none⟩ (.int .i64 sy)) from Below.setCell (Below.setCell (HN.out) hNX _) hNX _)
                have hxo := hx9
                have hx9 : ((wx2.setCell ⟨X9, 0, none⟩ (.int .i64 sx)).setCell ⟨X9, 1, none⟩ (.int .i64 sy)).heap[X9]? = some (.cells #[.int .i64 sx, .int .i64 sy] 39) := blk_set (blk_set (hx9) 0 (.int .i64 sx)) 1 (.int .i64 sy)
                refine tailL_mk HN.out ?_
                repeat (refine tree_head rfl ?_; (show wpQuiet _ _ _ _ (_ :: _) _; go_big_quiet_step (fail)); refine wpQuiet_nil ?_)
                refine tree_done ?_
                go_wp2_with fail
                go_meet
                case rel => exact ⟨X9, rfl, rfl, by go_simp, by go_simp, by simpa using l9, HN⟩
              · go_wp2_with fail
                obtain ⟨X9, hX9⟩ : ∃ X, X = w7.heap.size := ⟨_, rfl⟩
                have hNX : w7.heap.size ≤ X9 := by rw [hX9]; exact HN.out.size
                have hx9 : (w7.alloc (Obj.cells #[.int .i64 0, .int .i64 0] 39)).drew.heap[X9]? = some (.cells #[.int .i64 0, .int .i64 0] 39) := by rw [hX9]; exact heap_alloc_new _ _
                have l9 : X9 < (w7.alloc (Obj.cells #[.int .i64 0, .int .i64 0] 39)).drew.heap.size := by rw [hX9]; simp
                have hs9 : (w7.alloc (Obj.cells #[.int .i64 0, .int .i64 0] 39)).drew.heap.size = w7.heap.size + 1 := by simp
                have hbx : Below w7.heap.size w7 (w7.alloc (Obj.cells #[.int .i64 0, .int .i64 0] 39)).drew := by (repeat' (first | (with_reducible exact Below.refl _ _) | (with_reducible assumption) | (with_reducible refine Below.drewN ?_ _) | (with_reducible refine Below.alloc ?_ ?_ _) | (with_reducible refine Below.drew ?_) | (with_reducible refine Below.setCell ?_ ?_ _) | (with_reducible refine Below.step (by assumption) ?_ ?_) | (with_reducible exact And.left (by assumption)) | go_size))
                try simp only [← hX9]
                generalize (w7.alloc (Obj.cells #[.int .i64 0, .int .i64 0] 39)).drew = wx4 at *
                have HX9 := Lib.hid (And.intro hX9 hs9)
                have HN := Lib.hid hbx
                clear hbx hX9 hs9
                refine tailL_mk HN.out ?_
                repeat (refine tree_head rfl ?_; (show wpQuiet _ _ _ _ (_ :: _) _; go_big_quiet_step (fail)); refine wpQuiet_nil ?_)
                refine tree_one rfl ?_
                go_wp2_with fail
                refine (HST.out _).mono ?_
                rintro ex wx5 ⟨rfl, hbx⟩
                have hzx := hbx.size
                have HN := Lib.hid (HN.out.trans (hbx.mono HN.out.size))
                have hx9 := (hbx.block X9 l9).trans hx9
                have l9 := Nat.lt_of_lt_of_le l9 hbx.size
                clear hbx
                go_wp2_with fail
                refine tailL_mk HN.out ?_
                repeat (refine tree_head rfl ?_; (show wpQuiet _ _ _ _ (_ :: _) _; go_big_quiet_step (fail)); refine wpQuiet_nil ?_)
                refine tree_one rfl ?_
                have c90 := cell_of_row _ _ 0 _ _ _ hx9
                have f90 := frozen_of_row _ _ 0 _ _ hx9
                have c91 := cell_of_row _ _ 1 _ _ _ hx9
                have f91 := frozen_of_row _ _ 1 _ _ hx9
                simp only [List.getElem?_toArray, List.getElem?_cons_zero, List.getElem?_cons_succ] at c90 c91
                go_wp2_with fail
                have HN := Lib.hid (show Below w7.heap.size w7 ((wx5.setCell ⟨X9, 0, none⟩ (.int .i64 sx)).setCell ⟨X9, 1, none⟩ (.int .i64 sy)) from Below.setCell (Below.setCell (HN.out) hNX _) hNX _)
                have hxo := hx9
                have hx9 : ((wx5.setCell ⟨X9, 0, none⟩ (.int .i64 sx)).setCell ⟨X9, 1, none⟩ (.int .i64 sy)).heap[X9]? = some (.cells #[.int .i64 sx, .int .i64 sy] 39) := blk_set (blk_set (hx9) 0 (.int .i64 sx)) 1 (.int .i64 sy)
                refine tailL_mk HN.out ?_
                repeat (refine tree_head rfl ?_; (show wpQuiet _ _ _ _ (_ :: _) _; go_big_quiet_step (fail)); refine wpQuiet_nil ?_)
                refine tree_done ?_
                go_wp2_with fail
                go_meet
                case rel => exact ⟨X9, rfl, rfl, by go_simp, by go_simp, by simpa using l9, HN⟩
            case rest =>
              obtain ⟨wa, rfl⟩ : ∃ w', w' = wc := ⟨wc, rfl⟩
              obtain ⟨Y, rfl, rfl, y0, y1, lY, hN⟩ := hcut
              have hba := hN.out
              have hza := hba.size
              have x0a : wa.cell? ⟨X, 0, none⟩ = some (.string s) := by { rw [cellB hba _ _ (by first | (simp; done) | (simp; omega) | omega)]; all_goals (first | assumption | go_simp) }; have x1a : wa.cell? ⟨X, 1, none⟩ = some (.int .i64 fn) := by { rw [cellB hba _ _ (by first | (simp; done) | (simp; omega) | omega)]; all_goals (first | assumption | go_simp) }; have x2a : wa.cell? ⟨X, 2, none⟩ = some (.int .i64 tn) := by { rw [cellB hba _ _ (by first | (simp; done) | (simp; omega) | omega)]; all_goals (first | assumption | go_simp) }; have x3a : wa.cell? ⟨X, 3, none⟩ = some (.int .i64 Ln) := by { rw [cellB hba _ _ (by first | (simp; done) | (simp; omega) | omega)]; all_goals (first | assumption | go_simp) }; have x4a : wa.cell? ⟨X, 4, none⟩ = some (.int .i64 lim) := by { rw [cellB hba _ _ (by first | (simp; done) | (simp; omega) | omega)]; all_goals (first | assumption | go_simp) }; have lXa : X < wa.heap.size := by { omega }
              have HOa := Lib.hid (owns_below HO7.out hba (fun q hq => (HO7.out.lt q hq).2))
              have HBra := Lib.hid (HBr7.out.trans (hba.mono HBr7.out.size))
              clear hba hN x0 x1 x2 x3 x4 lx HST HO7 HBr7 cu0' cu1' cv0' cv1' lu7
              cases ok
              · have HBAD := Lib.hid (show ∃ p ∈ l, smallQ (stOf v u p) = false from ⟨_, List.mem_of_getElem? HX.out, by rw [HQE.out]; exact HOKQ.out.symm⟩)
                go_wp2
                go_ret2
                exact ⟨HB6.out.trans (HBra.out.mono hz6), .inr (.inr (.inl ⟨HEQ.out.symm, HP0.out, HBAD.out, rfl⟩))⟩
              · obtain ⟨rfl, rfl⟩ := HSM.out rfl
                have hq := HOKQ.out.symm
                have HQS := Lib.hid hq
                unfold smallQ at hq
                simp only [Bool.and_eq_true, wi_iff] at hq
                have pp := Int.mul_le_mul_of_nonneg_left hq.2.2 i0
                have pq := Int.mul_nonneg i0 (show (0 : Int) ≤ (q.den : Int) by omega)
                obtain ⟨M, hM⟩ : ∃ M, M = lim * (q.den : Int) := ⟨_, rfl⟩
                rw [← hM] at HRK pp pq
                have m1 : lim * (q.den : Int) = M := hM.symm
                have pr : M ≤ 1000000000000000 := by omega
                have HTK := Lib.hid (show ecells rEnc ((l.take (k + 1)).map (rkOf v u)) = ecells rEnc ((l.take k).map (rkOf v u)) ++ [.string s, .int .i64 q.num, .int .i64 (q.den : Int), .bool (decide (q.num ≤ M))] by
                  rw [take_last HX.out, List.map_append, ecells_append, List.map_cons, List.map_nil, ecells_one, HRK.out]; rfl)
                have HSN := Lib.hid (show ∀ i p, i < k + 1 → l[i]? = some p → smallQ (stOf v u p) = true from fun i p hi hp => by
                  rcases Nat.lt_or_ge i k with h2 | h2
                  · exact HS9.out i p h2 hp
                  · obtain rfl : i = k := by omega
                    rw [HX.out] at hp; obtain rfl := Option.some.inj hp; rw [HQE.out]; exact HQS.out)
                clear hM HQS HOKQ HSM HRK HX hq pp
                generalize q.num = qn at *
                generalize (q.den : Int) = qd at *
                go_wp2_with (at_builtin; refine wpList_append_sl _ rfl _ _ 104 rfl w6.heap.size 110 _ 4 40 Try.underlying104 infoRank rfl (by omega) (.slice av k cv) k _ rfl (HOa.out.alloc _) _ 1 1 [.string s, .int .i64 qn, .int .i64 qd, .bool (decide (qn ≤ M))] rfl (SlR.lit _ _ _ _ _ 1 4 (by rfl) (by simp) rfl (by omega)) (by simp [Value.oneCell']) (by omega) (by omega) (by have := HBra.out.size; simp; omega) ?_)
                intro v8 wd hown8 _ hb8
                obtain ⟨a8, c8, rfl, _, _⟩ := owns_slice hown8
                have HO8 := Lib.hid (show wd.ownsRow w6.heap.size 110 4 (.slice a8 (k + 1) c8) (k + 1) (ecells rEnc ((l.take (k + 1)).map (rkOf v u))) by rw [HTK.out, List.map_take]; exact hown8)
                have HB8 := Lib.hid (show Below w6.heap.size w6 wd from Below.trans (HBra.out.alloc HBra.out.size _) hb8)
                clear hown8 hb8
                go_wp2
                go_roundw
                case rel => exact ⟨k + 1, a8, c8, by go_num, rfl, by omega, HO8, HSN, HB8⟩
                case measure => simp [intOf]; omega
          · obtain rfl : n = k := by omega
            have HSA := Lib.hid (show ∀ p ∈ l, smallQ (stOf v u p) = true from fun p hp => by
              obtain ⟨i, hi⟩ := List.mem_iff_getElem?.1 hp
              exact HS9.out i p (by have := (List.getElem?_eq_some_iff.1 hi).1; rw [HLN.out] at this; exact this) hi)
            have HOF := Lib.hid (show w9.ownsRow w6.heap.size 110 4 (.slice av n cv) n (ecells rEnc (l.map (rkOf v u))) by
              have := HO9.out
              rw [List.take_of_length_le (Nat.le_of_eq HLN.out)] at this
              exact this)
            clear HO9 HS9
            obtain ⟨l', hl'⟩ := vals_mk (l.map (rkOf v u)) (fun r hr => by
              obtain ⟨p, hp, rfl⟩ := List.mem_map.1 hr
              exact HSA.out p hp)
            have HLL := Lib.hid hl'
            have HL'N := Lib.hid (show l'.length = n by
              have := congrArg List.length hl'
              rw [List.length_map, List.length_map, HLN.out] at this
              exact this)
            have HOE := Lib.hid (show w9.ownsRow w6.heap.size 110 4 (.slice av n cv) n (ecells sEnc l') by rw [ecells_val, hl']; exact HOF.out)
            clear hl' HOF
            by_cases hn0 : n = 0
            · have HS0 := Lib.hid (sortRk_none av cv 93 w9)
              obtain rfl : l' = [] := List.length_eq_zero_iff.1 (HL'N.out.trans hn0)
              subst hn0
              have HES := Lib.hid (ER.nil (enc := sEnc) (k := 4) w9 av)
              go_wp2_with fail
              refine HS0.out.mono ?_
              rintro eS wS ⟨rfl, rfl⟩
              go_wp2
              go_ret2
              exact ⟨HB9.out, .inr (.inr (.inr ⟨HEQ.out.symm, HP0.out, HSA.out, _, _, [], rfl, HES.out, by rw [← HLL.out], fun i j x y _ hx _ => by simp at hx⟩))⟩
            · have hown : ∃ g, av = some ⟨g, 0, none⟩ := by
                rcases HOE.out.2 with ⟨_, h0⟩ | ⟨g, cap, cur, hv, _⟩
                · exact absurd h0 hn0
                · simp only [Value.slice.injEq] at hv
                  exact ⟨g, hv.1⟩
              obtain ⟨g, rfl⟩ := hown
              have HSO := Lib.hid (sortRk_some l' g cv n w6.heap.size 110 w9 HL'N.out (by omega) HOE.out)
              clear HOE
              go_wp2_with fail
              refine HSO.out.mono ?_
              rintro eS wS ⟨rfl, S, hp, hs, hbS, hER⟩
              have HPS := Lib.hid hp
              have HSS := Lib.hid hs
              have HES := Lib.hid hER
              have HBS := Lib.hid (HBr9.out.trans hbS)
              clear hp hs hbS hER HSO
              go_wp2
              go_ret2
              exact ⟨HB6.out.trans (HBS.out.mono hz6), .inr (.inr (.inr ⟨HEQ.out.symm, HP0.out, HSA.out, _, _, S, rfl, HES.out, by rw [← HLL.out]; exact HPS.out.map _, HSS.out⟩))⟩
end Go.Proofs.Ytbjgklifmillgaa
