import Derived.Deep.Heap
import Derived.Test.YtdjinmieogpgcaaGreatMTElx
/- Subtracting digits. -/
namespace Go.Proofs.YtdjinmieogpgcaaGreat
open Go.RowKit
set_option linter.unusedVariables false
theorem owns_ge {w : World} {base sz n c : Nat} {e : TypeId} {a : Option Addr} {xs : List Value} (h : w.ownsRow base e sz (.slice a n c) n xs) {b o : Nat} (h0 : 0 < n) (ha : a = some ⟨b, o, none⟩) : base ≤ b := by
 rcases h.2 with ⟨_, hn⟩ | ⟨g, cap, cur, hv, hbase, _⟩
 ·omega
 ·simp only [Value.slice.injEq] at hv
  rw [hv.1] at ha
  simp only [Option.some.injEq, Addr.mk.injEq] at ha
  omega
set_option maxRecDepth 100000 in
theorem subDigits_any (l1 l2 : List Int) (a1 a2 : Option Addr) (n1 c1 n2 c2 : Nat) (w : World) (h1 : IntsR w a1 n1 l1) (h2 : IntsR w a2 n2 l2) (d1 : DOk l1) (d2 : DOk l2) (hn1 : n1 ≤ 1000000) (hle : dval l2 ≤ dval l1) :
    Calls Tryz.prog 167 #[.slice a1 n1 c1, .slice a2 n2 c2] w fun e' w' => ∃ a' n' c', e' = .returned (.slice a' n' c') ∧ Below w.heap.size w w' ∧ ∃ l, IntsR w' a' n' l ∧ DOk l ∧ Top l ∧ dval l = dval l1 - dval l2 ∧ n' ≤ c' ∧ (∀ b o, 0 < n' → a' = some ⟨b, o, none⟩ → w.heap.size ≤ b) := by
 have H1 := Lib.hid h1
 have H2 := Lib.hid h2
 have D1 := Lib.hid d1
 have D2 := Lib.hid d2
 have HLE := Lib.hid hle
 clear h1 h2 d1 d2 hle
 go_enter Tryz.func167, Tryz.ntmps167
 go_wp2
 go_loopw [5, 6, 7] (fun v c i wr => ∃ k : Nat, i = .int .i64 k ∧ k ≤ n1 ∧ (∃ av cv o C, v = .slice av k cv ∧ c = .int .i64 C ∧ 0 ≤ C ∧ C ≤ 1 ∧ Hid (wr.ownsRow w.heap.size 3 1 (.slice av k cv) k (icells o)) ∧ Hid (o.length = k ∧ DOk o ∧ dval o + pw k * (dval (l1.drop k) - dval (l2.drop k) - C) = dval l1 - dval l2)) ∧ Hid (Below w.heap.size w wr)) (fun _ _ i _ => 1000000 - (intOf i).toNat)
 case atStart => exact ⟨0, rfl, by omega, ⟨none, 0, [], 0, rfl, rfl, by omega, by omega, Lib.hid (World.ownsRow_nil _ _ _ _), Lib.hid ⟨rfl, DOk.nil, by simp [dval, pw]⟩⟩, Lib.hid (Below.refl _ _)⟩
 case round =>
  obtain ⟨k, rfl, hk, ⟨av, cv, o, C, rfl, rfl, hC0, hC1, hO, hF⟩, hB⟩ := hrel
  have hB0 := hB.out.size
  have HO := Lib.hid hO.out
  have HB := Lib.hid hB.out
  have HOL := Lib.hid hF.out
  clear hO hB hF
  by_cases hlt : k < n1
  ·obtain ⟨b1, o1, rfl, hb1, hc1⟩ := H1.out.addr (by omega)
   have hck1 := hc1 k (by omega)
   rw [← cellB HB.out _ _ hb1] at hck1
   clear hc1
   obtain ⟨x, hx⟩ : ∃ x, x = l1.getD k 0 := ⟨_, rfl⟩
   obtain ⟨y, hy⟩ : ∃ y, y = l2.getD k 0 := ⟨_, rfl⟩
   have bx := D1.out.get k
   have by_ := D2.out.get k
   have HD2 := Lib.hid (fun w' (h : IntsR w' a2 n2 l2) => digit_any l2 a2 n2 c2 k w' h)
   rw [← hx] at bx hck1
   rw [← hy] at by_ HD2
   have HX := Lib.hid hx
   have HY := Lib.hid hy
   have HI2 := Lib.hid (H2.out.below HB.out)
   have hk0 : (0 : Int) ≤ (k : Int) := by omega
   have hk1 : (k : Int) < (n1 : Int) := by omega
   clear hx hy
   go_wp2_with fail
   go_quiet (exact calls_drew_same (HD2.out _ HI2.out))
   generalize hw5 : wr.drewN _ = w5
   have HO5 := Lib.hid (show w5.ownsRow w.heap.size 3 1 (.slice av k cv) k (icells o) by rw [← hw5]; exact HO.out)
   have HB5 := Lib.hid (show Below w.heap.size w w5 by rw [← hw5]; exact HB.out.drewN _)
   have hB5 := HB5.out.size
   clear hw5 HB HO hck1 hb1 hB0
   by_cases hs : x - y - C < 0
   ·skip
    go_wp2_with (at_builtin; refine append_one _ rfl _ _ rfl w.heap.size k w5.heap.size (.slice av k cv) _ (.int .i64 (x - y - C + 1000000000)) rfl (HO5.out.alloc _) rfl (by go_simp) rfl (by omega) (by simp; omega) ?_)
    intro v8 w8 hown8 _ _ hb8
    obtain ⟨av2, cv2, rfl, _, _⟩ := owns_slice hown8
    have HO8 := Lib.hid (show w8.ownsRow w.heap.size 3 1 (.slice av2 (k + 1) cv2) (k + 1) (icells (o ++ [x - y - C + 1000000000])) by rw [icells_append]; exact hown8)
    have HB8 := Lib.hid (Below.trans HB5.out (Below.trans (Below.alloc (Below.refl _ _) hB5 _) hb8))
    clear hown8 hb8
    go_wp2
    go_roundw
    case rel => exact ⟨k + 1, by go_num, by omega, ⟨av2, cv2, _, 1, rfl, rfl, by omega, by omega, HO8, Lib.hid ⟨by simp [HOL.out.1], HOL.out.2.1.app (DOk.one (by omega) (by omega)), sub_digit o l1 l2 k C _ _ _ HOL.out.1 HOL.out.2.2 (by rw [← HX.out, ← HY.out]; omega)⟩⟩, HB8⟩
    case measure => simp [intOf]; omega
   ·skip
    go_wp2_with (at_builtin; refine append_one _ rfl _ _ rfl w.heap.size k w5.heap.size (.slice av k cv) _ (.int .i64 (x - y - C)) rfl (HO5.out.alloc _) rfl (by go_simp) rfl (by omega) (by simp; omega) ?_)
    intro v8 w8 hown8 _ _ hb8
    obtain ⟨av2, cv2, rfl, _, _⟩ := owns_slice hown8
    have HO8 := Lib.hid (show w8.ownsRow w.heap.size 3 1 (.slice av2 (k + 1) cv2) (k + 1) (icells (o ++ [x - y - C])) by rw [icells_append]; exact hown8)
    have HB8 := Lib.hid (Below.trans HB5.out (Below.trans (Below.alloc (Below.refl _ _) hB5 _) hb8))
    clear hown8 hb8
    go_wp2
    go_roundw
    case rel => exact ⟨k + 1, by go_num, by omega, ⟨av2, cv2, _, 0, rfl, rfl, by omega, by omega, HO8, Lib.hid ⟨by simp [HOL.out.1], HOL.out.2.1.app (DOk.one (by omega) (by omega)), sub_digit o l1 l2 k C _ _ _ HOL.out.1 HOL.out.2.2 (by rw [← HX.out, ← HY.out]; omega)⟩⟩, HB8⟩
    case measure => simp [intOf]; omega
  ·obtain rfl : k = n1 := by omega
   have hX := (dval_bd (D2.out.drop k)).1
   have HE := Lib.hid (show dval o = dval l1 - dval l2 by
    have h3 := HOL.out.2.2
    rw [List.drop_eq_nil_of_le (show l1.length ≤ k by rw [H1.out.len]; omega)] at h3
    exact sub_end o k HOL.out.2.1 HOL.out.1 (dval (l2.drop k) + C) _ (by omega) (by have := HLE.out; omega) (by rw [← h3]; simp only [dval]; rw [show (0 : Int) - (dval (l2.drop k) + C) = 0 - dval (l2.drop k) - C by omega]))
   have hcap := (owns_slice HO.out)
   have HT := Lib.hid (fun h => trimmed_any o av k cv wr (SlR.of_owns HO.out) HOL.out.2.1 h)
   have hcv : k ≤ cv := by
    obtain ⟨_, _, h1, h2, _⟩ := owns_slice HO.out
    simp only [Value.slice.injEq] at h1
    omega
   clear hX hcap
   go_wp2_with fail
   refine (HT.out hcv).mono ?_
   rintro e6 w6 ⟨⟨m6, c6, rfl, hm6, hmc6, hT6, hV6⟩, rfl⟩
   have HI6 := Lib.hid (IntsR.take (SlR.of_owns HO.out) hm6)
   have HT6 := Lib.hid hT6
   have HV6 := Lib.hid hV6
   clear hT6 hV6
   go_wp2
   go_ret
   exact ⟨av, m6, c6, rfl, HB.out, _, HI6.out, HOL.out.2.1.take _, HT6.out, by rw [HV6.out, HE.out], hmc6, fun b o' h0 ha => owns_ge HO.out (by omega) ha⟩
/- Wide numbers: wideOf, WideNeg, wideSize, WideSign. 'p' tells of the blocks where the digits may lie. -/
def WideR (p : Nat → Prop) (w : World) (v : Value) (z : Int) : Prop := ∃ a n c l, v = .agg #[.int .i64 z.sign, .slice a n c] ∧ IntsR w a n l ∧ DOk l ∧ Top l ∧ dval l = (z.natAbs : Int) ∧ n ≤ c ∧ (∀ b o, 0 < n → a = some ⟨b, o, none⟩ → p b)
theorem WideR.below {p : Nat → Prop} {w w' : World} {v : Value} {z : Int} (h : WideR p w v z) (hb : Below w.heap.size w w') : WideR p w' v z := by
 obtain ⟨a, n, c, l, h1, h2, h3⟩ := h
 exact ⟨a, n, c, l, h1, h2.below hb, h3⟩
theorem WideR.mono {p q : Nat → Prop} {w : World} {v : Value} {z : Int} (h : WideR p w v z) (hb : ∀ b, p b → q b) : WideR q w v z := by
 obtain ⟨a, n, c, l, h1, h2, h3, h4, h5, h6, h7⟩ := h
 exact ⟨a, n, c, l, h1, h2, h3, h4, h5, h6, fun b o h0 ha => hb b (h7 b o h0 ha)⟩
theorem IntsR.kept {w w' : World} {a : Option Addr} {n : Nat} {l : List Int} (h : IntsR w a n l) (hs : w.heap.size ≤ w'.heap.size) (hb : ∀ b o, 0 < n → a = some ⟨b, o, none⟩ → w'.heap[b]? = w.heap[b]?) : IntsR w' a n l := by
 refine ⟨h.1, h.2.1, fun hn => ?_⟩
 obtain ⟨b, o, ha, hlt, hc⟩ := h.2.2 hn
 refine ⟨b, o, ha, Nat.lt_of_lt_of_le hlt hs, fun i u hu => ?_⟩
 have h1 := hc i u hu
 have h2 := hb b o hn ha
 simp only [World.cell?, h2] at h1 ⊢
 exact h1
theorem WideR.kept {p : Nat → Prop} {w w' : World} {v : Value} {z : Int} (h : WideR p w v z) (hs : w.heap.size ≤ w'.heap.size) (hb : ∀ b, p b → w'.heap[b]? = w.heap[b]?) : WideR p w' v z := by
 obtain ⟨a, n, c, l, h1, h2, h3, h4, h5, h6, h7⟩ := h
 exact ⟨a, n, c, l, h1, h2.kept hs (fun b o h0 ha => hb b (h7 b o h0 ha)), h3, h4, h5, h6, h7⟩
set_option maxRecDepth 100000 in
theorem wideOf_any (p : Nat → Prop) (l : List Int) (a : Option Addr) (n c : Nat) (s z : Int) (w : World) (h : IntsR w a n l) (hd : DOk l) (hcap : n ≤ c) (hv : dval l = (z.natAbs : Int)) (hs : z ≠ 0 → s = z.sign) (hp : ∀ b o, 0 < n → a = some ⟨b, o, none⟩ → p b) :
    Calls Tryz.prog 159 #[.int .i64 s, .slice a n c] w fun e' w' => ∃ v, e' = .returned v ∧ Below w.heap.size w w' ∧ WideR p w' v z := by
 have HL := Lib.hid h
 have HD := Lib.hid hd
 have HV := Lib.hid hv
 have HS := Lib.hid hs
 have HP := Lib.hid hp
 have HT := Lib.hid (fun w' (h : IntsR w' a n l) => trimmed_any l a n c w' h hd hcap)
 clear h hd hv hs hp
 go_enter Tryz.func159, Tryz.ntmps159
 go_wp2_with fail
 refine (HT.out _ (HL.out.below (by (first|exact bwg|go_size)))).mono ?_
 rintro e6 w6 ⟨⟨m6, c6, rfl, hm6, hmc6, hT6, hV6⟩, rfl⟩
 have HI6 := Lib.hid (HL.out.take hm6)
 have HT6 := Lib.hid hT6
 have HV6 := Lib.hid hV6
 clear hT6 hV6
 rcases m6 with _ | m
 ·have HZ := Lib.hid (show z = 0 by
    have h1 := HV6.out; have h2 := HV.out
    simp [dval] at h1; omega)
  go_wp2
  refine bodyPost_ret (v := .agg #[.int .i64 0, .slice a 0 c6]) (by simp [results, Tryz.results159, go_sem]) rfl ⟨_, rfl, by (first|exact bwg|go_size), ?_⟩
  refine ⟨a, 0, c6, l.take 0, by rw [HZ.out]; rfl, HI6.out.below (by (first|exact bwg|go_size)), HD.out.take _, HT6.out, by rw [HV6.out, HV.out], Nat.zero_le _, fun _ _ h0 => absurd h0 (by omega)⟩
 ·have HZ := Lib.hid (show z ≠ 0 by
    intro h0
    have h1 := HV6.out; have h2 := HV.out
    have h3 := (HT6.out.zero (HD.out.take _)).1 (by omega)
    have := HI6.out.len
    omega)
  go_wp2
  refine bodyPost_ret (v := .agg #[.int .i64 s, .slice a (m + 1) c6]) (by simp [results, Tryz.results159, go_sem]) rfl ⟨_, rfl, by (first|exact bwg|go_size), ?_⟩
  exact ⟨a, m + 1, c6, l.take (m + 1), by rw [HS.out HZ.out], HI6.out.below (by (first|exact bwg|go_size)), HD.out.take _, HT6.out, by rw [HV6.out, HV.out], hmc6, fun b o _ ha => HP.out b o (by omega) ha⟩
theorem sign_bd (z : Int) : -1 ≤ z.sign ∧ z.sign ≤ 1 := by
 rcases Int.lt_trichotomy z 0 with h | h | h
 ·rw [Int.sign_eq_neg_one_of_neg h]; omega
 ·subst h; simp
 ·rw [Int.sign_eq_one_of_pos h]; omega
set_option maxRecDepth 100000 in
theorem wideNeg_any (p : Nat → Prop) (v : Value) (z : Int) (w : World) (h : WideR p w v z) :
    Calls Tryz.prog 161 #[v] w fun e' w' => ∃ v', e' = .returned v' ∧ Below w.heap.size w w' ∧ WideR p w' v' (-z) := by
 obtain ⟨a, n, c, l, rfl, h2, h3, h4, h5, h6, h7⟩ := h
 have H := Lib.hid (fun w' hb => (⟨a, n, c, l, by rw [Int.sign_neg], h2.below (w' := w') hb, h3, h4, by rw [Int.natAbs_neg]; exact h5, h6, h7⟩ : WideR p w' (.agg #[.int .i64 (-z.sign), .slice a n c]) (-z)))
 have hs := sign_bd z
 clear h2 h3 h4 h5 h6 h7
 generalize z.sign = s at *
 go_enter Tryz.func161, Tryz.ntmps161
 go_wp2
 refine bodyPost_ret (v := .agg #[.int .i64 (-s), .slice a n c]) (by simp [results, Tryz.results161, go_sem]) rfl ⟨_, rfl, by (first|exact bwg|go_size), H.out _ (by (first|exact bwg|go_size))⟩
set_option maxRecDepth 100000 in
theorem wideSign_any (p : Nat → Prop) (v : Value) (z : Int) (w : World) (h : WideR p w v z) :
    Calls Tryz.prog 160 #[v] w fun e' w' => e' = .returned (.int .i64 z.sign) ∧ Below w.heap.size w w' := by
 obtain ⟨a, n, c, l, rfl, h2, h3, h4, h5, h6, h7⟩ := h
 clear h2 h3 h4 h5 h6 h7
 generalize z.sign = s at *
 go_enter Tryz.func160, Tryz.ntmps160
 go_wp2
 go_ret
 exact ⟨rfl, by (first|exact bwg|go_size)⟩
/- Wide numbers: WideOf. -/
theorem pw3 {k : Nat} (h : pw k ≤ 9223372036854775807) : k ≤ 2 := by
 by_cases hk : k ≤ 2
 ·exact hk
 ·have := pw_mono (m := 3) (n := k) (by omega)
  simp only [pw] at this; omega
theorem wof_step (o : List Int) (k : Nat) (m S : Int) (hl : o.length = k) (h : dval o + pw k * m = S) : dval (o ++ [m % 1000000000]) + pw (k + 1) * (m / 1000000000) = S := by
 rw [dval_app, dval_one, hl]
 have h3 := Int.emod_add_mul_ediv m 1000000000
 generalize m % 1000000000 = r at *
 generalize m / 1000000000 = q at *
 simp only [pw]
 grind
set_option maxRecDepth 100000 in
theorem wideOfInt_any (z : Int) (w : World) (hz0 : -9223372036854775807 ≤ z) (hz1 : z ≤ 9223372036854775807) :
    Calls Tryz.prog 142 #[.int .i64 z] w fun e' w' => ∃ v, e' = .returned v ∧ Below w.heap.size w w' ∧ WideR (fun b => w.heap.size ≤ b) w' v z := by
 by_cases hz : z < 0
 ·obtain ⟨u, hu⟩ : ∃ u : Nat, (u : Int) = -z := ⟨z.natAbs, by omega⟩
  have HZ := Lib.hid (show z.natAbs = u by omega)
  have hu1 : u ≤ 9223372036854775807 := by omega
  go_enter Tryz.func142, Tryz.ntmps142
  go_wp2
  go_loopw [0, 4] (fun x v wr => ∃ k m : Nat, x = .int .i64 m ∧ (∃ av cv o, v = .slice av k cv ∧ Hid (wr.ownsRow (w.heap.size + 1) 3 1 (.slice av k cv) k (icells o)) ∧ Hid (o.length = k ∧ DOk o ∧ dval o + pw k * m = (z.natAbs : Int))) ∧ k ≤ 3 ∧ m ≤ 9223372036854775807 ∧ Hid (Below w.heap.size w wr) ∧ w.heap.size < wr.heap.size ∧ wr.cell? ⟨w.heap.size, 0, none⟩ = some (.int .i64 0) ∧ wr.cell? ⟨w.heap.size, 1, none⟩ = some (.slice none 0 0) ∧ wr.frozen? ⟨w.heap.size, 0, none⟩ = false ∧ wr.frozen? ⟨w.heap.size, 1, none⟩ = false) (fun x _ _ => (intOf x).toNat)
  case atStart => exact ⟨0, u, by first | rfl | (rw [show (u : Int) = _ from hu]), ⟨none, 0, [], rfl, Lib.hid (World.ownsRow_nil _ _ _ _), Lib.hid ⟨rfl, DOk.nil, by rw [HZ.out]; simp [dval, pw]⟩⟩, by omega, hu1, Lib.hid (by (first|exact bwg|go_size)), by simp, by go_simp, by go_simp, by go_simp, by go_simp⟩
  case round =>
   obtain ⟨k, m, rfl, ⟨av, cv, o, rfl, hO, hF⟩, hk, hm, hB, hsz, d0, d1, e0, e1⟩ := hrel
   have hp0 := pw_pos k
   rcases m with _ | m
   ·have HV := Lib.hid (show dval o = (z.natAbs : Int) by simpa using hF.out.2.2)
    have hcv : k ≤ cv := by
     obtain ⟨_, _, h1, h2, _⟩ := owns_slice hO.out
     simp only [Value.slice.injEq] at h1
     omega
    have HW := Lib.hid (wideOf_any (fun b => w.heap.size + 1 ≤ b) o av k cv (-1) z wr (SlR.of_owns hO.out) hF.out.2.1 hcv HV.out (fun _ => (Int.sign_eq_neg_one_of_neg hz).symm) (fun b o' h0 ha => owns_ge hO.out h0 ha))
    clear hp0
    go_wp2_with fail
    refine HW.out.mono ?_
    rintro e6 w6 ⟨v6, rfl, hb6, hW6⟩
    obtain ⟨a6, n6, c6, l6, rfl, hR⟩ := hW6
    have HR := Lib.hid hR
    have HB6 := Lib.hid (hB.out.trans (hb6.mono (by omega)))
    have hs1 := sign_bd z
    have HSS := Lib.hid (rfl : z.sign = z.sign)
    have d2 : w6.cell? ⟨w.heap.size, 0, none⟩ = some (.int .i64 0) := bwc hb6; have d3 : w6.cell? ⟨w.heap.size, 1, none⟩ = some (.slice none 0 0) := bwc hb6; have e2 : w6.frozen? ⟨w.heap.size, 0, none⟩ = false := bwf hb6; have e3 : w6.frozen? ⟨w.heap.size, 1, none⟩ = false := bwf hb6
    have hz6 := hb6.size
    clear hR hb6 HW
    obtain ⟨sg, hsg⟩ : ∃ sg, sg = z.sign := ⟨_, rfl⟩
    have HSG := Lib.hid hsg
    rw [← hsg]
    clear hsg
    go_wp2
    refine bodyPost_ret (v := .agg #[.int .i64 sg, .slice a6 n6 c6]) (by simp [results, Tryz.results142, go_sem, *]) rfl ⟨_, rfl, ((HB6.out.setCell (Nat.le_refl _) _).setCell (Nat.le_refl _) _), ?_⟩
    exact WideR.mono (p := fun b => w.heap.size + 1 ≤ b) (WideR.kept (w := w6) ⟨a6, n6, c6, l6, by rw [HSG.out], HR.out⟩ (by simp) (fun b hb => by rw [Go.Deep.blk_setCell_other _ _ _ _ (by simp; omega), Go.Deep.blk_setCell_other _ _ _ _ (by simp; omega)])) (fun b hb => by omega)
   ·have HV := Lib.hid (wof_step o k _ _ hF.out.1 hF.out.2.2)
    have hk2 : k ≤ 2 := pw3 (by
     have h1 := hF.out.2.2
     have h2 := (dval_bd hF.out.2.1).1
     have h3 : pw k * 1 ≤ pw k * ((m + 1 : Nat) : Int) := Int.mul_le_mul_of_nonneg_left (by omega) (by omega)
     omega)
    have HLO := Lib.hid (And.intro hF.out.1 hF.out.2.1)
    have HO := Lib.hid hO.out
    have HB := Lib.hid hB.out
    obtain ⟨q, hq⟩ : ∃ q : Nat, (q : Int) = ((m + 1 : Nat) : Int) / 1000000000 := ⟨(m + 1) / 1000000000, by omega⟩
    have HQ := Lib.hid hq
    have hqm : q < m + 1 := by omega
    clear hO hB hF hp0 hq
    go_wp2_with (at_builtin; refine append_one _ rfl _ _ rfl (w.heap.size + 1) k wr.heap.size (.slice av k cv) _ (.int .i64 (((m + 1 : Nat) : Int) % 1000000000)) rfl (HO.out.alloc _) rfl (by go_simp) rfl (by omega) (by simp; omega) ?_)
    intro v8 w8 hown8 _ _ hb8
    obtain ⟨av2, cv2, rfl, _, _⟩ := owns_slice hown8
    have hb9 : Below (w.heap.size + 1) wr w8 := Below.trans (Below.alloc (Below.refl _ _) (by omega) _) hb8
    have HO8 := Lib.hid (show w8.ownsRow (w.heap.size + 1) 3 1 (.slice av2 (k + 1) cv2) (k + 1) (icells (o ++ [((m + 1 : Nat) : Int) % 1000000000])) by rw [icells_append]; exact hown8)
    have HB8 := Lib.hid (HB.out.trans (hb9.mono (by omega)))
    have hz8 := hb9.size
    have d2 : w8.cell? ⟨w.heap.size, 0, none⟩ = some (.int .i64 0) := bwc hb9; have d3 : w8.cell? ⟨w.heap.size, 1, none⟩ = some (.slice none 0 0) := bwc hb9; have e2 : w8.frozen? ⟨w.heap.size, 0, none⟩ = false := bwf hb9; have e3 : w8.frozen? ⟨w.heap.size, 1, none⟩ = false := bwf hb9
    clear hown8 hb8 hb9
    go_wp2
    go_roundw
    case rel => exact ⟨k + 1, q, by rw [HQ.out]; rfl, ⟨av2, cv2, _, rfl, HO8, Lib.hid ⟨by simp [HLO.out.1], HLO.out.2.app (DOk.one (by omega) (by omega)), by rw [HQ.out]; exact HV.out⟩⟩, by omega, by omega, HB8, by omega, d2, d3, e2, e3⟩
    case measure => simp [intOf]; omega
 ·obtain ⟨u, hu⟩ : ∃ u : Nat, (u : Int) = z := ⟨z.natAbs, by omega⟩
  have HZ := Lib.hid (show z.natAbs = u by omega)
  have hu1 : u ≤ 9223372036854775807 := by omega
  go_enter Tryz.func142, Tryz.ntmps142
  go_wp2
  go_loopw [0, 4] (fun x v wr => ∃ k m : Nat, x = .int .i64 m ∧ (∃ av cv o, v = .slice av k cv ∧ Hid (wr.ownsRow (w.heap.size + 1) 3 1 (.slice av k cv) k (icells o)) ∧ Hid (o.length = k ∧ DOk o ∧ dval o + pw k * m = (z.natAbs : Int))) ∧ k ≤ 3 ∧ m ≤ 9223372036854775807 ∧ Hid (Below w.heap.size w wr) ∧ w.heap.size < wr.heap.size ∧ wr.cell? ⟨w.heap.size, 0, none⟩ = some (.int .i64 0) ∧ wr.cell? ⟨w.heap.size, 1, none⟩ = some (.slice none 0 0) ∧ wr.frozen? ⟨w.heap.size, 0, none⟩ = false ∧ wr.frozen? ⟨w.heap.size, 1, none⟩ = false) (fun x _ _ => (intOf x).toNat)
  case atStart => exact ⟨0, u, by first | rfl | (rw [show (u : Int) = _ from hu]), ⟨none, 0, [], rfl, Lib.hid (World.ownsRow_nil _ _ _ _), Lib.hid ⟨rfl, DOk.nil, by rw [HZ.out]; simp [dval, pw]⟩⟩, by omega, hu1, Lib.hid (by (first|exact bwg|go_size)), by simp, by go_simp, by go_simp, by go_simp, by go_simp⟩
  case round =>
   obtain ⟨k, m, rfl, ⟨av, cv, o, rfl, hO, hF⟩, hk, hm, hB, hsz, d0, d1, e0, e1⟩ := hrel
   have hp0 := pw_pos k
   rcases m with _ | m
   ·have HV := Lib.hid (show dval o = (z.natAbs : Int) by simpa using hF.out.2.2)
    have hcv : k ≤ cv := by
     obtain ⟨_, _, h1, h2, _⟩ := owns_slice hO.out
     simp only [Value.slice.injEq] at h1
     omega
    have HW := Lib.hid (wideOf_any (fun b => w.heap.size + 1 ≤ b) o av k cv (1) z wr (SlR.of_owns hO.out) hF.out.2.1 hcv HV.out (fun h0 => (Int.sign_eq_one_of_pos (by omega)).symm) (fun b o' h0 ha => owns_ge hO.out h0 ha))
    clear hp0
    go_wp2_with fail
    refine HW.out.mono ?_
    rintro e6 w6 ⟨v6, rfl, hb6, hW6⟩
    obtain ⟨a6, n6, c6, l6, rfl, hR⟩ := hW6
    have HR := Lib.hid hR
    have HB6 := Lib.hid (hB.out.trans (hb6.mono (by omega)))
    have hs1 := sign_bd z
    have HSS := Lib.hid (rfl : z.sign = z.sign)
    have d2 : w6.cell? ⟨w.heap.size, 0, none⟩ = some (.int .i64 0) := bwc hb6; have d3 : w6.cell? ⟨w.heap.size, 1, none⟩ = some (.slice none 0 0) := bwc hb6; have e2 : w6.frozen? ⟨w.heap.size, 0, none⟩ = false := bwf hb6; have e3 : w6.frozen? ⟨w.heap.size, 1, none⟩ = false := bwf hb6
    have hz6 := hb6.size
    clear hR hb6 HW
    obtain ⟨sg, hsg⟩ : ∃ sg, sg = z.sign := ⟨_, rfl⟩
    have HSG := Lib.hid hsg
    rw [← hsg]
    clear hsg
    go_wp2
    refine bodyPost_ret (v := .agg #[.int .i64 sg, .slice a6 n6 c6]) (by simp [results, Tryz.results142, go_sem, *]) rfl ⟨_, rfl, ((HB6.out.setCell (Nat.le_refl _) _).setCell (Nat.le_refl _) _), ?_⟩
    exact WideR.mono (p := fun b => w.heap.size + 1 ≤ b) (WideR.kept (w := w6) ⟨a6, n6, c6, l6, by rw [HSG.out], HR.out⟩ (by simp) (fun b hb => by rw [Go.Deep.blk_setCell_other _ _ _ _ (by simp; omega), Go.Deep.blk_setCell_other _ _ _ _ (by simp; omega)])) (fun b hb => by omega)
   ·have HV := Lib.hid (wof_step o k _ _ hF.out.1 hF.out.2.2)
    have hk2 : k ≤ 2 := pw3 (by
     have h1 := hF.out.2.2
     have h2 := (dval_bd hF.out.2.1).1
     have h3 : pw k * 1 ≤ pw k * ((m + 1 : Nat) : Int) := Int.mul_le_mul_of_nonneg_left (by omega) (by omega)
     omega)
    have HLO := Lib.hid (And.intro hF.out.1 hF.out.2.1)
    have HO := Lib.hid hO.out
    have HB := Lib.hid hB.out
    obtain ⟨q, hq⟩ : ∃ q : Nat, (q : Int) = ((m + 1 : Nat) : Int) / 1000000000 := ⟨(m + 1) / 1000000000, by omega⟩
    have HQ := Lib.hid hq
    have hqm : q < m + 1 := by omega
    clear hO hB hF hp0 hq
    go_wp2_with (at_builtin; refine append_one _ rfl _ _ rfl (w.heap.size + 1) k wr.heap.size (.slice av k cv) _ (.int .i64 (((m + 1 : Nat) : Int) % 1000000000)) rfl (HO.out.alloc _) rfl (by go_simp) rfl (by omega) (by simp; omega) ?_)
    intro v8 w8 hown8 _ _ hb8
    obtain ⟨av2, cv2, rfl, _, _⟩ := owns_slice hown8
    have hb9 : Below (w.heap.size + 1) wr w8 := Below.trans (Below.alloc (Below.refl _ _) (by omega) _) hb8
    have HO8 := Lib.hid (show w8.ownsRow (w.heap.size + 1) 3 1 (.slice av2 (k + 1) cv2) (k + 1) (icells (o ++ [((m + 1 : Nat) : Int) % 1000000000])) by rw [icells_append]; exact hown8)
    have HB8 := Lib.hid (HB.out.trans (hb9.mono (by omega)))
    have hz8 := hb9.size
    have d2 : w8.cell? ⟨w.heap.size, 0, none⟩ = some (.int .i64 0) := bwc hb9; have d3 : w8.cell? ⟨w.heap.size, 1, none⟩ = some (.slice none 0 0) := bwc hb9; have e2 : w8.frozen? ⟨w.heap.size, 0, none⟩ = false := bwf hb9; have e3 : w8.frozen? ⟨w.heap.size, 1, none⟩ = false := bwf hb9
    clear hown8 hb8 hb9
    go_wp2
    go_roundw
    case rel => exact ⟨k + 1, q, by rw [HQ.out]; rfl, ⟨av2, cv2, _, rfl, HO8, Lib.hid ⟨by simp [HLO.out.1], HLO.out.2.app (DOk.one (by omega) (by omega)), by rw [HQ.out]; exact HV.out⟩⟩, by omega, by omega, HB8, by omega, d2, d3, e2, e3⟩
    case measure => simp [intOf]; omega
/- Wide numbers: wideSize. -/
set_option maxRecDepth 100000 in
theorem wideSize_any (p : Nat → Prop) (v : Value) (z : Int) (w : World) (h : WideR p w v z) (hp : ∀ b, p b → b < w.heap.size) :
    Calls Tryz.prog 172 #[v] w fun e' w' => ∃ v', e' = .returned v' ∧ Below w.heap.size w w' ∧ WideR p w' v' (z.natAbs : Int) := by
 have HN := Lib.hid (fun w' (hb : Below w.heap.size w w') => wideNeg_any p v z w' (h.below hb))
 have HP := Lib.hid hp
 clear hp
 obtain ⟨a, n, c, l, rfl, h2, h3, h4, h5, h6, h7⟩ := h
 have hs := sign_bd z
 by_cases hz : z < 0
 ·have hs1 := Int.sign_eq_neg_one_of_neg hz
  have HZ := Lib.hid (show (-z) = (z.natAbs : Int) by omega)
  clear h2 h3 h4 h5 h6 h7 hz
  generalize z.sign = s at *
  subst hs1
  go_enter Tryz.func172, Tryz.ntmps172
  go_wp2_with fail
  refine (HN.out _ (by (first|exact bwg|go_size))).mono ?_
  rintro e6 w6 ⟨v6, rfl, hb6, hW6⟩
  rw [HZ.out] at hW6
  obtain ⟨a6, n6, c6, l6, rfl, hR⟩ := hW6
  have HR := Lib.hid hR
  have HB6 := Lib.hid (Below.trans (show Below w.heap.size w _ by (first|exact bwg|go_size)) (hb6.mono (by simp; omega)))
  have hz6 := hb6.size
  have d2 : w6.cell? ⟨w.heap.size + 1, 0, none⟩ = some (.int .i64 0) := bwc hb6; have d3 : w6.cell? ⟨w.heap.size + 1, 1, none⟩ = some (.slice none 0 0) := bwc hb6; have e2 : w6.frozen? ⟨w.heap.size + 1, 0, none⟩ = false := bwf hb6; have e3 : w6.frozen? ⟨w.heap.size + 1, 1, none⟩ = false := bwf hb6
  clear hR hb6 HN
  obtain ⟨sg, hsg⟩ : ∃ sg, sg = ((z.natAbs : Int)).sign := ⟨_, rfl⟩
  have HSG := Lib.hid hsg
  rw [← hsg]
  clear hsg
  go_wp2
  refine bodyPost_ret (v := .agg #[.int .i64 sg, .slice a6 n6 c6]) (by simp [results, Tryz.results172, go_sem, *]) rfl ⟨_, rfl, ((HB6.out.setCell (by simp) _).setCell (by simp) _), ?_⟩
  exact WideR.kept (w := w6) ⟨a6, n6, c6, l6, by rw [HSG.out], HR.out⟩ (by simp) (fun b hb => by have := HP.out b hb; rw [Go.Deep.blk_setCell_other _ _ _ _ (by simp; omega), Go.Deep.blk_setCell_other _ _ _ _ (by simp; omega)])
 ·have HW := Lib.hid (fun w' (hb : Below w.heap.size w w') => (⟨a, n, c, l, by rw [show (z.natAbs : Int) = z by omega], h2.below hb, h3, h4, by rw [h5]; omega, h6, h7⟩ : WideR p w' (.agg #[.int .i64 z.sign, .slice a n c]) (z.natAbs : Int)))
  have hs2 : 0 ≤ z.sign := by
   by_cases h0 : z = 0
   ·subst h0; simp
   ·rw [Int.sign_eq_one_of_pos (by omega)]; omega
  clear h2 h3 h4 h5 h6 h7 hz HN
  generalize z.sign = s at *
  go_enter Tryz.func172, Tryz.ntmps172
  go_wp2
  refine bodyPost_ret (v := .agg #[.int .i64 s, .slice a n c]) (by simp [results, Tryz.results172, go_sem]) rfl ⟨_, rfl, by (first|exact bwg|go_size), HW.out _ (by (first|exact bwg|go_size))⟩
end Go.Proofs.YtdjinmieogpgcaaGreat
