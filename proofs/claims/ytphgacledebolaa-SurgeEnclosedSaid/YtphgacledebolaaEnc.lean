import Derived.Test.YtphgacledebolaaEncLib
/- The walk of SurgeEnclosed: every capacitance in its range. -/
namespace Go.Proofs.Ytphgacledebolaa
open Go.RowKit
set_option linter.unusedVariables false

set_option maxHeartbeats 1000000 in
set_option maxRecDepth 100000 in
theorem enc_few (s e : List (Int × Int)) (X : List Int) (a a1 ax : Option Addr) (n c n1 c1 nx cx : Nat) (g : Bool) (w : World) (hs : PairsR w a n s) (he : PairsR w a1 n1 e) (hx : IntsR w ax nx X) (h0 : rngErr s e ≠ 0 ∨ nx < 2 * n ∨ 20 < nx) :
    Calls Try.prog 4 #[.agg #[.slice a n c, .slice a1 n1 c1, .bool g], .slice ax nx cx] w fun e' w' => e' = .returned (.bool true) ∧ Below w.heap.size w w' := by
  have HFS := Lib.hid (fun w' => fewRanges_any a a1 n c n1 c1 g w' hs.small he.small)
  have HLE := Lib.hid (fun (v : World) (hv : Below w.heap.size w v) => rrangesErr_any s e a a1 n c n1 c1 g v (hs.below hv) (he.below hv))
  have hn := hs.small
  have hnx := hx.small
  have hl := hs.len
  have h6 : rngErr s e = 0 → n ≤ 6 := fun h => by have := (rngErr_zero h).2.2.1; omega
  generalize rngErr s e = E at *
  clear hs he hx hl
  obtain ⟨x, hx⟩ : ∃ x, x = (decide ((n : Int) ≤ 8) && decide ((n1 : Int) ≤ 8)) := ⟨_, rfl⟩
  rw [← hx] at HFS
  clear hx
  go_enter Try.func4, Try.ntmps4
  go_wp2_with fail
  refine (awake_any _).mono ?_
  rintro e5 w5 ⟨rfl, hb5⟩
  have hz5 := hb5.size
  simp only [World.size_alloc] at hz5
  have q0 : w5.cell? ⟨w.heap.size, 0, none⟩ = some (.slice (a) n c) := by { rw [cellB hb5 _ _ (by first | (simp; done) | (simp; omega) | omega)]; all_goals (first | assumption | go_simp) }; have q1 : w5.cell? ⟨w.heap.size, 1, none⟩ = some (.slice (a1) n1 c1) := by { rw [cellB hb5 _ _ (by first | (simp; done) | (simp; omega) | omega)]; all_goals (first | assumption | go_simp) }; have q2 : w5.cell? ⟨w.heap.size, 2, none⟩ = some (.bool g) := by { rw [cellB hb5 _ _ (by first | (simp; done) | (simp; omega) | omega)]; all_goals (first | assumption | go_simp) }; have l0 : w.heap.size < w5.heap.size := by { omega }
  have HB5 := Lib.hid (show Below w.heap.size w w5 by (repeat' (first | (with_reducible exact Below.refl _ _) | (with_reducible assumption) | (with_reducible refine Below.drewN ?_ _) | (with_reducible refine Below.alloc ?_ ?_ _) | (with_reducible refine Below.drew ?_) | (with_reducible refine Below.setCell ?_ ?_ _) | (with_reducible refine Below.step (by assumption) ?_ ?_) | (with_reducible exact And.left (by assumption)) | go_size)))
  clear hb5
  go_wp2_with fail
  refine (HFS.out _).mono ?_
  rintro e6 w6 ⟨rfl, hb6⟩
  have hz6 := hb6.size
  have q0c : w6.cell? ⟨w.heap.size, 0, none⟩ = some (.slice (a) n c) := by { rw [cellB hb6 _ _ (by first | (simp; done) | (simp; omega) | omega)]; all_goals (first | assumption | go_simp) }; have q1c : w6.cell? ⟨w.heap.size, 1, none⟩ = some (.slice (a1) n1 c1) := by { rw [cellB hb6 _ _ (by first | (simp; done) | (simp; omega) | omega)]; all_goals (first | assumption | go_simp) }; have q2c : w6.cell? ⟨w.heap.size, 2, none⟩ = some (.bool g) := by { rw [cellB hb6 _ _ (by first | (simp; done) | (simp; omega) | omega)]; all_goals (first | assumption | go_simp) }; have l0c : w.heap.size < w6.heap.size := by { omega }
  have HB6 := Lib.hid (HB5.out.trans (hb6.mono HB5.out.size))
  clear hb6 HB5 q0 q1 q2 l0
  cases x
  · clear h0 h6
    go_wp2
    go_ret
    exact ⟨rfl, HB6.out⟩
  · go_wp2_with fail
    refine (HLE.out _ HB6.out).mono ?_
    rintro e7 w7 ⟨rfl, hb7⟩
    have hz7 := hb7.size
    have q0 : w7.cell? ⟨w.heap.size, 0, none⟩ = some (.slice (a) n c) := by { rw [cellB hb7 _ _ (by first | (simp; done) | (simp; omega) | omega)]; all_goals (first | assumption | go_simp) }; have q1 : w7.cell? ⟨w.heap.size, 1, none⟩ = some (.slice (a1) n1 c1) := by { rw [cellB hb7 _ _ (by first | (simp; done) | (simp; omega) | omega)]; all_goals (first | assumption | go_simp) }; have q2 : w7.cell? ⟨w.heap.size, 2, none⟩ = some (.bool g) := by { rw [cellB hb7 _ _ (by first | (simp; done) | (simp; omega) | omega)]; all_goals (first | assumption | go_simp) }; have l0 : w.heap.size < w7.heap.size := by { omega }
    have HB7 := Lib.hid (HB6.out.trans (hb7.mono HB6.out.size))
    clear hb7 q0c q1c q2c l0c
    by_cases hE : E = 0
    · have hn6 := h6 hE
      have h0' : nx < 2 * n ∨ 20 < nx := by
        rcases h0 with h | h
        · exact absurd hE h
        · exact h
      subst hE
      clear h0 h6
      by_cases hlt : nx < 2 * n
      · have j1 : (nx : Int) < 2 * (n : Int) := by omega
        clear h0' hlt
        go_wp2
        go_ret
        exact ⟨rfl, HB7.out⟩
      · have j1 : ¬ (nx : Int) < 2 * (n : Int) := by omega
        have j2 : (20 : Int) < (nx : Int) := by omega
        clear h0' hlt
        go_wp2
        go_ret
        exact ⟨rfl, HB7.out⟩
    · have hE1 : (E != 0) = true := by simpa using hE
      clear hE h0 h6
      go_wp2
      go_ret
      exact ⟨rfl, HB7.out⟩

theorem frS_sz {p : Int × Int} (h : FrS p) : Sz 2 (Rat.divInt p.1 p.2) := sz_frac (by simp only [pw]; have := h.2.2.2; omega) (by have := h.1; omega) (by simp only [pw]; have := h.2.1; omega)
theorem frS_sz' {x y : Int} (h : FrS (x, y)) : Sz 2 (Rat.divInt x y) := by
  have h3 := frS_sz (p := (x, y)) h
  exact h3
theorem frS_sub {a b D : Rat} (ha : Sz 2 a) (hb : Sz 2 b) (h : D = a - b) : Sz 5 D := by
  rw [h]; exact (sz_sub ha hb).mono (by omega)
theorem cmp_no {a b : Rat} (h : a ≤ b) : decide (0 < (a.num * b.den - b.num * a.den).sign) = false := by
  rw [decide_eq_false_iff_not, (cmp_sign a b).2.1]
  intro h2; grind
set_option maxHeartbeats 8000000 in
set_option maxRecDepth 100000 in
theorem enc_main (s e : List (Int × Int)) (X : List Int) (a a1 ax : Option Addr) (n c c1 nx cx : Nat) (g : Bool) (w : World) (hs : PairsR w a n s) (he : PairsR w a1 n e) (hx : IntsR w ax nx X) (h0 : rngErr s e = 0) (hx0 : 2 * n ≤ nx) (hx1 : nx ≤ 20) (bX : ∀ k, -9223372036854775808 ≤ X.getD k 0 ∧ X.getD k 0 ≤ 9223372036854775807) :
    Calls Try.prog 4 #[.agg #[.slice a n c, .slice a1 n c1, .bool g], .slice ax nx cx] w fun e' w' => e' = .returned (.bool true) ∧ Below w.heap.size w w' := by
  obtain ⟨hl0, hel, h6, hbd⟩ := rngErr_zero h0
  have hsl := hs.len
  rw [hsl] at hl0 h6 hel hbd
  obtain ⟨L, hL⟩ : ∃ L : Nat, lastOf n g = L := by
    unfold lastOf
    split
    · exact ⟨n - 1, by omega⟩
    · exact ⟨n, rfl⟩
  have HFS := Lib.hid (fun w' => fewRanges_any a a1 n c n c1 g w' (by omega) (by omega))
  rw [show (decide ((n : Int) ≤ 8) && decide ((n : Int) ≤ 8)) = true by simp; omega] at HFS
  have HLE := Lib.hid (fun (v : World) (hv : Below w.heap.size w v) => rrangesErr_any s e a a1 n c n c1 g v (hs.below hv) (he.below hv))
  rw [h0] at HLE
  have HCS := Lib.hid (fun (v : World) (hv : Below w.heap.size w v) => copySpans_any s e a a1 n c n c1 g v (hs.below hv) (he.below hv) (by omega) (by omega))
  have HNS := Lib.hid (fun (v : World) (a3 a4 : Option Addr) (c3 c4 j : Nat) (hj : j ≤ n) (h1 : PairsR v a3 n s) (h2 : PairsR v a4 n e) => nodeSpan_ok s e a3 a4 n c3 n c4 L j g (j : Int) rfl v h1 h2 h0 hL hj)
  have HGS := Lib.hid (fun (v : World) (a3 a4 : Option Addr) (c3 c4 j : Nat) (hj : j < n) (h1 : PairsR v a3 n s) (h2 : PairsR v a4 n e) => gapSpan_ok s e a3 a4 n c3 n c4 L j g (j : Int) rfl v h1 h2 h0 hL hj)
  have HNE := Lib.hid (fun (j : Nat) (hj : j ≤ n) => node_enc (g := g) X h0 hsl hL j hj)
  have HGE := Lib.hid (fun (j : Nat) (hj : j < n) => gap_enc (g := g) X h0 hsl hL j hj)
  have HLD := Lib.hid (rng_pk (g := g) X h0 hsl hL)
  have HLE0 := Lib.hid (pk_err (g := g) X h0 hsl hL)
  have HLL := Lib.hid hL
  obtain ⟨bs, os, rfl, hbs, hcs⟩ := hs.addr hl0
  obtain ⟨be, oe, rfl, hbe, hce⟩ := he.addr hl0
  obtain ⟨bx, ox, rfl, hbx0, hcx⟩ := hx.addr (by omega)
  have HCC := Lib.hid (And.intro hcs (And.intro hce hcx))
  have HBD := Lib.hid hbd
  have HBX := Lib.hid bX
  clear hs he hx h0 hcs hce hcx hel hsl hL hbd bX
  go_enter Try.func4, Try.ntmps4
  go_wp2_with fail
  refine (awake_any _).mono ?_
  rintro e5 w5 ⟨rfl, hb5⟩
  have hz5 := hb5.size
  simp only [World.size_alloc] at hz5
  have q0 : w5.cell? ⟨w.heap.size, 0, none⟩ = some (.slice (some ⟨bs, os, none⟩) n c) := by { rw [cellB hb5 _ _ (by first | (simp; done) | (simp; omega) | omega)]; all_goals (first | assumption | go_simp) }; have q1 : w5.cell? ⟨w.heap.size, 1, none⟩ = some (.slice (some ⟨be, oe, none⟩) n c1) := by { rw [cellB hb5 _ _ (by first | (simp; done) | (simp; omega) | omega)]; all_goals (first | assumption | go_simp) }; have q2 : w5.cell? ⟨w.heap.size, 2, none⟩ = some (.bool g) := by { rw [cellB hb5 _ _ (by first | (simp; done) | (simp; omega) | omega)]; all_goals (first | assumption | go_simp) }; have l0 : w.heap.size < w5.heap.size := by { omega }
  have HBv := Lib.hid (show Below w.heap.size w w5 by (repeat' (first | (with_reducible exact Below.refl _ _) | (with_reducible assumption) | (with_reducible refine Below.drewN ?_ _) | (with_reducible refine Below.alloc ?_ ?_ _) | (with_reducible refine Below.drew ?_) | (with_reducible refine Below.setCell ?_ ?_ _) | (with_reducible refine Below.step (by assumption) ?_ ?_) | (with_reducible exact And.left (by assumption)) | go_size)))
  clear hb5 hz5
  go_wp2_with fail
  refine (HFS.out _).mono ?_
  rintro e6 w6 ⟨rfl, hbx⟩
  have hzx := hbx.size
  have q0c : w6.cell? ⟨w.heap.size, 0, none⟩ = some (.slice (some ⟨bs, os, none⟩) n c) := by { rw [cellB hbx _ _ (by first | (simp; done) | (simp; omega) | omega)]; all_goals (first | assumption | go_simp) }; have q1c : w6.cell? ⟨w.heap.size, 1, none⟩ = some (.slice (some ⟨be, oe, none⟩) n c1) := by { rw [cellB hbx _ _ (by first | (simp; done) | (simp; omega) | omega)]; all_goals (first | assumption | go_simp) }; have q2c : w6.cell? ⟨w.heap.size, 2, none⟩ = some (.bool g) := by { rw [cellB hbx _ _ (by first | (simp; done) | (simp; omega) | omega)]; all_goals (first | assumption | go_simp) }; have l0c : w.heap.size < w6.heap.size := by { omega }
  have HBv := Lib.hid (HBv.out.trans (hbx.mono HBv.out.size))
  clear hbx q0 q1 q2 l0
  go_wp2_with fail
  refine (HLE.out _ HBv.out).mono ?_
  rintro e7 w7 ⟨rfl, hbx⟩
  have hzy := hbx.size
  have q0 : w7.cell? ⟨w.heap.size, 0, none⟩ = some (.slice (some ⟨bs, os, none⟩) n c) := by { rw [cellB hbx _ _ (by first | (simp; done) | (simp; omega) | omega)]; all_goals (first | assumption | go_simp) }; have q1 : w7.cell? ⟨w.heap.size, 1, none⟩ = some (.slice (some ⟨be, oe, none⟩) n c1) := by { rw [cellB hbx _ _ (by first | (simp; done) | (simp; omega) | omega)]; all_goals (first | assumption | go_simp) }; have q2 : w7.cell? ⟨w.heap.size, 2, none⟩ = some (.bool g) := by { rw [cellB hbx _ _ (by first | (simp; done) | (simp; omega) | omega)]; all_goals (first | assumption | go_simp) }; have l0 : w.heap.size < w7.heap.size := by { omega }
  have HBv := Lib.hid (HBv.out.trans (hbx.mono HBv.out.size))
  have hzv := HBv.out.size
  clear hbx q0c q1c q2c l0c
  have j1 : ¬ (nx : Int) < 2 * (n : Int) := by omega
  have j2 : ¬ (20 : Int) < (nx : Int) := by omega
  go_wp2
  generalize hW : w7.alloc _ = w8
  have hb8 : Below w7.heap.size w7 w8 := by rw [← hW]; exact (Below.refl _ _).alloc (Nat.le_refl _) _
  obtain ⟨BL, hBL⟩ : ∃ B, B = w7.heap.size := ⟨_, rfl⟩
  have b0 : w8.cell? ⟨w7.heap.size, 0, none⟩ = some (.slice none 0 0) := by { rw [← hW]; clear hW; go_simp }
  have b1 : w8.cell? ⟨w7.heap.size, 1, none⟩ = some (.slice none 0 0) := by { rw [← hW]; clear hW; go_simp }
  have b2 : w8.cell? ⟨w7.heap.size, 2, none⟩ = some (.slice none 0 0) := by { rw [← hW]; clear hW; go_simp }
  have b3 : w8.cell? ⟨w7.heap.size, 3, none⟩ = some (.bool g) := by { rw [← hW]; clear hW; go_simp }
  have f0 : w8.frozen? ⟨w7.heap.size, 0, none⟩ = false := by { rw [← hW]; clear hW; go_simp }
  have f1 : w8.frozen? ⟨w7.heap.size, 1, none⟩ = false := by { rw [← hW]; clear hW; go_simp }
  have f2 : w8.frozen? ⟨w7.heap.size, 2, none⟩ = false := by { rw [← hW]; clear hW; go_simp }
  have hz8 : w8.heap.size = w7.heap.size + 1 := by rw [← hW]; simp
  rw [← hBL] at b0 b1 b2 b3 f0 f1 f2 hz8 ⊢
  have q0c : w8.cell? ⟨w.heap.size, 0, none⟩ = some (.slice (some ⟨bs, os, none⟩) n c) := by { rw [cellB hb8 _ _ (by first | (simp; done) | (simp; omega) | omega)]; all_goals (first | assumption | go_simp) }; have q1c : w8.cell? ⟨w.heap.size, 1, none⟩ = some (.slice (some ⟨be, oe, none⟩) n c1) := by { rw [cellB hb8 _ _ (by first | (simp; done) | (simp; omega) | omega)]; all_goals (first | assumption | go_simp) }; have q2c : w8.cell? ⟨w.heap.size, 2, none⟩ = some (.bool g) := by { rw [cellB hb8 _ _ (by first | (simp; done) | (simp; omega) | omega)]; all_goals (first | assumption | go_simp) }; have l0c : w.heap.size < w8.heap.size := by { omega }
  have HB8 := Lib.hid (HBv.out.trans (hb8.mono (by omega)))
  have hlB : w.heap.size < BL := by omega
  have hBw : BL < w8.heap.size := by omega
  have HBLE := Lib.hid (And.intro hBL hz8)
  clear hW hb8 q0 q1 q2 l0 HBv hBL hz8 hzv
  go_loopw [6] (fun i wr => ∃ (k : Nat) (av1 av2 av3 : Option Addr) (cv1 cv2 cv3 : Nat), i = .int .i64 k ∧ k ≤ n ∧ wr.cell? ⟨BL, 0, none⟩ = some (.slice av1 k cv1) ∧ wr.cell? ⟨BL, 1, none⟩ = some (.slice av2 k cv2) ∧ wr.cell? ⟨BL, 2, none⟩ = some (.slice av3 k cv3) ∧ wr.cell? ⟨BL, 3, none⟩ = some (.bool g) ∧ wr.frozen? ⟨BL, 0, none⟩ = false ∧ wr.frozen? ⟨BL, 1, none⟩ = false ∧ wr.frozen? ⟨BL, 2, none⟩ = false
    ∧ Hid (O3 wr (BL + 1) (.slice av1 k cv1) (.slice av2 k cv2) (.slice av3 k cv3) k k k (pkL s X 0 k) (pkL e X 1 k) (List.replicate k 1)) ∧ Hid (Below BL w8 wr) ∧ BL < wr.heap.size) (fun i _ => n - (intOf i).toNat)
  case atStart => exact ⟨0, none, none, none, 0, 0, 0, rfl, Nat.zero_le _, b0, b1, b2, b3, f0, f1, f2, Lib.hid (O3.nil _ _), Lib.hid (Below.refl _ _), hBw⟩
  case round =>
    clear b0 b1 b2 b3 f0 f1 f2
    obtain ⟨k, av1, av2, av3, cv1, cv2, cv3, rfl, hk, b0, b1, b2, b3, f0, f1, f2, hO, hB, lB⟩ := hrel
    obtain ⟨wh, rfl⟩ : ∃ w', w' = wr := ⟨wr, rfl⟩
    have hbh := hB.out
    have q0 : wh.cell? ⟨w.heap.size, 0, none⟩ = some (.slice (some ⟨bs, os, none⟩) n c) := by { rw [cellB hbh _ _ (by first | (simp; done) | (simp; omega) | omega)]; all_goals (first | assumption | go_simp) }; have q1 : wh.cell? ⟨w.heap.size, 1, none⟩ = some (.slice (some ⟨be, oe, none⟩) n c1) := by { rw [cellB hbh _ _ (by first | (simp; done) | (simp; omega) | omega)]; all_goals (first | assumption | go_simp) }; have q2 : wh.cell? ⟨w.heap.size, 2, none⟩ = some (.bool g) := by { rw [cellB hbh _ _ (by first | (simp; done) | (simp; omega) | omega)]; all_goals (first | assumption | go_simp) }; have l0 : w.heap.size < wh.heap.size := by { omega }
    have HBH := Lib.hid (HB8.out.trans (hbh.mono (by omega)))
    have HBb := Lib.hid hB.out
    have HO := Lib.hid hO.out
    have HOH := Lib.hid hO.out
    clear hbh hB hO q0c q1c q2c l0c
    rcases Nat.lt_or_ge k n with hlt | hge
    · as_aux_lemma =>
      obtain ⟨⟨x, y⟩, hxy⟩ : ∃ p, p = gr s k := ⟨_, rfl⟩
      obtain ⟨⟨z, t⟩, hzt⟩ : ∃ p, p = gr e k := ⟨_, rfl⟩
      obtain ⟨X0, hX0⟩ : ∃ x, x = X.getD (2 * k) 0 := ⟨_, rfl⟩
      obtain ⟨X1, hX1⟩ : ∃ x, x = X.getD (2 * k + 1) 0 := ⟨_, rfl⟩
      have hx := HCC.out.1 k hlt
      have hz := HCC.out.2.1 k hlt
      have hq0 := HCC.out.2.2 (2 * k) (by omega)
      have hq1 := HCC.out.2.2 (2 * k + 1) (by omega)
      have hlb0 : bs < wh.heap.size := by have := HBH.out.size; omega
      have hlb1 : be < wh.heap.size := by have := HBH.out.size; omega
      have hlb2 : bx < wh.heap.size := by have := HBH.out.size; omega
      have cx : wh.cell? ⟨bs, os + k * 2, none⟩ = some (.int .i64 x) := by rw [cellB HBH.out _ _ hbs, hx.1, show x = (gr s k).1 by rw [← hxy]]
      have cy : wh.cell? ⟨bs, os + k * 2 + 1, none⟩ = some (.int .i64 y) := by rw [cellB HBH.out _ _ hbs, hx.2, show y = (gr s k).2 by rw [← hxy]]
      have cz : wh.cell? ⟨be, oe + k * 2, none⟩ = some (.int .i64 z) := by rw [cellB HBH.out _ _ hbe, hz.1, show z = (gr e k).1 by rw [← hzt]]
      have ct : wh.cell? ⟨be, oe + k * 2 + 1, none⟩ = some (.int .i64 t) := by rw [cellB HBH.out _ _ hbe, hz.2, show t = (gr e k).2 by rw [← hzt]]
      have hC0 : wh.cell? ⟨bx, ox + 2 * k, none⟩ = some (.int .i64 X0) := by rw [cellB HBH.out _ _ hbx0, hX0]; exact hq0
      have hC1 : wh.cell? ⟨bx, ox + (2 * k + 1), none⟩ = some (.int .i64 X1) := by rw [cellB HBH.out _ _ hbx0, hX1]; exact hq1
      have hbds := HBD.out k hlt
      rw [← hxy, ← hzt] at hbds
      simp only at hbds
      have bX0 := HBX.out (2 * k)
      have bX1 := HBX.out (2 * k + 1)
      rw [← hX0] at bX0
      rw [← hX1] at bX1
      have HPS := Lib.hid (show pkS s X 0 k = x + X0 % (y - x + 1) by unfold pkS; rw [← hxy, hX0]; rfl)
      have HPE := Lib.hid (show pkS e X 1 k = z + X1 % (t - z + 1) by unfold pkS; rw [← hzt, hX1])
      have hm0 := Int.emod_nonneg X0 (show y - x + 1 ≠ 0 by omega)
      have hm1 := Int.emod_lt_of_pos X0 (show 0 < y - x + 1 by omega)
      have hm2 := Int.emod_nonneg X1 (show t - z + 1 ≠ 0 by omega)
      have hm3 := Int.emod_lt_of_pos X1 (show 0 < t - z + 1 by omega)
      have HM0 := Lib.hid (fun w' => mod_any X0 (y - x + 1) w' (by omega) (by omega) bX0.1 bX0.2)
      have HM1 := Lib.hid (fun w' => mod_any X1 (t - z + 1) w' (by omega) (by omega) bX1.1 bX1.2)
      generalize X0 % (y - x + 1) = m0 at *
      generalize X1 % (t - z + 1) = m1 at *
      have i0 : (0 : Int) ≤ (k : Int) := by omega
      have i1 : (k : Int) < (n : Int) := by omega
      have i2 : 2 * (k : Int) < (nx : Int) := by omega
      have i3 : 2 * (k : Int) + 1 < (nx : Int) := by omega
      have t2 : (2 * (k : Int)).toNat = 2 * k := by omega
      have t3 : (2 * (k : Int) + 1).toNat = 2 * k + 1 := by omega
      clear hx hz hxy hzt hX0 hX1 hq0 hq1
      go_wp2_with fail
      go_cut [7, 8] from 44 to 106 (fun v5 v6 wx => ∃ X5 X6 : Nat, v5 = .pointer (some ⟨X5, 0, none⟩) ∧ v6 = .pointer (some ⟨X6, 0, none⟩) ∧ wx.cell? ⟨X5, 0, none⟩ = some (.int .i64 x) ∧ wx.cell? ⟨X5, 1, none⟩ = some (.int .i64 y) ∧ wx.cell? ⟨X6, 0, none⟩ = some (.int .i64 z) ∧ wx.cell? ⟨X6, 1, none⟩ = some (.int .i64 t) ∧ X5 < wx.heap.size ∧ X6 < wx.heap.size ∧ wh.heap.size ≤ X5 ∧ wh.heap.size ≤ X6 ∧ Hid (Below wh.heap.size wh wx))
      case first =>
        refine wp_region_laterT (B := wh.heap.size) (.head 0 (.head 1 (.head 2 (.head 3 (.head 4 (.head 5 (.head 6 (.head 7 (.head 8 (.head 9 (.two 10 (.one 11 (.one 12 (.one 13 .done))) 11 (.one 10 (.one 12 (.one 13 .done)))))))))))))) (by kernel_rfl) (by kernel_rfl) ?_
        repeat (refine tree_head rfl ?_; (show wpQuiet _ _ _ _ (_ :: _) _; go_big_quiet_step (fail)); refine wpQuiet_nil ?_)
        refine tree_two rfl rfl ?_ ?_
        · go_wp2_with fail
          refine tailL_mk (by (repeat' (first | (with_reducible exact Below.refl _ _) | (with_reducible assumption) | (with_reducible refine Below.drewN ?_ _) | (with_reducible refine Below.alloc ?_ ?_ _) | (with_reducible refine Below.drew ?_) | (with_reducible refine Below.setCell ?_ ?_ _) | (with_reducible refine Below.step (by assumption) ?_ ?_) | (with_reducible exact And.left (by assumption)) | go_size))) ?_
          refine tree_one rfl ?_; go_wp2_with fail
          refine tailL_mk (by (repeat' (first | (with_reducible exact Below.refl _ _) | (with_reducible assumption) | (with_reducible refine Below.drewN ?_ _) | (with_reducible refine Below.alloc ?_ ?_ _) | (with_reducible refine Below.drew ?_) | (with_reducible refine Below.setCell ?_ ?_ _) | (with_reducible refine Below.step (by assumption) ?_ ?_) | (with_reducible exact And.left (by assumption)) | go_size))) ?_
          refine tree_one rfl ?_; go_wp2_with fail
          refine tailL_mk (by (repeat' (first | (with_reducible exact Below.refl _ _) | (with_reducible assumption) | (with_reducible refine Below.drewN ?_ _) | (with_reducible refine Below.alloc ?_ ?_ _) | (with_reducible refine Below.drew ?_) | (with_reducible refine Below.setCell ?_ ?_ _) | (with_reducible refine Below.step (by assumption) ?_ ?_) | (with_reducible exact And.left (by assumption)) | go_size))) ?_
          refine tree_one rfl ?_; go_wp2_with fail
          refine tailL_mk (by (repeat' (first | (with_reducible exact Below.refl _ _) | (with_reducible assumption) | (with_reducible refine Below.drewN ?_ _) | (with_reducible refine Below.alloc ?_ ?_ _) | (with_reducible refine Below.drew ?_) | (with_reducible refine Below.setCell ?_ ?_ _) | (with_reducible refine Below.step (by assumption) ?_ ?_) | (with_reducible exact And.left (by assumption)) | go_size))) ?_
          refine tree_done ?_
          go_wp2_with fail
          go_meet
          case rel => exact ⟨_, _, rfl, rfl, by go_simp, by go_simp, by go_simp, by go_simp, by simp; omega, by simp, by omega, by omega, Lib.hid (by (repeat' (first | (with_reducible exact Below.refl _ _) | (with_reducible assumption) | (with_reducible refine Below.drewN ?_ _) | (with_reducible refine Below.alloc ?_ ?_ _) | (with_reducible refine Below.drew ?_) | (with_reducible refine Below.setCell ?_ ?_ _) | (with_reducible refine Below.step (by assumption) ?_ ?_) | (with_reducible exact And.left (by assumption)) | go_size)))⟩
        · go_wp2_with fail
          refine tailL_mk (by (repeat' (first | (with_reducible exact Below.refl _ _) | (with_reducible assumption) | (with_reducible refine Below.drewN ?_ _) | (with_reducible refine Below.alloc ?_ ?_ _) | (with_reducible refine Below.drew ?_) | (with_reducible refine Below.setCell ?_ ?_ _) | (with_reducible refine Below.step (by assumption) ?_ ?_) | (with_reducible exact And.left (by assumption)) | go_size))) ?_
          refine tree_one rfl ?_; go_wp2_with fail
          refine tailL_mk (by (repeat' (first | (with_reducible exact Below.refl _ _) | (with_reducible assumption) | (with_reducible refine Below.drewN ?_ _) | (with_reducible refine Below.alloc ?_ ?_ _) | (with_reducible refine Below.drew ?_) | (with_reducible refine Below.setCell ?_ ?_ _) | (with_reducible refine Below.step (by assumption) ?_ ?_) | (with_reducible exact And.left (by assumption)) | go_size))) ?_
          refine tree_one rfl ?_; go_wp2_with fail
          refine tailL_mk (by (repeat' (first | (with_reducible exact Below.refl _ _) | (with_reducible assumption) | (with_reducible refine Below.drewN ?_ _) | (with_reducible refine Below.alloc ?_ ?_ _) | (with_reducible refine Below.drew ?_) | (with_reducible refine Below.setCell ?_ ?_ _) | (with_reducible refine Below.step (by assumption) ?_ ?_) | (with_reducible exact And.left (by assumption)) | go_size))) ?_
          refine tree_one rfl ?_; go_wp2_with fail
          refine tailL_mk (by (repeat' (first | (with_reducible exact Below.refl _ _) | (with_reducible assumption) | (with_reducible refine Below.drewN ?_ _) | (with_reducible refine Below.alloc ?_ ?_ _) | (with_reducible refine Below.drew ?_) | (with_reducible refine Below.setCell ?_ ?_ _) | (with_reducible refine Below.step (by assumption) ?_ ?_) | (with_reducible exact And.left (by assumption)) | go_size))) ?_
          refine tree_done ?_
          go_wp2_with fail
          go_meet
          case rel => exact ⟨_, _, rfl, rfl, by go_simp, by go_simp, by go_simp, by go_simp, by simp, by simp; omega, by omega, by omega, Lib.hid (by (repeat' (first | (with_reducible exact Below.refl _ _) | (with_reducible assumption) | (with_reducible refine Below.drewN ?_ _) | (with_reducible refine Below.alloc ?_ ?_ _) | (with_reducible refine Below.drew ?_) | (with_reducible refine Below.setCell ?_ ?_ _) | (with_reducible refine Below.step (by assumption) ?_ ?_) | (with_reducible exact And.left (by assumption)) | go_size)))⟩
      case rest =>
        obtain ⟨wd, rfl⟩ : ∃ w', w' = wc := ⟨wc, rfl⟩
        obtain ⟨X5, X6, rfl, rfl, x0, x1, y0, y1, l7, l8, m7, m8, hN⟩ := hcut
        have hbx := hN.out
        have hzx := hbx.size
        have hBX : BL < X6 := by omega
        have b0d : wd.cell? ⟨BL, 0, none⟩ = some (.slice av1 k cv1) := by { rw [cellB hbx _ _ (by first | (simp; done) | (simp; omega) | omega)]; all_goals (first | assumption | go_simp) }; have b1d : wd.cell? ⟨BL, 1, none⟩ = some (.slice av2 k cv2) := by { rw [cellB hbx _ _ (by first | (simp; done) | (simp; omega) | omega)]; all_goals (first | assumption | go_simp) }; have b2d : wd.cell? ⟨BL, 2, none⟩ = some (.slice av3 k cv3) := by { rw [cellB hbx _ _ (by first | (simp; done) | (simp; omega) | omega)]; all_goals (first | assumption | go_simp) }; have b3d : wd.cell? ⟨BL, 3, none⟩ = some (.bool g) := by { rw [cellB hbx _ _ (by first | (simp; done) | (simp; omega) | omega)]; all_goals (first | assumption | go_simp) }; have f0d : wd.frozen? ⟨BL, 0, none⟩ = false := by { rw [frozenB hbx _ _ (by first | (simp; done) | (simp; omega) | omega)]; all_goals (first | assumption | go_simp) }; have f1d : wd.frozen? ⟨BL, 1, none⟩ = false := by { rw [frozenB hbx _ _ (by first | (simp; done) | (simp; omega) | omega)]; all_goals (first | assumption | go_simp) }; have f2d : wd.frozen? ⟨BL, 2, none⟩ = false := by { rw [frozenB hbx _ _ (by first | (simp; done) | (simp; omega) | omega)]; all_goals (first | assumption | go_simp) }; have lBd : BL < wd.heap.size := by { omega }; have hC0d : wd.cell? ⟨bx, ox + 2 * k, none⟩ = some (.int .i64 X0) := by { rw [cellB hbx _ _ (by first | (simp; done) | (simp; omega) | omega)]; all_goals (first | assumption | go_simp) }; have hC1d : wd.cell? ⟨bx, ox + (2 * k + 1), none⟩ = some (.int .i64 X1) := by { rw [cellB hbx _ _ (by first | (simp; done) | (simp; omega) | omega)]; all_goals (first | assumption | go_simp) }; have hlb2d : bx < wd.heap.size := by { omega }
        have HO := Lib.hid (HO.out.below hbx)
        have HBb := Lib.hid (HBb.out.trans (hbx.mono (by omega)))
        clear hbx hN cx cy cz ct hC0 hC1 b0 b1 b2 b3 f0 f1 f2 lB q0 q1 q2 l0
        go_wp2_with fail
        refine wp_region_laterY (B := wd.heap.size) [0, 1, 2, 3, 4, 5, 6, 7, 8, 9, 10, 11, 12, 13, 14] [15, 16, 17] [18, 19, 20] (by kernel_rfl) (by kernel_rfl) ?_; simp only [List.filterMap_cons, List.filterMap_nil, List.getElem?_cons_zero, List.getElem?_cons_succ]; repeat (show wpQuiet _ _ _ _ (_ :: _) _; go_big_quiet_step (fail))
        refine wpQuiet_nil ?_
        refine tailY_cons ?_
        go_wp2_with fail
        refine (HM0.out _).mono ?_
        rintro ea wa ⟨rfl, rfl⟩
        go_wp2_with fail
        refine tailL_mk (by (repeat' (first | (with_reducible exact Below.refl _ _) | (with_reducible assumption) | (with_reducible refine Below.drewN ?_ _) | (with_reducible refine Below.alloc ?_ ?_ _) | (with_reducible refine Below.drew ?_) | (with_reducible refine Below.setCell ?_ ?_ _) | (with_reducible refine Below.step (by assumption) ?_ ?_) | (with_reducible exact And.left (by assumption)) | go_size))) ?_
        refine tailY_cons ?_
        go_wp2_with fail
        refine tailL_mk (by (repeat' (first | (with_reducible exact Below.refl _ _) | (with_reducible assumption) | (with_reducible refine Below.drewN ?_ _) | (with_reducible refine Below.alloc ?_ ?_ _) | (with_reducible refine Below.drew ?_) | (with_reducible refine Below.setCell ?_ ?_ _) | (with_reducible refine Below.step (by assumption) ?_ ?_) | (with_reducible exact And.left (by assumption)) | go_size))) ?_
        refine tailY_cons ?_
        go_wp2_with fail
        refine tailL_mk (by (repeat' (first | (with_reducible exact Below.refl _ _) | (with_reducible assumption) | (with_reducible refine Below.drewN ?_ _) | (with_reducible refine Below.alloc ?_ ?_ _) | (with_reducible refine Below.drew ?_) | (with_reducible refine Below.setCell ?_ ?_ _) | (with_reducible refine Below.step (by assumption) ?_ ?_) | (with_reducible exact And.left (by assumption)) | go_size))) ?_
        refine tailY_ends ?_
        refine ends_cons ?_
        generalize hW : World.drew _ = wA
        have hbA : Below wd.heap.size wd wA := by rw [← hW]; (repeat' (first | (with_reducible exact Below.refl _ _) | (with_reducible assumption) | (with_reducible refine Below.drewN ?_ _) | (with_reducible refine Below.alloc ?_ ?_ _) | (with_reducible refine Below.drew ?_) | (with_reducible refine Below.setCell ?_ ?_ _) | (with_reducible refine Below.step (by assumption) ?_ ?_) | (with_reducible exact And.left (by assumption)) | go_size))
        have cA : wA.cell? ⟨wd.heap.size, 0, none⟩ = some (.int .i64 (x + m0)) := by { rw [← hW]; clear hW; go_simp }
        have lA : wd.heap.size < wA.heap.size := by { rw [← hW]; clear hW; simp }
        have hzA := hbA.size
        have b0 : wA.cell? ⟨BL, 0, none⟩ = some (.slice av1 k cv1) := by { rw [cellB hbA _ _ (by first | (simp; done) | (simp; omega) | omega)]; all_goals (first | assumption | go_simp) }; have b1 : wA.cell? ⟨BL, 1, none⟩ = some (.slice av2 k cv2) := by { rw [cellB hbA _ _ (by first | (simp; done) | (simp; omega) | omega)]; all_goals (first | assumption | go_simp) }; have b2 : wA.cell? ⟨BL, 2, none⟩ = some (.slice av3 k cv3) := by { rw [cellB hbA _ _ (by first | (simp; done) | (simp; omega) | omega)]; all_goals (first | assumption | go_simp) }; have b3 : wA.cell? ⟨BL, 3, none⟩ = some (.bool g) := by { rw [cellB hbA _ _ (by first | (simp; done) | (simp; omega) | omega)]; all_goals (first | assumption | go_simp) }; have f0 : wA.frozen? ⟨BL, 0, none⟩ = false := by { rw [frozenB hbA _ _ (by first | (simp; done) | (simp; omega) | omega)]; all_goals (first | assumption | go_simp) }; have f1 : wA.frozen? ⟨BL, 1, none⟩ = false := by { rw [frozenB hbA _ _ (by first | (simp; done) | (simp; omega) | omega)]; all_goals (first | assumption | go_simp) }; have f2 : wA.frozen? ⟨BL, 2, none⟩ = false := by { rw [frozenB hbA _ _ (by first | (simp; done) | (simp; omega) | omega)]; all_goals (first | assumption | go_simp) }; have lB : BL < wA.heap.size := by { omega }; have hC1 : wA.cell? ⟨bx, ox + (2 * k + 1), none⟩ = some (.int .i64 X1) := by { rw [cellB hbA _ _ (by first | (simp; done) | (simp; omega) | omega)]; all_goals (first | assumption | go_simp) }; have hlbA : bx < wA.heap.size := by { omega }; have y0A : wA.cell? ⟨X6, 0, none⟩ = some (.int .i64 z) := by { rw [cellB hbA _ _ (by first | (simp; done) | (simp; omega) | omega)]; all_goals (first | assumption | go_simp) }; have y1A : wA.cell? ⟨X6, 1, none⟩ = some (.int .i64 t) := by { rw [cellB hbA _ _ (by first | (simp; done) | (simp; omega) | omega)]; all_goals (first | assumption | go_simp) }
        have HO := Lib.hid (HO.out.below hbA)
        have HBb := Lib.hid (HBb.out.trans (hbA.mono (by omega)))
        clear hW hbA b0d b1d b2d b3d f0d f1d f2d lBd hC0d hC1d hlb2d x0 x1 y0 y1
        go_wp2_with (at_builtin; refine wpList_append_one _ rfl _ _ rfl (BL + 1) k wd.heap.size (.slice av1 k cv1) _ (.int .i64 (x + m0)) rfl HO.out.o1 rfl cA rfl (by omega) (by omega) ?_)
        intro v9 w9 hown9 hgr9 hat9 hb9
        obtain ⟨av1', cv1', rfl, _, _⟩ := owns_slice hown9
        have hz9 := hb9.size
        have hX6 : ∀ q, (Value.slice av1 k cv1).ownBlock = some q → q < wh.heap.size := fun q hq => (HOH.out.o1.lt q hq).2
        have y0 := hgr9.cell y0A (fun h => by have := hX6 X6 h.symm; omega)
        have y1 := hgr9.cell y1A (fun h => by have := hX6 X6 h.symm; omega)
        have b0d : w9.cell? ⟨BL, 0, none⟩ = some (.slice av1 k cv1) := by { rw [cellB hb9 _ _ (by first | (simp; done) | (simp; omega) | omega)]; all_goals (first | assumption | go_simp) }; have b1d : w9.cell? ⟨BL, 1, none⟩ = some (.slice av2 k cv2) := by { rw [cellB hb9 _ _ (by first | (simp; done) | (simp; omega) | omega)]; all_goals (first | assumption | go_simp) }; have b2d : w9.cell? ⟨BL, 2, none⟩ = some (.slice av3 k cv3) := by { rw [cellB hb9 _ _ (by first | (simp; done) | (simp; omega) | omega)]; all_goals (first | assumption | go_simp) }; have b3d : w9.cell? ⟨BL, 3, none⟩ = some (.bool g) := by { rw [cellB hb9 _ _ (by first | (simp; done) | (simp; omega) | omega)]; all_goals (first | assumption | go_simp) }; have f0d : w9.frozen? ⟨BL, 0, none⟩ = false := by { rw [frozenB hb9 _ _ (by first | (simp; done) | (simp; omega) | omega)]; all_goals (first | assumption | go_simp) }; have f1d : w9.frozen? ⟨BL, 1, none⟩ = false := by { rw [frozenB hb9 _ _ (by first | (simp; done) | (simp; omega) | omega)]; all_goals (first | assumption | go_simp) }; have f2d : w9.frozen? ⟨BL, 2, none⟩ = false := by { rw [frozenB hb9 _ _ (by first | (simp; done) | (simp; omega) | omega)]; all_goals (first | assumption | go_simp) }; have lBd : BL < w9.heap.size := by { omega }; have hC1d : w9.cell? ⟨bx, ox + (2 * k + 1), none⟩ = some (.int .i64 X1) := by { rw [cellB hb9 _ _ (by first | (simp; done) | (simp; omega) | omega)]; all_goals (first | assumption | go_simp) }; have hlbd : bx < w9.heap.size := by { omega }; have lXd : X6 < w9.heap.size := by { omega }
        have HO := Lib.hid (HO.out.step hown9 hgr9 hat9).rot
        rw [← HPS.out, ← pkL_snoc] at HO
        have HBb := Lib.hid (HBb.out.trans (hb9.mono (by omega)))
        clear hown9 hgr9 hat9 hb9 b0 b1 b2 b3 f0 f1 f2 lB hC1 hlbA y0A y1A cA hX6
        refine tailZ_end ?_
        refine ends_cons ?_
        go_wp2_with fail
        refine tailZ_end ?_
        refine ends_cons ?_
        go_wp2_with fail
        refine tailZ_end ?_
        refine ends_nil ?_
        generalize hW : World.setCell _ _ _ = wB
        have b0 : wB.cell? ⟨BL, 0, none⟩ = some (.slice av1' (k + 1) cv1') := by { rw [← hW]; clear hW; go_simp }
        have b1 : wB.cell? ⟨BL, 1, none⟩ = some (.slice av2 k cv2) := by { rw [← hW]; clear hW; go_simp }
        have b2 : wB.cell? ⟨BL, 2, none⟩ = some (.slice av3 k cv3) := by { rw [← hW]; clear hW; go_simp }
        have b3 : wB.cell? ⟨BL, 3, none⟩ = some (.bool g) := by { rw [← hW]; clear hW; go_simp }
        have f0 : wB.frozen? ⟨BL, 0, none⟩ = false := by { rw [← hW]; clear hW; go_simp }
        have f1 : wB.frozen? ⟨BL, 1, none⟩ = false := by { rw [← hW]; clear hW; go_simp }
        have f2 : wB.frozen? ⟨BL, 2, none⟩ = false := by { rw [← hW]; clear hW; go_simp }
        have e0 : wB.cell? ⟨X6, 0, none⟩ = some (.int .i64 z) := by rw [← hW, World.cell?_setCell_other _ ⟨BL, 0, none⟩ ⟨X6, 0, none⟩ _ (by first | (simp; done) | (simp; omega))]; exact y0
        have e1 : wB.cell? ⟨X6, 1, none⟩ = some (.int .i64 t) := by rw [← hW, World.cell?_setCell_other _ ⟨BL, 0, none⟩ ⟨X6, 1, none⟩ _ (by first | (simp; done) | (simp; omega))]; exact y1
        have hC1 : wB.cell? ⟨bx, ox + (2 * k + 1), none⟩ = some (.int .i64 X1) := by rw [← hW, World.cell?_setCell_other _ ⟨BL, 0, none⟩ ⟨bx, ox + (2 * k + 1), none⟩ _ (by first | (simp; done) | (simp; omega))]; exact hC1d
        have hzB : wB.heap.size = w9.heap.size := by rw [← hW]; simp
        have HO := Lib.hid (show O3 wB (BL + 1) _ _ _ _ _ _ _ _ _ by rw [← hW]; exact HO.out.set (by omega) _)
        have HBb := Lib.hid (show Below BL w8 wB by rw [← hW]; exact HBb.out.setCell (by simp) _)
        have lB : BL < wB.heap.size := by omega
        have hlbB : bx < wB.heap.size := by omega
        have lX : X6 < wB.heap.size := by omega
        have hzB' : w9.heap.size ≤ wB.heap.size := by omega
        clear hW b0d b1d b2d b3d f0d f1d f2d lBd hC1d hlbd lXd y0 y1 hzB
        go_wp2_with fail
        refine wp_region_laterY (B := wB.heap.size) [0, 1, 2, 3, 4, 5, 6, 7, 8, 9, 10, 11, 12, 13, 14, 15] [16, 17, 18] [19, 20, 21] (by kernel_rfl) (by kernel_rfl) ?_; simp only [List.filterMap_cons, List.filterMap_nil, List.getElem?_cons_zero, List.getElem?_cons_succ]; repeat (show wpQuiet _ _ _ _ (_ :: _) _; go_big_quiet_step (fail))
        refine wpQuiet_nil ?_
        refine tailY_cons ?_
        go_wp2_with fail
        refine (HM1.out _).mono ?_
        rintro ea wa ⟨rfl, rfl⟩
        go_wp2_with fail
        refine tailL_mk (by (repeat' (first | (with_reducible exact Below.refl _ _) | (with_reducible assumption) | (with_reducible refine Below.drewN ?_ _) | (with_reducible refine Below.alloc ?_ ?_ _) | (with_reducible refine Below.drew ?_) | (with_reducible refine Below.setCell ?_ ?_ _) | (with_reducible refine Below.step (by assumption) ?_ ?_) | (with_reducible exact And.left (by assumption)) | go_size))) ?_
        refine tailY_cons ?_
        go_wp2_with fail
        refine tailL_mk (by (repeat' (first | (with_reducible exact Below.refl _ _) | (with_reducible assumption) | (with_reducible refine Below.drewN ?_ _) | (with_reducible refine Below.alloc ?_ ?_ _) | (with_reducible refine Below.drew ?_) | (with_reducible refine Below.setCell ?_ ?_ _) | (with_reducible refine Below.step (by assumption) ?_ ?_) | (with_reducible exact And.left (by assumption)) | go_size))) ?_
        refine tailY_cons ?_
        go_wp2_with fail
        refine tailL_mk (by (repeat' (first | (with_reducible exact Below.refl _ _) | (with_reducible assumption) | (with_reducible refine Below.drewN ?_ _) | (with_reducible refine Below.alloc ?_ ?_ _) | (with_reducible refine Below.drew ?_) | (with_reducible refine Below.setCell ?_ ?_ _) | (with_reducible refine Below.step (by assumption) ?_ ?_) | (with_reducible exact And.left (by assumption)) | go_size))) ?_
        refine tailY_ends ?_
        refine ends_cons ?_
        generalize hW : World.drew _ = wC
        have hbC : Below wB.heap.size wB wC := by rw [← hW]; (repeat' (first | (with_reducible exact Below.refl _ _) | (with_reducible assumption) | (with_reducible refine Below.drewN ?_ _) | (with_reducible refine Below.alloc ?_ ?_ _) | (with_reducible refine Below.drew ?_) | (with_reducible refine Below.setCell ?_ ?_ _) | (with_reducible refine Below.step (by assumption) ?_ ?_) | (with_reducible exact And.left (by assumption)) | go_size))
        have cC : wC.cell? ⟨wB.heap.size, 0, none⟩ = some (.int .i64 (z + m1)) := by { rw [← hW]; clear hW; go_simp }
        have lC : wB.heap.size < wC.heap.size := by { rw [← hW]; clear hW; simp }
        have b0c : wC.cell? ⟨BL, 0, none⟩ = some (.slice av1' (k + 1) cv1') := by { rw [cellB hbC _ _ (by first | (simp; done) | (simp; omega) | omega)]; all_goals (first | assumption | go_simp) }; have b1c : wC.cell? ⟨BL, 1, none⟩ = some (.slice av2 k cv2) := by { rw [cellB hbC _ _ (by first | (simp; done) | (simp; omega) | omega)]; all_goals (first | assumption | go_simp) }; have b2c : wC.cell? ⟨BL, 2, none⟩ = some (.slice av3 k cv3) := by { rw [cellB hbC _ _ (by first | (simp; done) | (simp; omega) | omega)]; all_goals (first | assumption | go_simp) }; have b3c : wC.cell? ⟨BL, 3, none⟩ = some (.bool g) := by { rw [cellB hbC _ _ (by first | (simp; done) | (simp; omega) | omega)]; all_goals (first | assumption | go_simp) }; have f0c : wC.frozen? ⟨BL, 0, none⟩ = false := by { rw [frozenB hbC _ _ (by first | (simp; done) | (simp; omega) | omega)]; all_goals (first | assumption | go_simp) }; have f1c : wC.frozen? ⟨BL, 1, none⟩ = false := by { rw [frozenB hbC _ _ (by first | (simp; done) | (simp; omega) | omega)]; all_goals (first | assumption | go_simp) }; have f2c : wC.frozen? ⟨BL, 2, none⟩ = false := by { rw [frozenB hbC _ _ (by first | (simp; done) | (simp; omega) | omega)]; all_goals (first | assumption | go_simp) }; have lBc : BL < wC.heap.size := by { omega }
        have HO := Lib.hid (HO.out.below hbC)
        have HBb := Lib.hid (HBb.out.trans (hbC.mono (by omega)))
        clear hW hbC b0 b1 b2 b3 f0 f1 f2 lB hC1 hlbB e0 e1
        go_wp2_with (at_builtin; refine wpList_append_one _ rfl _ _ rfl (BL + 1) k wB.heap.size (.slice av2 k cv2) _ (.int .i64 (z + m1)) rfl HO.out.o1 rfl cC rfl (by omega) (by omega) ?_)
        intro v10 w10 hown10 hgr10 hat10 hb10
        obtain ⟨av2', cv2', rfl, _, _⟩ := owns_slice hown10
        have hz10 := hb10.size
        have b0 : w10.cell? ⟨BL, 0, none⟩ = some (.slice av1' (k + 1) cv1') := by { rw [cellB hb10 _ _ (by first | (simp; done) | (simp; omega) | omega)]; all_goals (first | assumption | go_simp) }; have b1 : w10.cell? ⟨BL, 1, none⟩ = some (.slice av2 k cv2) := by { rw [cellB hb10 _ _ (by first | (simp; done) | (simp; omega) | omega)]; all_goals (first | assumption | go_simp) }; have b2 : w10.cell? ⟨BL, 2, none⟩ = some (.slice av3 k cv3) := by { rw [cellB hb10 _ _ (by first | (simp; done) | (simp; omega) | omega)]; all_goals (first | assumption | go_simp) }; have b3 : w10.cell? ⟨BL, 3, none⟩ = some (.bool g) := by { rw [cellB hb10 _ _ (by first | (simp; done) | (simp; omega) | omega)]; all_goals (first | assumption | go_simp) }; have f0 : w10.frozen? ⟨BL, 0, none⟩ = false := by { rw [frozenB hb10 _ _ (by first | (simp; done) | (simp; omega) | omega)]; all_goals (first | assumption | go_simp) }; have f1 : w10.frozen? ⟨BL, 1, none⟩ = false := by { rw [frozenB hb10 _ _ (by first | (simp; done) | (simp; omega) | omega)]; all_goals (first | assumption | go_simp) }; have f2 : w10.frozen? ⟨BL, 2, none⟩ = false := by { rw [frozenB hb10 _ _ (by first | (simp; done) | (simp; omega) | omega)]; all_goals (first | assumption | go_simp) }; have lB : BL < w10.heap.size := by { omega }
        have HO := Lib.hid (HO.out.step hown10 hgr10 hat10).rot
        rw [← HPE.out, ← pkL_snoc] at HO
        have HBb := Lib.hid (HBb.out.trans (hb10.mono (by omega)))
        clear hown10 hgr10 hat10 hb10 b0c b1c b2c b3c f0c f1c f2c lBc cC
        refine tailZ_end ?_
        refine ends_cons ?_
        go_wp2_with fail
        refine tailZ_end ?_
        refine ends_cons ?_
        go_wp2_with fail
        refine tailZ_end ?_
        refine ends_nil ?_
        generalize hW : World.setCell _ _ _ = wD
        have b0d : wD.cell? ⟨BL, 0, none⟩ = some (.slice av1' (k + 1) cv1') := by { rw [← hW]; clear hW; go_simp }
        have b1d : wD.cell? ⟨BL, 1, none⟩ = some (.slice av2' (k + 1) cv2') := by { rw [← hW]; clear hW; go_simp }
        have b2d : wD.cell? ⟨BL, 2, none⟩ = some (.slice av3 k cv3) := by { rw [← hW]; clear hW; go_simp }
        have b3d : wD.cell? ⟨BL, 3, none⟩ = some (.bool g) := by { rw [← hW]; clear hW; go_simp }
        have f0d : wD.frozen? ⟨BL, 0, none⟩ = false := by { rw [← hW]; clear hW; go_simp }
        have f1d : wD.frozen? ⟨BL, 1, none⟩ = false := by { rw [← hW]; clear hW; go_simp }
        have f2d : wD.frozen? ⟨BL, 2, none⟩ = false := by { rw [← hW]; clear hW; go_simp }
        have HO := Lib.hid (show O3 wD (BL + 1) _ _ _ _ _ _ _ _ _ by rw [← hW]; exact HO.out.set (by omega) _)
        have HBb := Lib.hid (show Below BL w8 wD by rw [← hW]; exact HBb.out.setCell (by simp) _)
        have lBd : BL < wD.heap.size := by { rw [← hW]; clear hW; simp; omega }
        clear hW b0 b1 b2 b3 f0 f1 f2 lB
        go_wp2_with (at_builtin; refine wpList_append_one _ rfl _ _ rfl (BL + 1) k wD.heap.size (.slice av3 k cv3) _ (.int .i64 1) rfl (HO.out.below ((Below.refl _ _).alloc (Nat.le_refl _) _)).o1 rfl (by go_simp) rfl (by omega) (by simp; omega) ?_)
        intro v11 w11 hown11 hgr11 hat11 hb11
        obtain ⟨av3', cv3', rfl, _, _⟩ := owns_slice hown11
        have hb11' : Below (BL + 1) wD w11 := ((Below.refl _ _).alloc (by omega) _).trans hb11
        have hz11 := hb11'.size
        have b0 : w11.cell? ⟨BL, 0, none⟩ = some (.slice av1' (k + 1) cv1') := by { rw [cellB hb11' _ _ (by first | (simp; done) | (simp; omega) | omega)]; all_goals (first | assumption | go_simp) }; have b1 : w11.cell? ⟨BL, 1, none⟩ = some (.slice av2' (k + 1) cv2') := by { rw [cellB hb11' _ _ (by first | (simp; done) | (simp; omega) | omega)]; all_goals (first | assumption | go_simp) }; have b2 : w11.cell? ⟨BL, 2, none⟩ = some (.slice av3 k cv3) := by { rw [cellB hb11' _ _ (by first | (simp; done) | (simp; omega) | omega)]; all_goals (first | assumption | go_simp) }; have b3 : w11.cell? ⟨BL, 3, none⟩ = some (.bool g) := by { rw [cellB hb11' _ _ (by first | (simp; done) | (simp; omega) | omega)]; all_goals (first | assumption | go_simp) }; have f0 : w11.frozen? ⟨BL, 0, none⟩ = false := by { rw [frozenB hb11' _ _ (by first | (simp; done) | (simp; omega) | omega)]; all_goals (first | assumption | go_simp) }; have f1 : w11.frozen? ⟨BL, 1, none⟩ = false := by { rw [frozenB hb11' _ _ (by first | (simp; done) | (simp; omega) | omega)]; all_goals (first | assumption | go_simp) }; have f2 : w11.frozen? ⟨BL, 2, none⟩ = false := by { rw [frozenB hb11' _ _ (by first | (simp; done) | (simp; omega) | omega)]; all_goals (first | assumption | go_simp) }; have lB : BL < w11.heap.size := by { omega }
        have HO := Lib.hid ((HO.out.below ((Below.refl _ _).alloc (Nat.le_refl _) _)).step hown11 hgr11 (by rw [World.size_alloc]; exact hat11)).rot
        rw [show List.replicate k (1 : Int) ++ [1] = List.replicate (k + 1) 1 from List.replicate_succ'.symm] at HO
        have HBb := Lib.hid (HBb.out.trans (hb11'.mono (by omega)))
        clear hown11 hgr11 hat11 hb11 hb11' b0d b1d b2d b3d f0d f1d f2d lBd
        go_wp2_with fail
        go_roundw
        case rel =>
          refine ⟨k + 1, av1', av2', av3', cv1', cv2', cv3', by go_num, by omega, ?_, ?_, ?_, ?_, ?_, ?_, ?_, Lib.hid (HO.out.set (by omega) _), Lib.hid (HBb.out.setCell (by simp) _), by simp; omega⟩
          all_goals go_simp
        case measure => simp [intOf]; omega
    · as_aux_lemma =>
      obtain rfl : n = k := by omega
      have HR1 := Lib.hid (copyLadder_any (pkL s X 0 n) (pkL e X 1 n) (List.replicate n 1) av1 av2 av3 n cv1 n cv2 n cv3 g wh (SlR.of_owns HO.out.o1) (SlR.of_owns HO.out.o2) (SlR.of_owns HO.out.o3) (by omega) (by omega) (by omega))
      go_wp2_with fail
      refine HR1.out.mono ?_
      rintro e9 w9 ⟨a3, c3, a4, c4, a5, c5, rfl, hbx, hi1, hi2, hi3⟩
      have HI := Lib.hid (initialOf_ok (pkL s X 0 n) (pkL e X 1 n) (List.replicate n 1) a3 a4 a5 n c3 n c4 n c5 L g w9 hi1 hi2 hi3 HLE0.out HLL.out)
      clear hi1 hi2 hi3
      have hzx := hbx.size
      have q0c : w9.cell? ⟨w.heap.size, 0, none⟩ = some (.slice (some ⟨bs, os, none⟩) n c) := by { rw [cellB hbx _ _ (by first | (simp; done) | (simp; omega) | omega)]; all_goals (first | assumption | go_simp) }; have q1c : w9.cell? ⟨w.heap.size, 1, none⟩ = some (.slice (some ⟨be, oe, none⟩) n c1) := by { rw [cellB hbx _ _ (by first | (simp; done) | (simp; omega) | omega)]; all_goals (first | assumption | go_simp) }; have q2c : w9.cell? ⟨w.heap.size, 2, none⟩ = some (.bool g) := by { rw [cellB hbx _ _ (by first | (simp; done) | (simp; omega) | omega)]; all_goals (first | assumption | go_simp) }; have l0c : w.heap.size < w9.heap.size := by { omega }
      have HBv := Lib.hid (HBH.out.trans (hbx.mono HBH.out.size))
      clear hbx b0 b1 b2 b3 f0 f1 f2 HO HOH HR1 q0 q1 q2 l0 HBH HBb
      go_wp2_with fail
      refine HI.out.mono ?_
      rintro e10 w10 ⟨hbx, hfr⟩
      have HFR := Lib.hid hfr
      clear hfr HI
      have hzy := hbx.size
      have q0 : w10.cell? ⟨w.heap.size, 0, none⟩ = some (.slice (some ⟨bs, os, none⟩) n c) := by { rw [cellB hbx _ _ (by first | (simp; done) | (simp; omega) | omega)]; all_goals (first | assumption | go_simp) }; have q1 : w10.cell? ⟨w.heap.size, 1, none⟩ = some (.slice (some ⟨be, oe, none⟩) n c1) := by { rw [cellB hbx _ _ (by first | (simp; done) | (simp; omega) | omega)]; all_goals (first | assumption | go_simp) }; have q2 : w10.cell? ⟨w.heap.size, 2, none⟩ = some (.bool g) := by { rw [cellB hbx _ _ (by first | (simp; done) | (simp; omega) | omega)]; all_goals (first | assumption | go_simp) }; have l0 : w.heap.size < w10.heap.size := by { omega }
      have HBv := Lib.hid (HBv.out.trans (hbx.mono HBv.out.size))
      clear hbx q0c q1c q2c l0c
      rcases HFR.out with ⟨_, rfl⟩ | ⟨hsm, au, cu, rfl, hu⟩
      · go_wp2
        go_ret
        exact ⟨rfl, HBv.out⟩
      · have HUF := Lib.hid (fun (j : Nat) (hj : j ≤ n) => show gp (initOf (pkL s X 0 n) (pkL e X 1 n) n L) j = uFr (pkL s X 0 n) (pkL e X 1 n) L j ∧ FrS (uFr (pkL s X 0 n) (pkL e X 1 n) L j) by
          have h1 := init_gp (s := pkL s X 0 n) (e := pkL e X 1 n) (L := L) (j := j) (show j < n + 1 by omega)
          refine ⟨h1, frS_low HLD.out.D ?_⟩
          rw [← h1]
          have h2 : gp (initOf (pkL s X 0 n) (pkL e X 1 n) n L) j ∈ initOf (pkL s X 0 n) (pkL e X 1 n) n L := by
            have hlt : j < (initOf (pkL s X 0 n) (pkL e X 1 n) n L).length := by rw [init_len]; omega
            unfold gp
            rw [List.getD_eq_getElem?_getD, List.getElem?_eq_getElem hlt]; simp
          rw [List.any_eq_false] at hsm
          have h3 := hsm _ h2
          simpa using h3)
        obtain ⟨bu, ou, rfl, hbu, hcu⟩ := hu.addr (by omega)
        have HCU := Lib.hid hcu
        clear hsm HFR hu hcu
        have HBw := Lib.hid (Below.refl w10.heap.size w10)
        have i0 : (0 : Int) < (n : Int) + 1 := by omega
        have hnn : ((n : Int) + 1 != (n : Int) + 1) = false := by simp
        go_wp2_with fail
        go_loopw [11] (fun i wr => ∃ j : Nat, i = .int .i64 j ∧ j ≤ n + 1 ∧ Hid (Below w10.heap.size w10 wr)) (fun i _ => n + 1 - (intOf i).toNat)
        case atStart => exact ⟨0, rfl, Nat.zero_le _, HBw⟩
        case round =>
          obtain ⟨j, rfl, hj, hB⟩ := hrel
          obtain ⟨wl, rfl⟩ : ∃ w', w' = wr := ⟨wr, rfl⟩
          have hbx := hB.out
          have hzl := hbx.size
          have q0h : wl.cell? ⟨w.heap.size, 0, none⟩ = some (.slice (some ⟨bs, os, none⟩) n c) := by { rw [cellB hbx _ _ (by first | (simp; done) | (simp; omega) | omega)]; all_goals (first | assumption | go_simp) }; have q1h : wl.cell? ⟨w.heap.size, 1, none⟩ = some (.slice (some ⟨be, oe, none⟩) n c1) := by { rw [cellB hbx _ _ (by first | (simp; done) | (simp; omega) | omega)]; all_goals (first | assumption | go_simp) }; have q2h : wl.cell? ⟨w.heap.size, 2, none⟩ = some (.bool g) := by { rw [cellB hbx _ _ (by first | (simp; done) | (simp; omega) | omega)]; all_goals (first | assumption | go_simp) }; have l0h : w.heap.size < wl.heap.size := by { omega }
          have lu : bu < wl.heap.size := by omega
          have HBv := Lib.hid (HBv.out.trans (hbx.mono HBv.out.size))
          have HBw := Lib.hid hB.out
          clear hbx hB q0 q1 q2 l0
          rcases Nat.lt_or_ge j (n + 1) with hjn | hjn
          · obtain ⟨⟨P1, Q1⟩, hPQ⟩ : ∃ p, p = uFr (pkL s X 0 n) (pkL e X 1 n) L j := ⟨_, rfl⟩
            have hFj := HUF.out j (by omega)
            rw [← hPQ] at hFj
            have hcj := HCU.out j hjn
            change _ = some (Value.int .i64 (gp (initOf (pkL s X 0 n) (pkL e X 1 n) n L) j).1) ∧ _ = some (Value.int .i64 (gp (initOf (pkL s X 0 n) (pkL e X 1 n) n L) j).2) at hcj
            rw [hFj.1] at hcj
            have cP : wl.cell? ⟨bu, ou + j * 2, none⟩ = some (.int .i64 P1) := by rw [cellB HBw.out _ _ hbu]; exact hcj.1
            have cQ : wl.cell? ⟨bu, ou + j * 2 + 1, none⟩ = some (.int .i64 Q1) := by rw [cellB HBw.out _ _ hbu]; exact hcj.2
            have HIL := Lib.hid (fun w' => show Calls Try.prog 23 #[.agg #[.int .i64 P1, .int .i64 Q1]] w' fun e' w'' => e' = .returned (.bool true) ∧ Below w'.heap.size w' w'' from lowS_any hFj.2 w')
            have HIS := Lib.hid (fun w' => show Calls Try.prog 24 #[.agg #[.int .i64 P1, .int .i64 Q1]] w' fun e' w'' => e' = .returned (.bool true) ∧ Below w'.heap.size w' w'' from smallS_any hFj.2 w')
            have hne := HNE.out j (by omega)
            rw [← hPQ] at hne
            have HPQ := Lib.hid (And.intro hPQ hFj.2)
            have HNS1 := Lib.hid (fun (v : World) (a3 a4 : Option Addr) (c3 c4 : Nat) (h1 : PairsR v a3 n s) (h2 : PairsR v a4 n e) => HNS.out v a3 a4 c3 c4 j (by omega) h1 h2)
            obtain ⟨⟨p0, q0⟩, hf0⟩ : ∃ f, f = nodeFr s e n L j false := ⟨_, rfl⟩
            obtain ⟨⟨p1, q1⟩, hf1⟩ : ∃ f, f = nodeFr s e n L j true := ⟨_, rfl⟩
            have hd0 := hne.2.2.2 false
            have hd1 := hne.2.2.2 true
            rw [← hf0] at hne HNS1 hd0
            rw [← hf1] at hne HNS1 hd1
            simp only at hne HNS1 hd0 hd1
            have j0 : (0 : Int) ≤ (j : Int) := by omega
            have j1' : (j : Int) < (n : Int) + 1 := by omega
            have HNEJ := Lib.hid (And.intro hne (And.intro hd0 hd1))
            clear hPQ hFj hcj hne hf0 hf1 hd0 hd1
            go_wp2_with fail
            refine (HIL.out _).mono ?_
            rintro ea wa ⟨rfl, hbx⟩
            have hzx := hbx.size
            have q0a : wa.cell? ⟨w.heap.size, 0, none⟩ = some (.slice (some ⟨bs, os, none⟩) n c) := by { rw [cellB hbx _ _ (by first | (simp; done) | (simp; omega) | omega)]; all_goals (first | assumption | go_simp) }; have q1a : wa.cell? ⟨w.heap.size, 1, none⟩ = some (.slice (some ⟨be, oe, none⟩) n c1) := by { rw [cellB hbx _ _ (by first | (simp; done) | (simp; omega) | omega)]; all_goals (first | assumption | go_simp) }; have q2a : wa.cell? ⟨w.heap.size, 2, none⟩ = some (.bool g) := by { rw [cellB hbx _ _ (by first | (simp; done) | (simp; omega) | omega)]; all_goals (first | assumption | go_simp) }; have l0a : w.heap.size < wa.heap.size := by { omega }; have lua : bu < wa.heap.size := by { omega }; have cPa : wa.cell? ⟨bu, ou + j * 2, none⟩ = some (.int .i64 P1) := by { rw [cellB hbx _ _ (by first | (simp; done) | (simp; omega) | omega)]; all_goals (first | assumption | go_simp) }; have cQa : wa.cell? ⟨bu, ou + j * 2 + 1, none⟩ = some (.int .i64 Q1) := by { rw [cellB hbx _ _ (by first | (simp; done) | (simp; omega) | omega)]; all_goals (first | assumption | go_simp) }
            have HBv := Lib.hid (HBv.out.trans (hbx.mono HBv.out.size))
            have HBw := Lib.hid (HBw.out.trans (hbx.mono HBw.out.size))
            clear hbx cP cQ q0h q1h q2h l0h lu
            go_wp2_with fail
            refine (HIS.out _).mono ?_
            rintro eb wb ⟨rfl, hbx⟩
            have hzx := hbx.size
            have q0b : wb.cell? ⟨w.heap.size, 0, none⟩ = some (.slice (some ⟨bs, os, none⟩) n c) := by { rw [cellB hbx _ _ (by first | (simp; done) | (simp; omega) | omega)]; all_goals (first | assumption | go_simp) }; have q1b : wb.cell? ⟨w.heap.size, 1, none⟩ = some (.slice (some ⟨be, oe, none⟩) n c1) := by { rw [cellB hbx _ _ (by first | (simp; done) | (simp; omega) | omega)]; all_goals (first | assumption | go_simp) }; have q2b : wb.cell? ⟨w.heap.size, 2, none⟩ = some (.bool g) := by { rw [cellB hbx _ _ (by first | (simp; done) | (simp; omega) | omega)]; all_goals (first | assumption | go_simp) }; have l0b : w.heap.size < wb.heap.size := by { omega }; have lub : bu < wb.heap.size := by { omega }; have cPb : wb.cell? ⟨bu, ou + j * 2, none⟩ = some (.int .i64 P1) := by { rw [cellB hbx _ _ (by first | (simp; done) | (simp; omega) | omega)]; all_goals (first | assumption | go_simp) }; have cQb : wb.cell? ⟨bu, ou + j * 2 + 1, none⟩ = some (.int .i64 Q1) := by { rw [cellB hbx _ _ (by first | (simp; done) | (simp; omega) | omega)]; all_goals (first | assumption | go_simp) }
            have HBv := Lib.hid (HBv.out.trans (hbx.mono HBv.out.size))
            have HBw := Lib.hid (HBw.out.trans (hbx.mono HBw.out.size))
            clear hbx q0a q1a q2a l0a lua cPa cQa
            have hub := HBv.out.size
            go_upto_region 23 with fail
            go_cut [12, 13] from 129 to 243 (fun v12 v13 wx => ∃ (X12 : Nat) (k0 k1 k2 k3 E : Int), v12 = .pointer (some ⟨X12, 0, none⟩) ∧ v13 = .int .i64 E ∧ wx.cell? ⟨X12, 0, none⟩ = some (.int .i64 k0) ∧ wx.cell? ⟨X12, 1, none⟩ = some (.int .i64 k1) ∧ wx.cell? ⟨X12, 2, none⟩ = some (.int .i64 k2) ∧ wx.cell? ⟨X12, 3, none⟩ = some (.int .i64 k3) ∧ X12 < wx.heap.size ∧ Hid (E = 8 ∨ E = 0 ∧ FrS (k0, k1) ∧ FrS (k2, k3) ∧ k0 * Q1 ≤ P1 * k1 ∧ P1 * k3 ≤ k2 * Q1 ∧ k0 * k3 ≤ k2 * k1) ∧ Hid (Below wb.heap.size wb wx))
            case first =>
              go_wp2_with fail
              refine (HCS.out _ HBv.out).mono ?_
              rintro ec wc' ⟨a6, c6, a7, c7, rfl, hbx, hs1, hs2⟩
              have hzx := hbx.size
              have HN := Lib.hid (HNS1.out wc' a6 a7 c6 c7 hs1 hs2)
              have HX := Lib.hid hbx
              clear hbx hs1 hs2
              go_wp2_with fail
              refine HN.out.mono ?_
              rintro ed wd' ⟨rfl, hbx⟩
              have HX := Lib.hid (HX.out.trans (hbx.mono HX.out.size))
              have hzx := HX.out.size
              clear hbx HN HNS1
              obtain ⟨sm, hsm⟩ : ∃ b, b = (smallF (p0, q0) && smallF (p1, q1)) := ⟨_, rfl⟩
              rw [← hsm]
              have HSM := Lib.hid hsm
              clear hsm
              cases sm
              · go_wp2_with fail
                go_meet
                case rel => exact ⟨_, 0, 0, 0, 0, 8, rfl, rfl, by go_simp, by go_simp, by go_simp, by go_simp, by simp, Lib.hid (.inl rfl), Lib.hid (HX.out.alloc (by omega) _)⟩
              · go_wp2_with fail
                go_meet
                case rel =>
                  refine ⟨_, p0, q0, p1, q1, 0, rfl, rfl, by go_simp, by go_simp, by go_simp, by go_simp, by simp, Lib.hid (.inr ⟨rfl, ?_, ?_, HNEJ.out.1.1, HNEJ.out.1.2.1, HNEJ.out.1.2.2.1⟩), Lib.hid (HX.out.alloc (by omega) _)⟩
                  · have h1 := HSM.out
                    simp only [smallF, Bool.true_eq, Bool.and_eq_true, wi_iff, decide_eq_true_eq] at h1
                    exact ⟨HNEJ.out.2.1.1, h1.1.2, HNEJ.out.2.1.2, h1.1.1.1, h1.1.1.2⟩
                  · have h1 := HSM.out
                    simp only [smallF, Bool.true_eq, Bool.and_eq_true, wi_iff, decide_eq_true_eq] at h1
                    exact ⟨HNEJ.out.2.2.1, h1.2.2, HNEJ.out.2.2.2, h1.2.1.1, h1.2.1.2⟩
            case rest => as_aux_lemma =>
              obtain ⟨wd, rfl⟩ : ∃ w', w' = wc := ⟨wc, rfl⟩
              obtain ⟨X12, k0, k1, k2, k3, E, rfl, rfl, x0, x1, x2, x3, lX, hE, hN⟩ := hcut
              have hbx := hN.out
              have hzx := hbx.size
              have q0a : wd.cell? ⟨w.heap.size, 0, none⟩ = some (.slice (some ⟨bs, os, none⟩) n c) := by { rw [cellB hbx _ _ (by first | (simp; done) | (simp; omega) | omega)]; all_goals (first | assumption | go_simp) }; have q1a : wd.cell? ⟨w.heap.size, 1, none⟩ = some (.slice (some ⟨be, oe, none⟩) n c1) := by { rw [cellB hbx _ _ (by first | (simp; done) | (simp; omega) | omega)]; all_goals (first | assumption | go_simp) }; have q2a : wd.cell? ⟨w.heap.size, 2, none⟩ = some (.bool g) := by { rw [cellB hbx _ _ (by first | (simp; done) | (simp; omega) | omega)]; all_goals (first | assumption | go_simp) }; have l0a : w.heap.size < wd.heap.size := by { omega }; have lua : bu < wd.heap.size := by { omega }; have cPa : wd.cell? ⟨bu, ou + j * 2, none⟩ = some (.int .i64 P1) := by { rw [cellB hbx _ _ (by first | (simp; done) | (simp; omega) | omega)]; all_goals (first | assumption | go_simp) }; have cQa : wd.cell? ⟨bu, ou + j * 2 + 1, none⟩ = some (.int .i64 Q1) := by { rw [cellB hbx _ _ (by first | (simp; done) | (simp; omega) | omega)]; all_goals (first | assumption | go_simp) }
              have HBv := Lib.hid (HBv.out.trans (hbx.mono HBv.out.size))
              have HBw := Lib.hid (HBw.out.trans (hbx.mono HBw.out.size))
              have HE := Lib.hid hE.out
              clear hbx hN hE q0b q1b q2b l0b lub cPb cQb HNEJ HNS1
              have HFP := Lib.hid HPQ.out.2
              go_upto_region 24 with fail
              go_cut [190] from 129 to 243 (fun v190 wx => v190 = .bool false ∧ Hid (Below wd.heap.size wd wx))
              case first =>
                rcases HE.out with rfl | ⟨rfl, hp, hq, g1, g2, g3⟩
                · go_quiet (fail)
                  go_wp2_with fail
                  go_meet
                  case rel => exact ⟨rfl, Lib.hid ((Below.refl _ _).drewN _)⟩
                · have HSP := Lib.hid (fun w' => show Calls Try.prog 25 #[.agg #[.int .i64 k0, .int .i64 k1, .int .i64 k2, .int .i64 k3]] w' fun e' w'' => e' = .returned (.bool true) ∧ Below w'.heap.size w' w'' from isSpan_any hp hq g3 w')
                  obtain ⟨d1, hd1, hc1⟩ := cmpS_any hp HFP.out g1
                  obtain ⟨d2, hd2, hc2⟩ := cmpS_any HFP.out hq g2
                  have HC1 := Lib.hid (fun w' => show Calls Try.prog 26 #[.agg #[.int .i64 k0, .int .i64 k1], .agg #[.int .i64 P1, .int .i64 Q1]] w' fun e' w'' => e' = .returned (.int .i64 d1) ∧ Below w'.heap.size w' w'' from hc1 w')
                  have HC2 := Lib.hid (fun w' => show Calls Try.prog 26 #[.agg #[.int .i64 P1, .int .i64 Q1], .agg #[.int .i64 k2, .int .i64 k3]] w' fun e' w'' => e' = .returned (.int .i64 d2) ∧ Below w'.heap.size w' w'' from hc2 w')
                  have hb1 : decide (0 < d1) = false := by simp; omega
                  have hb2 : decide (0 < d2) = false := by simp; omega
                  have hb3 : decide (d1 > 0) = false := hb1
                  have hb4 : decide (d2 > 0) = false := hb2
                  clear hp hq g1 g2 g3 hc1 hc2 hd1 hd2
                  have HN := Lib.hid (Below.refl wd.heap.size wd).drew
                  refine wp_region_laterM (B := wd.heap.size) [(true, 0), (true, 1), (true, 2), (true, 3), (false, 4), (true, 5), (true, 6), (true, 7), (true, 8), (true, 9), (true, 10), (true, 11), (true, 12), (false, 13), (true, 14), (true, 15), (true, 16), (true, 17), (true, 18), (true, 19), (true, 20), (true, 21), (true, 22), (false, 23), (true, 24), (true, 25), (true, 26), (true, 27), (true, 28), (true, 29), (true, 30), (true, 31), (true, 32), (true, 33), (true, 34)] (by kernel_rfl) (by kernel_rfl) ?_; simp only [opsOf, List.filterMap_cons, List.filterMap_nil, List.getElem?_toArray, List.getElem?_cons_zero, List.getElem?_cons_succ, Option.map_some]
                  repeat (refine mix_head ?_; (show wpQuiet _ _ _ _ (_ :: _) _; go_big_quiet_step (fail)); refine wpQuiet_nil ?_)
                  refine mix_tail ?_; go_wp2_with fail
                  refine (HSP.out _).mono ?_
                  rintro eA va ⟨rfl, hbx⟩
                  have hzx := hbx.size
                  have HN := Lib.hid (HN.out.trans (hbx.mono HN.out.size))
                  have hzy := HN.out.size
                  clear hbx
                  go_wp2_with fail
                  refine tailL_mk HN.out ?_
                  repeat (refine mix_head ?_; (show wpQuiet _ _ _ _ (_ :: _) _; go_big_quiet_step (fail)); refine wpQuiet_nil ?_)
                  refine mix_tail ?_; go_wp2_with fail
                  refine (HC1.out _).mono ?_
                  rintro eB vb ⟨rfl, hbx⟩
                  have hzx := hbx.size
                  have HN := Lib.hid (HN.out.trans (hbx.mono HN.out.size))
                  have hzy := HN.out.size
                  clear hbx
                  go_wp2_with fail
                  refine tailL_mk HN.out ?_
                  repeat (refine mix_head ?_; (show wpQuiet _ _ _ _ (_ :: _) _; go_big_quiet_step (fail)); refine wpQuiet_nil ?_)
                  refine mix_tail ?_; go_wp2_with fail
                  refine (HC2.out _).mono ?_
                  rintro eC vc ⟨rfl, hbx⟩
                  have hzx := hbx.size
                  have HN := Lib.hid (HN.out.trans (hbx.mono HN.out.size))
                  have hzy := HN.out.size
                  clear hbx
                  go_wp2_with fail
                  refine tailL_mk HN.out ?_
                  repeat (refine mix_head ?_; (show wpQuiet _ _ _ _ (_ :: _) _; go_big_quiet_step (fail)); refine wpQuiet_nil ?_)
                  refine mix_nil ?_
                  go_wp2_with fail
                  go_meet
                  case rel => exact ⟨rfl, HN⟩
              case rest => as_aux_lemma =>
                obtain ⟨we, rfl⟩ : ∃ w', w' = wc := ⟨wc, rfl⟩
                obtain ⟨rfl, hN⟩ := hcut
                have hbx := hN.out
                have hzx := hbx.size
                have q0b : we.cell? ⟨w.heap.size, 0, none⟩ = some (.slice (some ⟨bs, os, none⟩) n c) := by { rw [cellB hbx _ _ (by first | (simp; done) | (simp; omega) | omega)]; all_goals (first | assumption | go_simp) }; have q1b : we.cell? ⟨w.heap.size, 1, none⟩ = some (.slice (some ⟨be, oe, none⟩) n c1) := by { rw [cellB hbx _ _ (by first | (simp; done) | (simp; omega) | omega)]; all_goals (first | assumption | go_simp) }; have q2b : we.cell? ⟨w.heap.size, 2, none⟩ = some (.bool g) := by { rw [cellB hbx _ _ (by first | (simp; done) | (simp; omega) | omega)]; all_goals (first | assumption | go_simp) }; have l0b : w.heap.size < we.heap.size := by { omega }; have lub : bu < we.heap.size := by { omega }; have cPb : we.cell? ⟨bu, ou + j * 2, none⟩ = some (.int .i64 P1) := by { rw [cellB hbx _ _ (by first | (simp; done) | (simp; omega) | omega)]; all_goals (first | assumption | go_simp) }; have cQb : we.cell? ⟨bu, ou + j * 2 + 1, none⟩ = some (.int .i64 Q1) := by { rw [cellB hbx _ _ (by first | (simp; done) | (simp; omega) | omega)]; all_goals (first | assumption | go_simp) }
                have HBv := Lib.hid (HBv.out.trans (hbx.mono HBv.out.size))
                have HBw := Lib.hid (HBw.out.trans (hbx.mono HBw.out.size))
                clear hbx hN HE x0 x1 x2 x3 lX q0a q1a q2a l0a lua cPa cQa
                rcases j with _ | m
                · go_wp2_with fail
                  go_roundw
                  case rel => exact ⟨1, by go_num, by omega, HBw⟩
                  case measure => simp [intOf]
                · obtain ⟨⟨P0, Q0⟩, hP0⟩ : ∃ p, p = uFr (pkL s X 0 n) (pkL e X 1 n) L m := ⟨_, rfl⟩
                  have hFm := HUF.out m (by omega)
                  rw [← hP0] at hFm
                  have hcm := HCU.out m (by omega)
                  change _ = some (Value.int .i64 (gp (initOf (pkL s X 0 n) (pkL e X 1 n) n L) m).1) ∧ _ = some (Value.int .i64 (gp (initOf (pkL s X 0 n) (pkL e X 1 n) n L) m).2) at hcm
                  rw [hFm.1] at hcm
                  have HC0 := Lib.hid (show ∀ w', Below w10.heap.size w10 w' → w'.cell? ⟨bu, ou + m * 2, none⟩ = some (.int .i64 P0) ∧ w'.cell? ⟨bu, ou + m * 2 + 1, none⟩ = some (.int .i64 Q0) from fun w' hb => ⟨by rw [cellB hb _ _ hbu]; exact hcm.1, by rw [cellB hb _ _ hbu]; exact hcm.2⟩)
                  have hge := HGE.out m (by omega)
                  rw [← hP0, ← HPQ.out.1] at hge
                  have HFM := Lib.hid hFm.2
                  have HGS1 := Lib.hid (fun (v : World) (a3 a4 : Option Addr) (c3 c4 : Nat) (h1 : PairsR v a3 n s) (h2 : PairsR v a4 n e) => HGS.out v a3 a4 c3 c4 m (by omega) h1 h2)
                  obtain ⟨⟨p2, q2⟩, hf2⟩ : ∃ f, f = gapFr s e n L m false := ⟨_, rfl⟩
                  obtain ⟨⟨p3, q3⟩, hf3⟩ : ∃ f, f = gapFr s e n L m true := ⟨_, rfl⟩
                  have hd2 := hge.2.2.2 false
                  have hd3 := hge.2.2.2 true
                  rw [← hf2] at hge HGS1 hd2
                  rw [← hf3] at hge HGS1 hd3
                  simp only at hge HGS1 hd2 hd3
                  obtain ⟨D, hD⟩ : ∃ D, D = Rat.divInt P0 Q0 - Rat.divInt P1 Q1 := ⟨_, rfl⟩
                  rw [← hD] at hge
                  have HD := Lib.hid hD
                  have HGEJ := Lib.hid (And.intro hge (And.intro hd2 hd3))
                  have hjz : (((m + 1 : Nat) : Int) == 0) = false := by simp; omega
                  clear hP0 hFm hcm hge hf2 hf3 hd2 hd3 hD
                  go_upto_region 27 with fail
                  go_cut [14, 15] from 129 to 243 (fun v14 v15 wx => ∃ (X14 : Nat) (k0 k1 k2 k3 E : Int), v14 = .pointer (some ⟨X14, 0, none⟩) ∧ v15 = .int .i64 E ∧ wx.cell? ⟨X14, 0, none⟩ = some (.int .i64 k0) ∧ wx.cell? ⟨X14, 1, none⟩ = some (.int .i64 k1) ∧ wx.cell? ⟨X14, 2, none⟩ = some (.int .i64 k2) ∧ wx.cell? ⟨X14, 3, none⟩ = some (.int .i64 k3) ∧ X14 < wx.heap.size ∧ Hid (E = 8 ∨ E = 0 ∧ FrS (k0, k1) ∧ FrS (k2, k3) ∧ Rat.divInt k0 k1 ≤ D ∧ D ≤ Rat.divInt k2 k3 ∧ k0 * k3 ≤ k2 * k1) ∧ Hid (Below we.heap.size we wx))
                  case first =>
                    go_wp2_with fail
                    refine (HCS.out _ HBv.out).mono ?_
                    rintro ec wf ⟨a6, c6, a7, c7, rfl, hbx, hs1, hs2⟩
                    have hzx := hbx.size
                    have HN := Lib.hid (HGS1.out wf a6 a7 c6 c7 hs1 hs2)
                    have HX := Lib.hid hbx
                    clear hbx hs1 hs2
                    go_wp2_with fail
                    refine HN.out.mono ?_
                    rintro ed wg ⟨rfl, hbx⟩
                    have HX := Lib.hid (HX.out.trans (hbx.mono HX.out.size))
                    have hzx := HX.out.size
                    clear hbx HN HGS1
                    obtain ⟨sm, hsm⟩ : ∃ b, b = (smallF (p2, q2) && smallF (p3, q3)) := ⟨_, rfl⟩
                    rw [← hsm]
                    have HSM := Lib.hid hsm
                    clear hsm
                    cases sm
                    · go_wp2_with fail
                      go_meet
                      case rel => exact ⟨_, 0, 0, 0, 0, 8, rfl, rfl, by go_simp, by go_simp, by go_simp, by go_simp, by simp, Lib.hid (.inl rfl), Lib.hid (HX.out.alloc (by omega) _)⟩
                    · go_wp2_with fail
                      go_meet
                      case rel =>
                        refine ⟨_, p2, q2, p3, q3, 0, rfl, rfl, by go_simp, by go_simp, by go_simp, by go_simp, by simp, Lib.hid (.inr ⟨rfl, ?_, ?_, HGEJ.out.1.1, HGEJ.out.1.2.1, HGEJ.out.1.2.2.1⟩), Lib.hid (HX.out.alloc (by omega) _)⟩
                        · have h1 := HSM.out
                          simp only [smallF, Bool.true_eq, Bool.and_eq_true, wi_iff, decide_eq_true_eq] at h1
                          exact ⟨HGEJ.out.2.1.1, h1.1.2, HGEJ.out.2.1.2, h1.1.1.1, h1.1.1.2⟩
                        · have h1 := HSM.out
                          simp only [smallF, Bool.true_eq, Bool.and_eq_true, wi_iff, decide_eq_true_eq] at h1
                          exact ⟨HGEJ.out.2.2.1, h1.2.2, HGEJ.out.2.2.2, h1.2.1.1, h1.2.1.2⟩
                  case rest => as_aux_lemma =>
                    obtain ⟨wf, rfl⟩ : ∃ w', w' = wc := ⟨wc, rfl⟩
                    obtain ⟨X14, k0, k1, k2, k3, E, rfl, rfl, x0, x1, x2, x3, lX, hE, hN⟩ := hcut
                    have hbx := hN.out
                    have hzx := hbx.size
                    have q0a : wf.cell? ⟨w.heap.size, 0, none⟩ = some (.slice (some ⟨bs, os, none⟩) n c) := by { rw [cellB hbx _ _ (by first | (simp; done) | (simp; omega) | omega)]; all_goals (first | assumption | go_simp) }; have q1a : wf.cell? ⟨w.heap.size, 1, none⟩ = some (.slice (some ⟨be, oe, none⟩) n c1) := by { rw [cellB hbx _ _ (by first | (simp; done) | (simp; omega) | omega)]; all_goals (first | assumption | go_simp) }; have q2a : wf.cell? ⟨w.heap.size, 2, none⟩ = some (.bool g) := by { rw [cellB hbx _ _ (by first | (simp; done) | (simp; omega) | omega)]; all_goals (first | assumption | go_simp) }; have l0a : w.heap.size < wf.heap.size := by { omega }; have lua : bu < wf.heap.size := by { omega }; have cPa : wf.cell? ⟨bu, ou + (m + 1) * 2, none⟩ = some (.int .i64 P1) := by { rw [cellB hbx _ _ (by first | (simp; done) | (simp; omega) | omega)]; all_goals (first | assumption | go_simp) }; have cQa : wf.cell? ⟨bu, ou + (m + 1) * 2 + 1, none⟩ = some (.int .i64 Q1) := by { rw [cellB hbx _ _ (by first | (simp; done) | (simp; omega) | omega)]; all_goals (first | assumption | go_simp) }
                    have HBv := Lib.hid (HBv.out.trans (hbx.mono HBv.out.size))
                    have HBw := Lib.hid (HBw.out.trans (hbx.mono HBw.out.size))
                    have HE := Lib.hid hE.out
                    obtain ⟨cP0, cQ0⟩ := HC0.out _ HBw.out
                    clear hbx hN hE q0b q1b q2b l0b lub cPb cQb HGEJ HGS1
                    have HRF0 := Lib.hid (fun w' => ratioFrom_any P0 Q0 w' (by have := HFM.out.1; omega) (by have := HFM.out.2.2.2.1; omega) (by have := HFM.out.2.2.2.2; omega) (by have := HFM.out.1; omega) (by have := HFM.out.2.1; omega))
                    have HRF1 := Lib.hid (fun w' => ratioFrom_any P1 Q1 w' (by have := HFP.out.1; omega) (by have := HFP.out.2.2.2.1; omega) (by have := HFP.out.2.2.2.2; omega) (by have := HFP.out.1; omega) (by have := HFP.out.2.1; omega))
                    have HSZ : Hid (Sz 2 (Rat.divInt P0 Q0) ∧ Sz 2 (Rat.divInt P1 Q1)) := Lib.hid ⟨frS_sz' HFM.out, frS_sz' HFP.out⟩
                    go_upto_region 28 with fail
                    go_cut [16] from 129 to 243 (fun v16 wx => ∃ (X16 : Nat) (s1 s2 : Int) (b1 b2 : Option Addr) (o1 o2 o3 o4 : Nat), v16 = .pointer (some ⟨X16, 0, none⟩) ∧ wx.cell? ⟨X16, 0, none⟩ = some (.int .i64 s1) ∧ wx.cell? ⟨X16, 1, none⟩ = some (.slice b1 o1 o2) ∧ wx.cell? ⟨X16, 2, none⟩ = some (.int .i64 s2) ∧ wx.cell? ⟨X16, 3, none⟩ = some (.slice b2 o3 o4) ∧ X16 < wx.heap.size ∧ Hid (RatioR (fun _ => True) wx (.agg #[.int .i64 s1, .slice b1 o1 o2, .int .i64 s2, .slice b2 o3 o4]) D) ∧ Hid (Below wf.heap.size wf wx))
                    case first =>
                      have HN := Lib.hid (Below.refl wf.heap.size wf).drew
                      refine wp_region_laterT (B := wf.heap.size) (.head 0 (.head 1 (.head 2 (.head 3 (.head 4 (.head 6 (.head 7 (.head 8 (.head 9 (.two 5 (.two 10 (.two 11 (.one 12 (.one 13 .done)) 12 (.one 11 (.one 13 .done))) 12 (.one 10 (.one 11 (.one 13 .done)))) 12 (.one 5 (.one 10 (.one 11 (.one 13 .done)))))))))))))) (by kernel_rfl) (by kernel_rfl) ?_
                      repeat (refine tree_head rfl ?_; (show wpQuiet _ _ _ _ (_ :: _) _; go_big_quiet_step (fail)); refine wpQuiet_nil ?_)
                      refine tree_two rfl rfl ?_ ?_
                      · go_wp2_with fail
                        refine (HRF0.out _).mono ?_
                        rintro eA va ⟨vA, rfl, hbx, hA⟩
                        have HA := Lib.hid hA.here
                        obtain ⟨sA, aA, nA, cA, tA, bA, mA, dA, rfl, _⟩ := hA
                        have hzx := hbx.size
                        have HN := Lib.hid (HN.out.trans (hbx.mono HN.out.size))
                        have hzy := HN.out.size
                        clear hbx
                        go_wp2_with fail
                        refine tailL_mk HN.out ?_
                        refine tree_two rfl rfl ?_ ?_
                        · go_wp2_with fail
                          refine (HRF1.out _).mono ?_
                          rintro eB vb ⟨vB, rfl, hbx, hB'⟩
                          have HB' := Lib.hid hB'.here
                          obtain ⟨sB, aB, nB, cB, tB, bB, mB, dB, rfl, _⟩ := hB'
                          have HA := Lib.hid (HA.out.below hbx)
                          have hzx := hbx.size
                          have HN := Lib.hid (HN.out.trans (hbx.mono HN.out.size))
                          have hzy := HN.out.size
                          clear hbx
                          go_wp2_with fail
                          refine tailL_mk HN.out ?_
                          refine tree_two rfl rfl ?_ ?_
                          · go_wp2_with fail
                            refine (ratioSub_any (fun b => b < vb.heap.size) _ _ (Rat.divInt P0 Q0) (Rat.divInt P1 Q1) 2 2 _ (HA.out.here.mono (fun b hb => hb.2)) (HB'.out.here.mono (fun b hb => hb.2)) (fun b hb => hb) HSZ.out.1 HSZ.out.2 (by omega)).mono ?_
                            rintro eS vc ⟨vS, rfl, hbx, hS⟩
                            have HS := Lib.hid hS.here
                            obtain ⟨sS, aS, nS, cS, tS, bS, mS, dS, rfl, _⟩ := hS
                            rw [← HD.out] at HS
                            have hzx := hbx.size
                            have HN := Lib.hid (HN.out.trans (hbx.mono HN.out.size))
                            have hzy := HN.out.size
                            clear hbx
                            go_wp2_with fail
                            refine tailL_mk HN.out ?_
                            refine tree_one rfl ?_
                            go_wp2_with fail
                            obtain ⟨X9, hX9⟩ : ∃ X, X = vc.heap.size := ⟨_, rfl⟩
                            have hNX : wf.heap.size ≤ X9 := by rw [hX9]; exact HN.out.size
                            have hx9 : (vc.alloc (Obj.cells #[Value.int IntKind.i64 0, Value.slice none 0 0, Value.int IntKind.i64 0, Value.slice none 0 0] 58)).heap[X9]? = some (.cells #[Value.int IntKind.i64 0, Value.slice none 0 0, Value.int IntKind.i64 0, Value.slice none 0 0] 58) := by rw [hX9]; exact heap_alloc_new _ _
                            have l9 : X9 < (vc.alloc (Obj.cells #[Value.int IntKind.i64 0, Value.slice none 0 0, Value.int IntKind.i64 0, Value.slice none 0 0] 58)).heap.size := by rw [hX9]; simp
                            have hsz9 : (vc.alloc (Obj.cells #[Value.int IntKind.i64 0, Value.slice none 0 0, Value.int IntKind.i64 0, Value.slice none 0 0] 58)).heap.size = vc.heap.size + 1 := by simp
                            have hbx : Below vc.heap.size vc (vc.alloc (Obj.cells #[Value.int IntKind.i64 0, Value.slice none 0 0, Value.int IntKind.i64 0, Value.slice none 0 0] 58)) := by (repeat' (first | (with_reducible exact Below.refl _ _) | (with_reducible assumption) | (with_reducible refine Below.drewN ?_ _) | (with_reducible refine Below.alloc ?_ ?_ _) | (with_reducible refine Below.drew ?_) | (with_reducible refine Below.setCell ?_ ?_ _) | (with_reducible refine Below.step (by assumption) ?_ ?_) | (with_reducible exact And.left (by assumption)) | go_size))
                            try simp only [← hX9]
                            generalize (vc.alloc (Obj.cells #[Value.int IntKind.i64 0, Value.slice none 0 0, Value.int IntKind.i64 0, Value.slice none 0 0] 58)) = vd at *
                            have HX9 := Lib.hid (And.intro hX9 hsz9)
                            clear hX9 hsz9
                            have HS := Lib.hid (HS.out.below hbx)
                            have hzx := hbx.size
                            have HN := Lib.hid (HN.out.trans (hbx.mono HN.out.size))
                            have hzy := HN.out.size
                            clear hbx
                            refine tailL_mk HN.out ?_
                            refine tree_one rfl ?_
                            have c90 := cell_of_row _ _ 0 _ _ _ hx9
                            have c91 := cell_of_row _ _ 1 _ _ _ hx9
                            have c92 := cell_of_row _ _ 2 _ _ _ hx9
                            have c93 := cell_of_row _ _ 3 _ _ _ hx9
                            have f90 := frozen_of_row _ _ 0 _ _ hx9
                            have f91 := frozen_of_row _ _ 1 _ _ hx9
                            have f92 := frozen_of_row _ _ 2 _ _ hx9
                            have f93 := frozen_of_row _ _ 3 _ _ hx9
                            simp only [List.getElem?_toArray, List.getElem?_cons_zero, List.getElem?_cons_succ] at c90 c91 c92 c93
                            have HRX := Lib.hid (show RatioR (fun _ => True) ((((vd.setCell ⟨X9, 0, none⟩ (.int .i64 sS)).setCell ⟨X9, 1, none⟩ (.slice aS nS cS)).setCell ⟨X9, 2, none⟩ (.int .i64 tS)).setCell ⟨X9, 3, none⟩ (.slice bS mS dS)) (.agg #[.int .i64 sS, .slice aS nS cS, .int .i64 tS, .slice bS mS dS]) D from
                              RatioR.mono (p := fun b => b ≠ X9) (RatioR.kept (w := vd) (HS.out.mono (fun b hb => by
                                obtain ⟨hX9, hsz9⟩ := HX9.out
                                obtain ⟨h1, h2⟩ := hb
                                omega)) (by simp) (fun b hb => by rw [Go.Deep.blk_setCell_other _ _ _ _ (by simpa using hb), Go.Deep.blk_setCell_other _ _ _ _ (by simpa using hb), Go.Deep.blk_setCell_other _ _ _ _ (by simpa using hb), Go.Deep.blk_setCell_other _ _ _ _ (by simpa using hb)])) (fun b hb => trivial))
                            go_wp2_with fail
                            have HNx := Lib.hid (show Below wf.heap.size wf ((((vd.setCell ⟨X9, 0, none⟩ (.int .i64 sS)).setCell ⟨X9, 1, none⟩ (.slice aS nS cS)).setCell ⟨X9, 2, none⟩ (.int .i64 tS)).setCell ⟨X9, 3, none⟩ (.slice bS mS dS)) from Below.setCell (Below.setCell (Below.setCell (Below.setCell HN.out hNX _) hNX _) hNX _) hNX _)
                            refine tailL_mk HNx.out ?_
                            refine tree_done ?_
                            go_wp2_with fail
                            go_meet
                            case rel => exact ⟨X9, sS, tS, aS, bS, nS, cS, mS, dS, rfl, by go_simp, by go_simp, by go_simp, by go_simp, by simpa using l9, HRX, HNx⟩
                          · go_wp2_with fail
                            obtain ⟨X9, hX9⟩ : ∃ X, X = vb.heap.size := ⟨_, rfl⟩
                            have hNX : wf.heap.size ≤ X9 := by rw [hX9]; exact HN.out.size
                            have hx9 : (vb.alloc (Obj.cells #[Value.int IntKind.i64 0, Value.slice none 0 0, Value.int IntKind.i64 0, Value.slice none 0 0] 58)).heap[X9]? = some (.cells #[Value.int IntKind.i64 0, Value.slice none 0 0, Value.int IntKind.i64 0, Value.slice none 0 0] 58) := by rw [hX9]; exact heap_alloc_new _ _
                            have l9 : X9 < (vb.alloc (Obj.cells #[Value.int IntKind.i64 0, Value.slice none 0 0, Value.int IntKind.i64 0, Value.slice none 0 0] 58)).heap.size := by rw [hX9]; simp
                            have hsz9 : (vb.alloc (Obj.cells #[Value.int IntKind.i64 0, Value.slice none 0 0, Value.int IntKind.i64 0, Value.slice none 0 0] 58)).heap.size = vb.heap.size + 1 := by simp
                            have hbx : Below vb.heap.size vb (vb.alloc (Obj.cells #[Value.int IntKind.i64 0, Value.slice none 0 0, Value.int IntKind.i64 0, Value.slice none 0 0] 58)) := by (repeat' (first | (with_reducible exact Below.refl _ _) | (with_reducible assumption) | (with_reducible refine Below.drewN ?_ _) | (with_reducible refine Below.alloc ?_ ?_ _) | (with_reducible refine Below.drew ?_) | (with_reducible refine Below.setCell ?_ ?_ _) | (with_reducible refine Below.step (by assumption) ?_ ?_) | (with_reducible exact And.left (by assumption)) | go_size))
                            try simp only [← hX9]
                            generalize (vb.alloc (Obj.cells #[Value.int IntKind.i64 0, Value.slice none 0 0, Value.int IntKind.i64 0, Value.slice none 0 0] 58)) = vc at *
                            have HX9 := Lib.hid (And.intro hX9 hsz9)
                            clear hX9 hsz9
                            have HA := Lib.hid (HA.out.below hbx)
                            have HB' := Lib.hid (HB'.out.below hbx)
                            have hzx := hbx.size
                            have HN := Lib.hid (HN.out.trans (hbx.mono HN.out.size))
                            have hzy := HN.out.size
                            clear hbx
                            refine tailL_mk HN.out ?_
                            refine tree_one rfl ?_; go_wp2_with fail
                            refine (ratioSub_any (fun b => b < vc.heap.size) _ _ (Rat.divInt P0 Q0) (Rat.divInt P1 Q1) 2 2 _ (HA.out.here.mono (fun b hb => hb.2)) (HB'.out.here.mono (fun b hb => hb.2)) (fun b hb => hb) HSZ.out.1 HSZ.out.2 (by omega)).mono ?_
                            rintro eS vd ⟨vS, rfl, hbx, hS⟩
                            have HS := Lib.hid hS.here
                            obtain ⟨sS, aS, nS, cS, tS, bS, mS, dS, rfl, _⟩ := hS
                            rw [← HD.out] at HS
                            have hx9 := (hbx.block X9 l9).trans hx9
                            have l9 := Nat.lt_of_lt_of_le l9 hbx.size
                            have hzx := hbx.size
                            have HN := Lib.hid (HN.out.trans (hbx.mono HN.out.size))
                            have hzy := HN.out.size
                            clear hbx
                            go_wp2_with fail
                            refine tailL_mk HN.out ?_
                            refine tree_one rfl ?_
                            have c90 := cell_of_row _ _ 0 _ _ _ hx9
                            have c91 := cell_of_row _ _ 1 _ _ _ hx9
                            have c92 := cell_of_row _ _ 2 _ _ _ hx9
                            have c93 := cell_of_row _ _ 3 _ _ _ hx9
                            have f90 := frozen_of_row _ _ 0 _ _ hx9
                            have f91 := frozen_of_row _ _ 1 _ _ hx9
                            have f92 := frozen_of_row _ _ 2 _ _ hx9
                            have f93 := frozen_of_row _ _ 3 _ _ hx9
                            simp only [List.getElem?_toArray, List.getElem?_cons_zero, List.getElem?_cons_succ] at c90 c91 c92 c93
                            have HRX := Lib.hid (show RatioR (fun _ => True) ((((vd.setCell ⟨X9, 0, none⟩ (.int .i64 sS)).setCell ⟨X9, 1, none⟩ (.slice aS nS cS)).setCell ⟨X9, 2, none⟩ (.int .i64 tS)).setCell ⟨X9, 3, none⟩ (.slice bS mS dS)) (.agg #[.int .i64 sS, .slice aS nS cS, .int .i64 tS, .slice bS mS dS]) D from
                              RatioR.mono (p := fun b => b ≠ X9) (RatioR.kept (w := vd) (HS.out.mono (fun b hb => by
                                obtain ⟨hX9, hsz9⟩ := HX9.out
                                obtain ⟨h1, h2⟩ := hb
                                omega)) (by simp) (fun b hb => by rw [Go.Deep.blk_setCell_other _ _ _ _ (by simpa using hb), Go.Deep.blk_setCell_other _ _ _ _ (by simpa using hb), Go.Deep.blk_setCell_other _ _ _ _ (by simpa using hb), Go.Deep.blk_setCell_other _ _ _ _ (by simpa using hb)])) (fun b hb => trivial))
                            go_wp2_with fail
                            have HNx := Lib.hid (show Below wf.heap.size wf ((((vd.setCell ⟨X9, 0, none⟩ (.int .i64 sS)).setCell ⟨X9, 1, none⟩ (.slice aS nS cS)).setCell ⟨X9, 2, none⟩ (.int .i64 tS)).setCell ⟨X9, 3, none⟩ (.slice bS mS dS)) from Below.setCell (Below.setCell (Below.setCell (Below.setCell HN.out hNX _) hNX _) hNX _) hNX _)
                            refine tailL_mk HNx.out ?_
                            refine tree_done ?_
                            go_wp2_with fail
                            go_meet
                            case rel => exact ⟨X9, sS, tS, aS, bS, nS, cS, mS, dS, rfl, by go_simp, by go_simp, by go_simp, by go_simp, by simpa using l9, HRX, HNx⟩
                        · go_wp2_with fail
                          obtain ⟨X9, hX9⟩ : ∃ X, X = va.heap.size := ⟨_, rfl⟩
                          have hNX : wf.heap.size ≤ X9 := by rw [hX9]; exact HN.out.size
                          have hx9 : (va.alloc (Obj.cells #[Value.int IntKind.i64 0, Value.slice none 0 0, Value.int IntKind.i64 0, Value.slice none 0 0] 58)).heap[X9]? = some (.cells #[Value.int IntKind.i64 0, Value.slice none 0 0, Value.int IntKind.i64 0, Value.slice none 0 0] 58) := by rw [hX9]; exact heap_alloc_new _ _
                          have l9 : X9 < (va.alloc (Obj.cells #[Value.int IntKind.i64 0, Value.slice none 0 0, Value.int IntKind.i64 0, Value.slice none 0 0] 58)).heap.size := by rw [hX9]; simp
                          have hsz9 : (va.alloc (Obj.cells #[Value.int IntKind.i64 0, Value.slice none 0 0, Value.int IntKind.i64 0, Value.slice none 0 0] 58)).heap.size = va.heap.size + 1 := by simp
                          have hbx : Below va.heap.size va (va.alloc (Obj.cells #[Value.int IntKind.i64 0, Value.slice none 0 0, Value.int IntKind.i64 0, Value.slice none 0 0] 58)) := by (repeat' (first | (with_reducible exact Below.refl _ _) | (with_reducible assumption) | (with_reducible refine Below.drewN ?_ _) | (with_reducible refine Below.alloc ?_ ?_ _) | (with_reducible refine Below.drew ?_) | (with_reducible refine Below.setCell ?_ ?_ _) | (with_reducible refine Below.step (by assumption) ?_ ?_) | (with_reducible exact And.left (by assumption)) | go_size))
                          try simp only [← hX9]
                          generalize (va.alloc (Obj.cells #[Value.int IntKind.i64 0, Value.slice none 0 0, Value.int IntKind.i64 0, Value.slice none 0 0] 58)) = vb at *
                          have HX9 := Lib.hid (And.intro hX9 hsz9)
                          clear hX9 hsz9
                          have HA := Lib.hid (HA.out.below hbx)
                          have hzx := hbx.size
                          have HN := Lib.hid (HN.out.trans (hbx.mono HN.out.size))
                          have hzy := HN.out.size
                          clear hbx
                          refine tailL_mk HN.out ?_
                          refine tree_one rfl ?_; go_wp2_with fail
                          refine (HRF1.out _).mono ?_
                          rintro eB vc ⟨vB, rfl, hbx, hB'⟩
                          have HB' := Lib.hid hB'.here
                          obtain ⟨sB, aB, nB, cB, tB, bB, mB, dB, rfl, _⟩ := hB'
                          have HA := Lib.hid (HA.out.below hbx)
                          have hx9 := (hbx.block X9 l9).trans hx9
                          have l9 := Nat.lt_of_lt_of_le l9 hbx.size
                          have hzx := hbx.size
                          have HN := Lib.hid (HN.out.trans (hbx.mono HN.out.size))
                          have hzy := HN.out.size
                          clear hbx
                          go_wp2_with fail
                          refine tailL_mk HN.out ?_
                          refine tree_one rfl ?_; go_wp2_with fail
                          refine (ratioSub_any (fun b => b < vc.heap.size) _ _ (Rat.divInt P0 Q0) (Rat.divInt P1 Q1) 2 2 _ (HA.out.here.mono (fun b hb => hb.2)) (HB'.out.here.mono (fun b hb => hb.2)) (fun b hb => hb) HSZ.out.1 HSZ.out.2 (by omega)).mono ?_
                          rintro eS vd ⟨vS, rfl, hbx, hS⟩
                          have HS := Lib.hid hS.here
                          obtain ⟨sS, aS, nS, cS, tS, bS, mS, dS, rfl, _⟩ := hS
                          rw [← HD.out] at HS
                          have hx9 := (hbx.block X9 l9).trans hx9
                          have l9 := Nat.lt_of_lt_of_le l9 hbx.size
                          have hzx := hbx.size
                          have HN := Lib.hid (HN.out.trans (hbx.mono HN.out.size))
                          have hzy := HN.out.size
                          clear hbx
                          go_wp2_with fail
                          refine tailL_mk HN.out ?_
                          refine tree_one rfl ?_
                          have c90 := cell_of_row _ _ 0 _ _ _ hx9
                          have c91 := cell_of_row _ _ 1 _ _ _ hx9
                          have c92 := cell_of_row _ _ 2 _ _ _ hx9
                          have c93 := cell_of_row _ _ 3 _ _ _ hx9
                          have f90 := frozen_of_row _ _ 0 _ _ hx9
                          have f91 := frozen_of_row _ _ 1 _ _ hx9
                          have f92 := frozen_of_row _ _ 2 _ _ hx9
                          have f93 := frozen_of_row _ _ 3 _ _ hx9
                          simp only [List.getElem?_toArray, List.getElem?_cons_zero, List.getElem?_cons_succ] at c90 c91 c92 c93
                          have HRX := Lib.hid (show RatioR (fun _ => True) ((((vd.setCell ⟨X9, 0, none⟩ (.int .i64 sS)).setCell ⟨X9, 1, none⟩ (.slice aS nS cS)).setCell ⟨X9, 2, none⟩ (.int .i64 tS)).setCell ⟨X9, 3, none⟩ (.slice bS mS dS)) (.agg #[.int .i64 sS, .slice aS nS cS, .int .i64 tS, .slice bS mS dS]) D from
                            RatioR.mono (p := fun b => b ≠ X9) (RatioR.kept (w := vd) (HS.out.mono (fun b hb => by
                              obtain ⟨hX9, hsz9⟩ := HX9.out
                              obtain ⟨h1, h2⟩ := hb
                              omega)) (by simp) (fun b hb => by rw [Go.Deep.blk_setCell_other _ _ _ _ (by simpa using hb), Go.Deep.blk_setCell_other _ _ _ _ (by simpa using hb), Go.Deep.blk_setCell_other _ _ _ _ (by simpa using hb), Go.Deep.blk_setCell_other _ _ _ _ (by simpa using hb)])) (fun b hb => trivial))
                          go_wp2_with fail
                          have HNx := Lib.hid (show Below wf.heap.size wf ((((vd.setCell ⟨X9, 0, none⟩ (.int .i64 sS)).setCell ⟨X9, 1, none⟩ (.slice aS nS cS)).setCell ⟨X9, 2, none⟩ (.int .i64 tS)).setCell ⟨X9, 3, none⟩ (.slice bS mS dS)) from Below.setCell (Below.setCell (Below.setCell (Below.setCell HN.out hNX _) hNX _) hNX _) hNX _)
                          refine tailL_mk HNx.out ?_
                          refine tree_done ?_
                          go_wp2_with fail
                          go_meet
                          case rel => exact ⟨X9, sS, tS, aS, bS, nS, cS, mS, dS, rfl, by go_simp, by go_simp, by go_simp, by go_simp, by simpa using l9, HRX, HNx⟩
                      · go_wp2_with fail
                        have HN := Lib.hid (Below.refl wf.heap.size wf)
                        obtain ⟨X9, hX9⟩ : ∃ X, X = wf.heap.size := ⟨_, rfl⟩
                        have hNX : wf.heap.size ≤ X9 := by rw [hX9]; exact HN.out.size
                        have hx9 : (wf.alloc (Obj.cells #[Value.int IntKind.i64 0, Value.slice none 0 0, Value.int IntKind.i64 0, Value.slice none 0 0] 58)).drew.heap[X9]? = some (.cells #[Value.int IntKind.i64 0, Value.slice none 0 0, Value.int IntKind.i64 0, Value.slice none 0 0] 58) := by rw [hX9]; exact heap_alloc_new _ _
                        have l9 : X9 < (wf.alloc (Obj.cells #[Value.int IntKind.i64 0, Value.slice none 0 0, Value.int IntKind.i64 0, Value.slice none 0 0] 58)).drew.heap.size := by rw [hX9]; simp
                        have hsz9 : (wf.alloc (Obj.cells #[Value.int IntKind.i64 0, Value.slice none 0 0, Value.int IntKind.i64 0, Value.slice none 0 0] 58)).drew.heap.size = wf.heap.size + 1 := by simp
                        have hbx : Below wf.heap.size wf (wf.alloc (Obj.cells #[Value.int IntKind.i64 0, Value.slice none 0 0, Value.int IntKind.i64 0, Value.slice none 0 0] 58)).drew := by (repeat' (first | (with_reducible exact Below.refl _ _) | (with_reducible assumption) | (with_reducible refine Below.drewN ?_ _) | (with_reducible refine Below.alloc ?_ ?_ _) | (with_reducible refine Below.drew ?_) | (with_reducible refine Below.setCell ?_ ?_ _) | (with_reducible refine Below.step (by assumption) ?_ ?_) | (with_reducible exact And.left (by assumption)) | go_size))
                        try simp only [← hX9]
                        generalize (wf.alloc (Obj.cells #[Value.int IntKind.i64 0, Value.slice none 0 0, Value.int IntKind.i64 0, Value.slice none 0 0] 58)).drew = va at *
                        have HX9 := Lib.hid (And.intro hX9 hsz9)
                        clear hX9 hsz9
                        have hzx := hbx.size
                        have HN := Lib.hid (HN.out.trans (hbx.mono HN.out.size))
                        have hzy := HN.out.size
                        clear hbx
                        refine tailL_mk HN.out ?_
                        refine tree_one rfl ?_; go_wp2_with fail
                        refine (HRF0.out _).mono ?_
                        rintro eA vb ⟨vA, rfl, hbx, hA⟩
                        have HA := Lib.hid hA.here
                        obtain ⟨sA, aA, nA, cA, tA, bA, mA, dA, rfl, _⟩ := hA
                        have hx9 := (hbx.block X9 l9).trans hx9
                        have l9 := Nat.lt_of_lt_of_le l9 hbx.size
                        have hzx := hbx.size
                        have HN := Lib.hid (HN.out.trans (hbx.mono HN.out.size))
                        have hzy := HN.out.size
                        clear hbx
                        go_wp2_with fail
                        refine tailL_mk HN.out ?_
                        refine tree_one rfl ?_; go_wp2_with fail
                        refine (HRF1.out _).mono ?_
                        rintro eB vc ⟨vB, rfl, hbx, hB'⟩
                        have HB' := Lib.hid hB'.here
                        obtain ⟨sB, aB, nB, cB, tB, bB, mB, dB, rfl, _⟩ := hB'
                        have HA := Lib.hid (HA.out.below hbx)
                        have hx9 := (hbx.block X9 l9).trans hx9
                        have l9 := Nat.lt_of_lt_of_le l9 hbx.size
                        have hzx := hbx.size
                        have HN := Lib.hid (HN.out.trans (hbx.mono HN.out.size))
                        have hzy := HN.out.size
                        clear hbx
                        go_wp2_with fail
                        refine tailL_mk HN.out ?_
                        refine tree_one rfl ?_; go_wp2_with fail
                        refine (ratioSub_any (fun b => b < vc.heap.size) _ _ (Rat.divInt P0 Q0) (Rat.divInt P1 Q1) 2 2 _ (HA.out.here.mono (fun b hb => hb.2)) (HB'.out.here.mono (fun b hb => hb.2)) (fun b hb => hb) HSZ.out.1 HSZ.out.2 (by omega)).mono ?_
                        rintro eS vd ⟨vS, rfl, hbx, hS⟩
                        have HS := Lib.hid hS.here
                        obtain ⟨sS, aS, nS, cS, tS, bS, mS, dS, rfl, _⟩ := hS
                        rw [← HD.out] at HS
                        have hx9 := (hbx.block X9 l9).trans hx9
                        have l9 := Nat.lt_of_lt_of_le l9 hbx.size
                        have hzx := hbx.size
                        have HN := Lib.hid (HN.out.trans (hbx.mono HN.out.size))
                        have hzy := HN.out.size
                        clear hbx
                        go_wp2_with fail
                        refine tailL_mk HN.out ?_
                        refine tree_one rfl ?_
                        have c90 := cell_of_row _ _ 0 _ _ _ hx9
                        have c91 := cell_of_row _ _ 1 _ _ _ hx9
                        have c92 := cell_of_row _ _ 2 _ _ _ hx9
                        have c93 := cell_of_row _ _ 3 _ _ _ hx9
                        have f90 := frozen_of_row _ _ 0 _ _ hx9
                        have f91 := frozen_of_row _ _ 1 _ _ hx9
                        have f92 := frozen_of_row _ _ 2 _ _ hx9
                        have f93 := frozen_of_row _ _ 3 _ _ hx9
                        simp only [List.getElem?_toArray, List.getElem?_cons_zero, List.getElem?_cons_succ] at c90 c91 c92 c93
                        have HRX := Lib.hid (show RatioR (fun _ => True) ((((vd.setCell ⟨X9, 0, none⟩ (.int .i64 sS)).setCell ⟨X9, 1, none⟩ (.slice aS nS cS)).setCell ⟨X9, 2, none⟩ (.int .i64 tS)).setCell ⟨X9, 3, none⟩ (.slice bS mS dS)) (.agg #[.int .i64 sS, .slice aS nS cS, .int .i64 tS, .slice bS mS dS]) D from
                          RatioR.mono (p := fun b => b ≠ X9) (RatioR.kept (w := vd) (HS.out.mono (fun b hb => by
                            obtain ⟨hX9, hsz9⟩ := HX9.out
                            obtain ⟨h1, h2⟩ := hb
                            omega)) (by simp) (fun b hb => by rw [Go.Deep.blk_setCell_other _ _ _ _ (by simpa using hb), Go.Deep.blk_setCell_other _ _ _ _ (by simpa using hb), Go.Deep.blk_setCell_other _ _ _ _ (by simpa using hb), Go.Deep.blk_setCell_other _ _ _ _ (by simpa using hb)])) (fun b hb => trivial))
                        go_wp2_with fail
                        have HNx := Lib.hid (show Below wf.heap.size wf ((((vd.setCell ⟨X9, 0, none⟩ (.int .i64 sS)).setCell ⟨X9, 1, none⟩ (.slice aS nS cS)).setCell ⟨X9, 2, none⟩ (.int .i64 tS)).setCell ⟨X9, 3, none⟩ (.slice bS mS dS)) from Below.setCell (Below.setCell (Below.setCell (Below.setCell HN.out hNX _) hNX _) hNX _) hNX _)
                        refine tailL_mk HNx.out ?_
                        refine tree_done ?_
                        go_wp2_with fail
                        go_meet
                        case rel => exact ⟨X9, sS, tS, aS, bS, nS, cS, mS, dS, rfl, by go_simp, by go_simp, by go_simp, by go_simp, by simpa using l9, HRX, HNx⟩
                    case rest => as_aux_lemma =>
                      obtain ⟨wg, rfl⟩ : ∃ w', w' = wc := ⟨wc, rfl⟩
                      obtain ⟨X16, s1, s2, b1, b2, o1, o2, o3, o4, rfl, y0, y1, y2, y3, lY, hR, hN⟩ := hcut
                      have hbx := hN.out
                      have hzx := hbx.size
                      have q0b : wg.cell? ⟨w.heap.size, 0, none⟩ = some (.slice (some ⟨bs, os, none⟩) n c) := by { rw [cellB hbx _ _ (by first | (simp; done) | (simp; omega) | omega)]; all_goals (first | assumption | go_simp) }; have q1b : wg.cell? ⟨w.heap.size, 1, none⟩ = some (.slice (some ⟨be, oe, none⟩) n c1) := by { rw [cellB hbx _ _ (by first | (simp; done) | (simp; omega) | omega)]; all_goals (first | assumption | go_simp) }; have q2b : wg.cell? ⟨w.heap.size, 2, none⟩ = some (.bool g) := by { rw [cellB hbx _ _ (by first | (simp; done) | (simp; omega) | omega)]; all_goals (first | assumption | go_simp) }; have l0b : w.heap.size < wg.heap.size := by { omega }; have lub : bu < wg.heap.size := by { omega }; have w0 : wg.cell? ⟨X14, 0, none⟩ = some (.int .i64 k0) := by { rw [cellB hbx _ _ (by first | (simp; done) | (simp; omega) | omega)]; all_goals (first | assumption | go_simp) }; have w1 : wg.cell? ⟨X14, 1, none⟩ = some (.int .i64 k1) := by { rw [cellB hbx _ _ (by first | (simp; done) | (simp; omega) | omega)]; all_goals (first | assumption | go_simp) }; have w2 : wg.cell? ⟨X14, 2, none⟩ = some (.int .i64 k2) := by { rw [cellB hbx _ _ (by first | (simp; done) | (simp; omega) | omega)]; all_goals (first | assumption | go_simp) }; have w3 : wg.cell? ⟨X14, 3, none⟩ = some (.int .i64 k3) := by { rw [cellB hbx _ _ (by first | (simp; done) | (simp; omega) | omega)]; all_goals (first | assumption | go_simp) }; have lW : X14 < wg.heap.size := by { omega }
                      have HBv := Lib.hid (HBv.out.trans (hbx.mono HBv.out.size))
                      have HBw := Lib.hid (HBw.out.trans (hbx.mono HBw.out.size))
                      have HR := Lib.hid hR.out
                      have HSD := Lib.hid (show Sz 5 D from frS_sub HSZ.out.1 HSZ.out.2 HD.out)
                      clear hbx hN hR q0a q1a q2a l0a lua cPa cQa cP0 cQ0 x0 x1 x2 x3 lX HRF0 HRF1 HD
                      go_upto_region 29 with fail
                      go_cut [243] from 129 to 243 (fun v243 wx => v243 = .bool false ∧ Hid (Below wg.heap.size wg wx))
                      case first =>
                        rcases HE.out with rfl | ⟨rfl, hp, hq, g1, g2, g3⟩
                        · go_quiet (fail)
                          go_wp2_with fail
                          go_meet
                          case rel => exact ⟨rfl, Lib.hid ((Below.refl _ _).drewN _)⟩
                        · have HSP := Lib.hid (fun w' => show Calls Try.prog 25 #[.agg #[.int .i64 k0, .int .i64 k1, .int .i64 k2, .int .i64 k3]] w' fun e' w'' => e' = .returned (.bool true) ∧ Below w'.heap.size w' w'' from isSpan_any hp hq g3 w')
                          have HRA := Lib.hid (fun w' => ratioFrom_any k0 k1 w' (by have := hp.1; simp only at this; omega) (by have := hp.2.2.2.1; simp only at this; omega) (by have := hp.2.2.2.2; simp only at this; omega) (by have := hp.1; simp only at this; omega) (by have := hp.2.1; simp only at this; omega))
                          have HRB := Lib.hid (fun w' => ratioFrom_any k2 k3 w' (by have := hq.1; simp only at this; omega) (by have := hq.2.2.2.1; simp only at this; omega) (by have := hq.2.2.2.2; simp only at this; omega) (by have := hq.1; simp only at this; omega) (by have := hq.2.1; simp only at this; omega))
                          have HSA : Hid (Sz 2 (Rat.divInt k0 k1) ∧ Sz 2 (Rat.divInt k2 k3)) := Lib.hid ⟨frS_sz' hp, frS_sz' hq⟩
                          obtain ⟨d1, hd1⟩ : ∃ d, d = ((Rat.divInt k0 k1).num * D.den - D.num * (Rat.divInt k0 k1).den).sign := ⟨_, rfl⟩
                          obtain ⟨d2, hd2⟩ : ∃ d, d = (D.num * (Rat.divInt k2 k3).den - (Rat.divInt k2 k3).num * D.den).sign := ⟨_, rfl⟩
                          have hb1 : decide (0 < d1) = false := by rw [hd1]; exact cmp_no g1
                          have hb2 : decide (0 < d2) = false := by rw [hd2]; exact cmp_no g2
                          have hb3 : decide (d1 > 0) = false := hb1
                          have hb4 : decide (d2 > 0) = false := hb2
                          have HDD := Lib.hid (And.intro hd1 hd2)
                          clear hp hq g1 g2 g3 hd1 hd2
                          have HN := Lib.hid (Below.refl wg.heap.size wg).drew
                          refine wp_region_laterM (B := wg.heap.size) [(true, 0), (true, 1), (true, 2), (true, 3), (false, 4), (true, 5), (true, 6), (true, 7), (true, 8), (true, 10), (false, 9), (false, 11), (true, 12), (true, 13), (true, 14), (true, 15), (true, 16), (true, 17), (false, 18), (false, 19), (true, 20), (true, 21), (true, 22), (true, 23), (true, 24), (true, 25), (true, 26), (true, 27), (true, 28), (true, 29), (true, 30)] (by kernel_rfl) (by kernel_rfl) ?_; simp only [opsOf, List.filterMap_cons, List.filterMap_nil, List.getElem?_toArray, List.getElem?_cons_zero, List.getElem?_cons_succ, Option.map_some]
                          repeat (refine mix_head ?_; (show wpQuiet _ _ _ _ (_ :: _) _; go_big_quiet_step (fail)); refine wpQuiet_nil ?_)
                          refine mix_tail ?_; go_wp2_with fail
                          refine (HSP.out _).mono ?_
                          rintro eA va ⟨rfl, hbx⟩
                          have hzx := hbx.size
                          have HN := Lib.hid (HN.out.trans (hbx.mono HN.out.size))
                          have hzy := HN.out.size
                          clear hbx
                          go_wp2_with fail
                          refine tailL_mk HN.out ?_
                          repeat (refine mix_head ?_; (show wpQuiet _ _ _ _ (_ :: _) _; go_big_quiet_step (fail)); refine wpQuiet_nil ?_)
                          refine mix_tail ?_; go_wp2_with fail
                          refine (HRA.out _).mono ?_
                          rintro eB vb ⟨vB, rfl, hbx, hB'⟩
                          have HB' := Lib.hid hB'
                          obtain ⟨sB, aB, nB, cB, tB, bB, mB, dB, rfl, _⟩ := hB'
                          have hzx := hbx.size
                          have HN := Lib.hid (HN.out.trans (hbx.mono HN.out.size))
                          have hzy := HN.out.size
                          clear hbx
                          go_wp2_with fail
                          refine tailL_mk HN.out ?_
                          repeat (refine mix_head ?_; (show wpQuiet _ _ _ _ (_ :: _) _; go_big_quiet_step (fail)); refine wpQuiet_nil ?_)
                          refine mix_tail ?_; go_wp2_with fail
                          refine (ratioCmp_any (fun _ => True) _ _ (Rat.divInt k0 k1) D 2 5 _ (HB'.out.mono (fun _ _ => trivial)) (HR.out.below HN.out) HSA.out.1 HSD.out (by omega)).mono ?_
                          rw [← HDD.out.1]
                          rintro eC vc ⟨rfl, hbx⟩
                          have hzx := hbx.size
                          have HN := Lib.hid (HN.out.trans (hbx.mono HN.out.size))
                          have hzy := HN.out.size
                          clear hbx
                          go_wp2_with fail
                          refine tailL_mk HN.out ?_
                          repeat (refine mix_head ?_; (show wpQuiet _ _ _ _ (_ :: _) _; go_big_quiet_step (fail)); refine wpQuiet_nil ?_)
                          refine mix_tail ?_; go_wp2_with fail
                          refine (HRB.out _).mono ?_
                          rintro eB vd ⟨vB, rfl, hbx, hB'⟩
                          have HB' := Lib.hid hB'
                          obtain ⟨sC, aC, nC, cC, tC, bC, mC, dC, rfl, _⟩ := hB'
                          have hzx := hbx.size
                          have HN := Lib.hid (HN.out.trans (hbx.mono HN.out.size))
                          have hzy := HN.out.size
                          clear hbx
                          go_wp2_with fail
                          refine tailL_mk HN.out ?_
                          repeat (refine mix_head ?_; (show wpQuiet _ _ _ _ (_ :: _) _; go_big_quiet_step (fail)); refine wpQuiet_nil ?_)
                          refine mix_tail ?_; go_wp2_with fail
                          refine (ratioCmp_any (fun _ => True) _ _ D (Rat.divInt k2 k3) 5 2 _ (HR.out.below HN.out) (HB'.out.mono (fun _ _ => trivial)) HSD.out HSA.out.2 (by omega)).mono ?_
                          rw [← HDD.out.2]
                          rintro eC ve ⟨rfl, hbx⟩
                          have hzx := hbx.size
                          have HN := Lib.hid (HN.out.trans (hbx.mono HN.out.size))
                          have hzy := HN.out.size
                          clear hbx
                          go_wp2_with fail
                          refine tailL_mk HN.out ?_
                          repeat (refine mix_head ?_; (show wpQuiet _ _ _ _ (_ :: _) _; go_big_quiet_step (fail)); refine wpQuiet_nil ?_)
                          refine mix_nil ?_
                          go_wp2_with fail
                          go_meet
                          case rel => exact ⟨rfl, HN⟩
                      case rest => as_aux_lemma =>
                        obtain ⟨wh', rfl⟩ : ∃ w', w' = wc := ⟨wc, rfl⟩
                        obtain ⟨rfl, hN⟩ := hcut
                        have HBw := Lib.hid (HBw.out.trans (hN.out.mono HBw.out.size))
                        clear hN HE y0 y1 y2 y3 lY HR
                        go_wp2_with fail
                        go_roundw
                        case rel => exact ⟨m + 1 + 1, by go_num, by omega, HBw⟩
                        case measure => simp [intOf]; omega
          · obtain rfl : j = n + 1 := by omega
            go_wp2
            go_ret
            exact ⟨rfl, HBv.out⟩
end Go.Proofs.Ytphgacledebolaa
