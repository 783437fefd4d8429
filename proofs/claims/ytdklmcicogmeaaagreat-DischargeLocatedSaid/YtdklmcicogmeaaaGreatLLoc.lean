import Derived.Test.YtdklmcicogmeaaaGreatDAwk
import Derived.Test.YtdklmcicogmeaaaGreatLocH
import Derived.Test.YtdklmcicogmeaaaGreatMCtd
/- The source is in the region: the statement's function. -/
namespace Go.Proofs.YtdklmcicogmeaaaGreat
open Go.RowKit
set_option linter.unusedVariables false
set_option linter.unusedSimpArgs false
/-- A sensor with wider times. -/
def wdn (wd : Int) (s : Sen) : Sen := ⟨s.x, s.y, s.z, max 0 (s.lo - wd), s.hi + wd⟩
theorem sAt_map {f : Int → Sen} {qs : List Int} {k : Nat} (h : k < qs.length) : sAt (qs.map f) k = f (qs.getD k 0) := by
  unfold sAt; simp [List.getD, h]
theorem sAt_map2 {f : Sen → Sen} {l : List Sen} {k : Nat} (h : k < l.length) : sAt (l.map f) k = f (sAt l k) := by
  unfold sAt; simp [List.getD, h]
theorem loc_main {G : Gri} {C : T3} {ax ua v B : Int} {qs : List Int} {LS : Int → Sen} (hLS : LS = locS G C ax ua v B) (hg : griE G = 0) (hc : celB G C = true) (a0 : 0 ≤ ax) (a1 : ax ≤ 2) (hu0 : 0 ≤ ua) (hu1 : ua ≤ G.st) (hv : 1 ≤ v)
    (hq : ∀ q ∈ qs, -10000 ≤ q ∧ q ≤ 10000) (he : (arrE ⟨v, v, qs.map LS⟩).2 = 0) :
    ansE G ⟨v, v, qs.map LS⟩ C = 0 ∧ hE G ⟨v, v, qs.map LS⟩ = 0 ∧ ans G ⟨v, v, qs.map LS⟩ C ≠ 0 ∧ (regV G ⟨v, v, qs.map LS⟩).any (celQ C (ans G ⟨v, v, qs.map LS⟩ C)) = true ∧ (ctrV G ⟨v, v, qs.map LS⟩).2 = 12 := by
  have h1 : ans G ⟨v, v, qs.map LS⟩ C ≠ 0 := loc_ans (ax := ax) (u := ua) (v := v) (B := B) (qs := qs) hg hc (by omega) hu0 hu1 hv hq (by simp) (Int.le_refl _) (Int.le_refl _) (fun k hk q hqk => by
    simp only
    rw [sAt_map hk, ← hqk, hLS]
    exact ⟨⟨rfl, rfl, rfl⟩, Int.le_refl _, Int.le_refl _⟩)
  have h2 : hE G ⟨v, v, qs.map LS⟩ = 0 := by unfold hE; rw [hg, he]; rfl
  obtain ⟨h3, h4⟩ := reg_has h2 hc h1
  refine ⟨by unfold ansE; rw [hg, he, hc]; rfl, h2, h1, List.any_eq_true.2 ⟨_, h3, by simp [celQ]⟩, by rw [h4]⟩
theorem loc_wide {G : Gri} {C : T3} {ax ua v B wd : Int} {qs : List Int} {LS : Int → Sen} (hLS : LS = locS G C ax ua v B) (hg : griE G = 0) (hc : celB G C = true) (a0 : 0 ≤ ax) (a1 : ax ≤ 2) (hu0 : 0 ≤ ua) (hu1 : ua ≤ G.st) (hv : 1 ≤ v) (hB : 0 ≤ B) (hw : 0 ≤ wd)
    (hq : ∀ q ∈ qs, -10000 ≤ q ∧ q ≤ 10000) (he : (arrE ⟨max 1 (v - wd), v + wd, (qs.map LS).map (wdn wd)⟩).2 = 0) :
    ansE G ⟨max 1 (v - wd), v + wd, (qs.map LS).map (wdn wd)⟩ C = 0 ∧ ans G ⟨max 1 (v - wd), v + wd, (qs.map LS).map (wdn wd)⟩ C ≠ 0 := by
  refine ⟨by unfold ansE; rw [hg, he, hc]; rfl, loc_ans (ax := ax) (u := ua) (v := v) (B := B) (qs := qs) hg hc (by omega) hu0 hu1 hv hq (by simp) (by simp only; omega) (by simp only; omega) (fun k hk q hqk => ?_)⟩
  simp only
  rw [sAt_map2 (by simpa using hk), sAt_map hk, ← hqk, hLS]
  refine ⟨⟨rfl, rfl, rfl⟩, ?_, ?_⟩
  · have h1 : 0 ≤ dst (sS G C ax ua) q / v := Int.ediv_nonneg (by unfold dst; split <;> omega) (by omega)
    show max 0 (B + dst (sS G C ax ua) q / v - wd) ≤ B + dst (sS G C ax ua) q / v
    omega
  · show B + -((-dst (sS G C ax ua) q) / v) ≤ B + -((-dst (sS G C ax ua) q) / v) + wd
    omega
theorem heap_set_neL {W : World} {b i k : Nat} {v : Value} (h : k ≠ b) : (W.setCell ⟨b, i, none⟩ v).heap[k]? = W.heap[k]? := by
  simp [World.setCell, Array.getElem?_modify, h.symm]
theorem wid_step {cur : Array Value} {L : List Sen} {wd u1 u2 u3 lo hi : Int} {k nq : Nat} (hc : ∀ i, i < nq → ∀ j, j < 5 → cur[i * 5 + j]? = (e5 (if i < k then wdn wd (sAt L i) else sAt L i))[j]?) (hk : k < nq) (hs : sAt L k = ⟨u1, u2, u3, lo, hi⟩) :
    ∀ i, i < nq → ∀ j, j < 5 → ((cur.setIfInBounds (k * 5 + 3) (.int .i64 (max 0 (lo - wd)))).setIfInBounds (k * 5 + 4) (.int .i64 (hi + wd)))[i * 5 + j]? = (e5 (if i < k + 1 then wdn wd (sAt L i) else sAt L i))[j]? := by
  intro i hi j hj
  by_cases hik : i = k
  · subst hik
    have hck := hc i hk
    rw [if_neg (Nat.lt_irrefl i), hs] at hck
    have b3 : i * 5 + 3 < cur.size := (Array.getElem?_eq_some_iff.1 (hck 3 (by omega))).1
    have b4 : i * 5 + 4 < cur.size := (Array.getElem?_eq_some_iff.1 (hck 4 (by omega))).1
    rw [if_pos (Nat.lt_succ_self i), hs]
    have h0 := hck 0 (by omega)
    have h1 := hck 1 (by omega)
    have h2 := hck 2 (by omega)
    obtain rfl | rfl | rfl | rfl | rfl : j = 0 ∨ j = 1 ∨ j = 2 ∨ j = 3 ∨ j = 4 := by omega
    · rw [Array.getElem?_setIfInBounds_ne (by omega), Array.getElem?_setIfInBounds_ne (by omega), h0]; rfl
    · rw [Array.getElem?_setIfInBounds_ne (by omega), Array.getElem?_setIfInBounds_ne (by omega), h1]; rfl
    · rw [Array.getElem?_setIfInBounds_ne (by omega), Array.getElem?_setIfInBounds_ne (by omega), h2]; rfl
    · rw [Array.getElem?_setIfInBounds_ne (by omega), Array.getElem?_setIfInBounds_self_of_lt b3]; rfl
    · rw [Array.getElem?_setIfInBounds_self_of_lt (by simpa using b4)]; rfl
  · rw [Array.getElem?_setIfInBounds_ne (by omega), Array.getElem?_setIfInBounds_ne (by omega), hc i hi j hj]
    by_cases h : i < k
    · rw [if_pos h, if_pos (by omega)]
    · rw [if_neg h, if_neg (by omega)]
theorem sen_of_blk {W : World} {g nq : Nat} {cur : Array Value} {L : List Sen} {wd : Int} {t : TypeId} (hg : W.heap[g]? = some (.cells cur t)) (hl : L.length = nq) (hn : nq ≤ 100)
    (hcur : ∀ i, i < nq → ∀ j, j < 5 → cur[i * 5 + j]? = (e5 (if i < nq then wdn wd (sAt L i) else sAt L i))[j]?) : SenR W (some ⟨g, 0, none⟩) nq (L.map (wdn wd)) := by
  refine ⟨by rw [List.length_map]; exact hl, by rw [ecells_len e5_len, List.length_map, hl], by unfold maxLen; omega, fun _ => ⟨g, 0, rfl, blk_lt hg, fun i u hu => ?_⟩⟩
  have hiL : i < nq * 5 := by
    have h := (List.getElem?_eq_some_iff.1 hu).1
    rwa [ecells_len e5_len, List.length_map, hl] at h
  have hi5 : i / 5 < nq := by omega
  have hx : (L.map (wdn wd))[i / 5]? = some (wdn wd (sAt L (i / 5))) := by
    obtain ⟨x, hx⟩ : ∃ x, L[i / 5]? = some x := get_of_lt hl hi5
    rw [List.getElem?_map, hx, sAt_getE hx]; rfl
  have e := ecells_get e5_len hx (i % 5) (by omega)
  rw [show i / 5 * 5 + i % 5 = i by omega, hu] at e
  have e2 := hcur (i / 5) hi5 (i % 5) (by omega)
  rw [if_pos hi5, show i / 5 * 5 + i % 5 = i by omega, ← e] at e2
  rw [Nat.zero_add]
  exact blk_cell hg e2
theorem put_blk {W : World} {X : Nat} {a b c v : Int} {t : TypeId} {ax : Int} (h : W.heap[X]? = some (.cells #[.int .i64 a, .int .i64 b, .int .i64 c] t)) (ha0 : 0 ≤ ax) (ha : ax ≤ 2) :
    (W.setCell ⟨X, ax.toNat, none⟩ (.int .i64 v)).heap[X]? = some (.cells #[.int .i64 (putA ⟨a, b, c⟩ ax v).x, .int .i64 (putA ⟨a, b, c⟩ ax v).y, .int .i64 (putA ⟨a, b, c⟩ ax v).z] t) := by
  rw [blk_set h]
  obtain rfl | rfl | rfl : ax = 0 ∨ ax = 1 ∨ ax = 2 := by omega
  all_goals rfl
theorem put_blk5 {W : World} {X : Nat} {a b c v p q : Int} {t : TypeId} {ax : Int} (h : W.heap[X]? = some (.cells #[.int .i64 a, .int .i64 b, .int .i64 c, .int .i64 p, .int .i64 q] t)) (ha0 : 0 ≤ ax) (ha : ax ≤ 2) :
    (W.setCell ⟨X, ax.toNat, none⟩ (.int .i64 v)).heap[X]? = some (.cells #[.int .i64 (putA ⟨a, b, c⟩ ax v).x, .int .i64 (putA ⟨a, b, c⟩ ax v).y, .int .i64 (putA ⟨a, b, c⟩ ax v).z, .int .i64 p, .int .i64 q] t) := by
  rw [blk_set h]
  obtain rfl | rfl | rfl : ax = 0 ∨ ax = 1 ∨ ax = 2 := by omega
  all_goals rfl
theorem get_blk {W : World} {X : Nat} {a b c : Int} {t : TypeId} {ax : Int} (h : W.heap[X]? = some (.cells #[.int .i64 a, .int .i64 b, .int .i64 c] t)) (ha0 : 0 ≤ ax) (ha : ax ≤ 2) :
    W.cell? ⟨X, ax.toNat, none⟩ = some (.int .i64 (getA ⟨a, b, c⟩ ax)) := by
  refine blk_cell h ?_
  obtain rfl | rfl | rfl : ax = 0 ∨ ax = 1 ∨ ax = 2 := by omega
  all_goals rfl
theorem get_blk5 {W : World} {X : Nat} {a b c p q : Int} {t : TypeId} {ax : Int} (h : W.heap[X]? = some (.cells #[.int .i64 a, .int .i64 b, .int .i64 c, .int .i64 p, .int .i64 q] t)) (ha0 : 0 ≤ ax) (ha : ax ≤ 2) :
    W.cell? ⟨X, ax.toNat, none⟩ = some (.int .i64 (getA ⟨a, b, c⟩ ax)) := by
  refine blk_cell h ?_
  obtain rfl | rfl | rfl : ax = 0 ∨ ax = 1 ∨ ax = 2 := by omega
  all_goals rfl
theorem getA_bd {a b c lo hi : Int} {an : Int} (h1 : lo ≤ a ∧ a ≤ hi) (h2 : lo ≤ b ∧ b ≤ hi) (h3 : lo ≤ c ∧ c ≤ hi) : lo ≤ getA ⟨a, b, c⟩ an ∧ getA ⟨a, b, c⟩ an ≤ hi := by
  unfold getA; split
  · exact h1
  · split
    · exact h2
    · exact h3
theorem getA_put {p : T3} {ax : Int} {v : Int} (ha0 : 0 ≤ ax) (ha : ax ≤ 2) : getA (putA p ax v) ax = v := by
  obtain rfl | rfl | rfl : ax = 0 ∨ ax = 1 ∨ ax = 2 := by omega
  all_goals rfl
theorem dst_sz (s q : Int) : dst s q = sz (q - s) := by unfold dst sz; split <;> omega
theorem dst_bd {s q : Int} (h1 : -100000 ≤ s) (h2 : s ≤ 100000) (h3 : -100000 ≤ q) (h4 : q ≤ 100000) : 0 ≤ dst s q ∧ dst s q ≤ 200000 := by unfold dst; split <;> omega
theorem locS_mk (G : Gri) (C : T3) (ax u v B q : Int) : e5 (locS G C ax u v B q) = [.int .i64 (putA (crn G C) ax q).x, .int .i64 (putA (crn G C) ax q).y, .int .i64 (putA (crn G C) ax q).z, .int .i64 (B + dst (getA (crn G C) ax + u) q / v), .int .i64 (B + -((-dst (getA (crn G C) ax + u) q) / v))] := rfl
theorem div_bd {d v : Int} (h0 : 0 ≤ d) (h1 : d ≤ 200000) (hv : 1 ≤ v) : (0 ≤ d / v ∧ d / v ≤ 200000) ∧ (0 ≤ -((-d) / v) ∧ -((-d) / v) ≤ 200000) := by
  have a1 : 0 ≤ d / v := Int.ediv_nonneg h0 (by omega)
  have a2 : d / v ≤ d := Int.ediv_le_self _ h0
  have a3 : (-d) / v ≤ 0 := by
    have := Int.ediv_le_ediv (show 0 < v by omega) (show -d ≤ 0 by omega)
    simpa using this
  have a4 : -200000 ≤ (-d) / v := Int.le_ediv_of_mul_le (by omega) (by
    have : -200000 * v ≤ -200000 * 1 := Int.mul_le_mul_of_nonpos_left (by decide) hv
    omega)
  omega
theorem mul_bd5 {x st : Int} (h0 : 0 ≤ x) (h1 : x ≤ 5) (s0 : 1 ≤ st) (s1 : st ≤ 1000) : 0 ≤ x * st ∧ x * st ≤ 5000 :=
  ⟨Int.mul_nonneg h0 (by omega), Int.le_trans (Int.mul_le_mul h1 s1 (by omega) (by decide)) (by decide)⟩
set_option maxHeartbeats 8000000 in
set_option maxRecDepth 100000 in
theorem loc_any (g : Gri) (c : T3) (uu ax v B wd : Int) (qs : List Int) (aq : Option Addr) (nq cq : Nat) (w : World) (hu0 : -9223372036854775808 ≤ uu) (hu1 : uu ≤ 9223372036854775807) (hq : IntsR w aq nq qs) :
    Calls Tryz.prog 3 #[.agg #[.int .i64 g.f.x, .int .i64 g.f.y, .int .i64 g.f.z, .int .i64 g.st, .int .i64 g.c.x, .int .i64 g.c.y, .int .i64 g.c.z], .agg #[.int .i64 c.x, .int .i64 c.y, .int .i64 c.z, .int .i64 uu, .int .i64 ax, .int .i64 v, .int .i64 B, .int .i64 wd], .slice aq nq cq] w
      fun e' w' => e' = .returned (.bool true) ∧ Below w.heap.size w w' := by
  have hnq := hq.small
  have HQ := Lib.hid (fun (W : World) (hb : Below w.heap.size w W) => hq.below hb)
  have HQN := Lib.hid (show qs.length = nq from by have := hq.len; simpa [icells] using this)
  have HG := Lib.hid (fun w' => rGridErr_any g w')
  have HL := Lib.hid (fun w' => isLight_any g w')
  have HIC := Lib.hid (fun (h : griE g = 0) w' => rIsCell_any g c w' (griE_zero h).2.2)
  have HAE := Lib.hid (fun (A : Arr) (a : Option Addr) (n cp : Nat) (W : World) (h : SenR W a n A.l) => arrivalsErr_any A a n cp W h)
  have HAA := Lib.hid (fun (A : Arr) (a : Option Addr) (n cp : Nat) (W : World) (h : SenR W a n A.l) => answerAt_any g A c a n cp W h)
  have HRO := Lib.hid (fun (A : Arr) (a : Option Addr) (n cp : Nat) (W : World) (h : SenR W a n A.l) => regionOf_any g A a n cp W h)
  have HCO := Lib.hid (fun (A : Arr) (a : Option Addr) (n cp : Nat) (W : World) (h : SenR W a n A.l) => contradicting_any g A a n cp W h)
  have HHC := Lib.hid (fun (l : List Cel) (a : Option Addr) (n cp : Nat) (u : Int) (W : World) (h : CelR W a n l) => hasCell_any l a n cp c u W h)
  have HBW := Lib.hid (fun (n lo hi : Int) w' => bwithin_any n lo hi w')
  clear hq
  obtain ⟨⟨fx, fy, fz⟩, st, ⟨gx, gy, gz⟩⟩ := g
  obtain ⟨cx, cy, cz⟩ := c
  simp only at HG HL HIC HAA HRO HCO HHC ⊢
  obtain ⟨G, hG⟩ : ∃ G, G = (⟨⟨fx, fy, fz⟩, st, ⟨gx, gy, gz⟩⟩ : Gri) := ⟨_, rfl⟩
  obtain ⟨C, hC⟩ : ∃ C, C = (⟨cx, cy, cz⟩ : T3) := ⟨_, rfl⟩
  rw [← hG] at HG HL HIC HAA HRO HCO
  rw [← hC] at HIC HAA HHC
  have HGC := Lib.hid (And.intro hG hC)
  clear hG hC
  obtain ⟨D1, hD1⟩ : ∃ D, D = griE G := ⟨_, rfl⟩
  rw [← hD1] at HG HIC
  have HD1 := Lib.hid hD1
  clear hD1
  generalize ligB G = LB at *
  go_enter Tryz.func3, Tryz.ntmps3
  go_wp2_with fail
  obtain ⟨w4, hW⟩ : ∃ w4, w4 = (w.alloc (Obj.cells #[.int .i64 fx, .int .i64 fy, .int .i64 fz, .int .i64 st, .int .i64 gx, .int .i64 gy, .int .i64 gz] 24)).alloc (Obj.cells #[.int .i64 cx, .int .i64 cy, .int .i64 cz, .int .i64 uu, .int .i64 ax, .int .i64 v, .int .i64 B, .int .i64 wd] 26) := ⟨_, rfl⟩
  rw [← hW]
  have hb4 : Below w.heap.size w w4 := by rw [hW]; (repeat' (first | (with_reducible exact Below.refl _ _) | (with_reducible assumption) | (with_reducible refine Below.drewN ?_ _) | (with_reducible refine Below.alloc ?_ ?_ _) | (with_reducible refine Below.drew ?_) | (with_reducible refine Below.setCell ?_ ?_ _) | (with_reducible refine Below.step (by assumption) ?_ ?_) | (with_reducible exact And.left (by assumption)) | go_size))
  have kG : w4.heap[w.heap.size]? = some (.cells #[.int .i64 fx, .int .i64 fy, .int .i64 fz, .int .i64 st, .int .i64 gx, .int .i64 gy, .int .i64 gz] 24) := by
    rw [hW, Below.heap_alloc _ _ _ (by simp)]; exact heap_alloc_new _ _
  have kA : w4.heap[w.heap.size + 1]? = some (.cells #[.int .i64 cx, .int .i64 cy, .int .i64 cz, .int .i64 uu, .int .i64 ax, .int .i64 v, .int .i64 B, .int .i64 wd] 26) := by
    rw [hW]
    have := heap_alloc_new (w.alloc (Obj.cells #[.int .i64 fx, .int .i64 fy, .int .i64 fz, .int .i64 st, .int .i64 gx, .int .i64 gy, .int .i64 gz] 24)) (Obj.cells #[.int .i64 cx, .int .i64 cy, .int .i64 cz, .int .i64 uu, .int .i64 ax, .int .i64 v, .int .i64 B, .int .i64 wd] 26)
    simpa using this
  have HB4 := Lib.hid hb4
  clear hW hb4
  have HB := Lib.hid (Below.refl w4.heap.size w4)
  have kg : w4.heap[w.heap.size]? = some (.cells #[.int .i64 fx, .int .i64 fy, .int .i64 fz, .int .i64 st, .int .i64 gx, .int .i64 gy, .int .i64 gz] 24) := blk_below kG HB.out
  have ka : w4.heap[w.heap.size + 1]? = some (.cells #[.int .i64 cx, .int .i64 cy, .int .i64 cz, .int .i64 uu, .int .i64 ax, .int .i64 v, .int .i64 B, .int .i64 wd] 26) := blk_below kA HB.out
  have q0 := blk_cell kg (i := 0) rfl
  have q1 := blk_cell kg (i := 1) rfl
  have q2 := blk_cell kg (i := 2) rfl
  have q3 := blk_cell kg (i := 3) rfl
  have q4 := blk_cell kg (i := 4) rfl
  have q5 := blk_cell kg (i := 5) rfl
  have q6 := blk_cell kg (i := 6) rfl
  have p0 := blk_cell ka (i := 0) rfl
  have p1 := blk_cell ka (i := 1) rfl
  have p2 := blk_cell ka (i := 2) rfl
  have p3 := blk_cell ka (i := 3) rfl
  have p4 := blk_cell ka (i := 4) rfl
  have p5 := blk_cell ka (i := 5) rfl
  have p6 := blk_cell ka (i := 6) rfl
  have p7 := blk_cell ka (i := 7) rfl
  have lr0 := blk_lt kg
  have lr1 := blk_lt ka
  clear kg ka
  refine (awake9_any _).mono ?_
  rintro e5 w5 ⟨rfl, hb5⟩
  replace HB := Lib.hid (HB.out.trans (hb5.mono HB.out.size))
  clear hb5
  clear q0 q1 q2 q3 q4 q5 q6 p0 p1 p2 p3 p4 p5 p6 p7 lr0 lr1
  have kg : w5.heap[w.heap.size]? = some (.cells #[.int .i64 fx, .int .i64 fy, .int .i64 fz, .int .i64 st, .int .i64 gx, .int .i64 gy, .int .i64 gz] 24) := blk_below kG HB.out
  have ka : w5.heap[w.heap.size + 1]? = some (.cells #[.int .i64 cx, .int .i64 cy, .int .i64 cz, .int .i64 uu, .int .i64 ax, .int .i64 v, .int .i64 B, .int .i64 wd] 26) := blk_below kA HB.out
  have q0 := blk_cell kg (i := 0) rfl
  have q1 := blk_cell kg (i := 1) rfl
  have q2 := blk_cell kg (i := 2) rfl
  have q3 := blk_cell kg (i := 3) rfl
  have q4 := blk_cell kg (i := 4) rfl
  have q5 := blk_cell kg (i := 5) rfl
  have q6 := blk_cell kg (i := 6) rfl
  have p0 := blk_cell ka (i := 0) rfl
  have p1 := blk_cell ka (i := 1) rfl
  have p2 := blk_cell ka (i := 2) rfl
  have p3 := blk_cell ka (i := 3) rfl
  have p4 := blk_cell ka (i := 4) rfl
  have p5 := blk_cell ka (i := 5) rfl
  have p6 := blk_cell ka (i := 6) rfl
  have p7 := blk_cell ka (i := 7) rfl
  have lr0 := blk_lt kg
  have lr1 := blk_lt ka
  clear kg ka
  go_wp2_with fail
  refine (HG.out _).mono ?_
  rintro e6 w6 ⟨rfl, hb6⟩
  replace HB := Lib.hid (HB.out.trans (hb6.mono HB.out.size))
  clear hb6
  clear q0 q1 q2 q3 q4 q5 q6 p0 p1 p2 p3 p4 p5 p6 p7 lr0 lr1
  have kg : w6.heap[w.heap.size]? = some (.cells #[.int .i64 fx, .int .i64 fy, .int .i64 fz, .int .i64 st, .int .i64 gx, .int .i64 gy, .int .i64 gz] 24) := blk_below kG HB.out
  have ka : w6.heap[w.heap.size + 1]? = some (.cells #[.int .i64 cx, .int .i64 cy, .int .i64 cz, .int .i64 uu, .int .i64 ax, .int .i64 v, .int .i64 B, .int .i64 wd] 26) := blk_below kA HB.out
  have q0 := blk_cell kg (i := 0) rfl
  have q1 := blk_cell kg (i := 1) rfl
  have q2 := blk_cell kg (i := 2) rfl
  have q3 := blk_cell kg (i := 3) rfl
  have q4 := blk_cell kg (i := 4) rfl
  have q5 := blk_cell kg (i := 5) rfl
  have q6 := blk_cell kg (i := 6) rfl
  have p0 := blk_cell ka (i := 0) rfl
  have p1 := blk_cell ka (i := 1) rfl
  have p2 := blk_cell ka (i := 2) rfl
  have p3 := blk_cell ka (i := 3) rfl
  have p4 := blk_cell ka (i := 4) rfl
  have p5 := blk_cell ka (i := 5) rfl
  have p6 := blk_cell ka (i := 6) rfl
  have p7 := blk_cell ka (i := 7) rfl
  have lr0 := blk_lt kg
  have lr1 := blk_lt ka
  clear kg ka
  by_cases h1 : D1 = 0
  · subst h1
    have HICX := Lib.hid (HIC.out rfl)
    obtain ⟨cb, hcb⟩ : ∃ b, b = celB G C := ⟨_, rfl⟩
    rw [← hcb] at HICX
    have HCB := Lib.hid hcb
    clear hcb HIC HG
    go_wp2_with fail
    refine (HL.out _).mono ?_
    rintro e7 w7 ⟨rfl, hb7⟩
    replace HB := Lib.hid (HB.out.trans (hb7.mono HB.out.size))
    clear hb7
    clear q0 q1 q2 q3 q4 q5 q6 p0 p1 p2 p3 p4 p5 p6 p7 lr0 lr1
    have kg : w7.heap[w.heap.size]? = some (.cells #[.int .i64 fx, .int .i64 fy, .int .i64 fz, .int .i64 st, .int .i64 gx, .int .i64 gy, .int .i64 gz] 24) := blk_below kG HB.out
    have ka : w7.heap[w.heap.size + 1]? = some (.cells #[.int .i64 cx, .int .i64 cy, .int .i64 cz, .int .i64 uu, .int .i64 ax, .int .i64 v, .int .i64 B, .int .i64 wd] 26) := blk_below kA HB.out
    have q0 := blk_cell kg (i := 0) rfl
    have q1 := blk_cell kg (i := 1) rfl
    have q2 := blk_cell kg (i := 2) rfl
    have q3 := blk_cell kg (i := 3) rfl
    have q4 := blk_cell kg (i := 4) rfl
    have q5 := blk_cell kg (i := 5) rfl
    have q6 := blk_cell kg (i := 6) rfl
    have p0 := blk_cell ka (i := 0) rfl
    have p1 := blk_cell ka (i := 1) rfl
    have p2 := blk_cell ka (i := 2) rfl
    have p3 := blk_cell ka (i := 3) rfl
    have p4 := blk_cell ka (i := 4) rfl
    have p5 := blk_cell ka (i := 5) rfl
    have p6 := blk_cell ka (i := 6) rfl
    have p7 := blk_cell ka (i := 7) rfl
    have lr0 := blk_lt kg
    have lr1 := blk_lt ka
    clear kg ka
    cases LB
    · skip
      go_wp2_with fail
      all_goals go_ret
      all_goals exact ⟨by first | rfl | exact ret_bool (by simp), HB4.out.trans (HB.out.mono HB4.out.size)⟩
    · go_wp2_with fail
      refine (HICX.out _).mono ?_
      rintro e8 w8 ⟨rfl, hb8⟩
      replace HB := Lib.hid (HB.out.trans (hb8.mono HB.out.size))
      clear hb8
      clear q0 q1 q2 q3 q4 q5 q6 p0 p1 p2 p3 p4 p5 p6 p7 lr0 lr1
      have kg : w8.heap[w.heap.size]? = some (.cells #[.int .i64 fx, .int .i64 fy, .int .i64 fz, .int .i64 st, .int .i64 gx, .int .i64 gy, .int .i64 gz] 24) := blk_below kG HB.out
      have ka : w8.heap[w.heap.size + 1]? = some (.cells #[.int .i64 cx, .int .i64 cy, .int .i64 cz, .int .i64 uu, .int .i64 ax, .int .i64 v, .int .i64 B, .int .i64 wd] 26) := blk_below kA HB.out
      have q0 := blk_cell kg (i := 0) rfl
      have q1 := blk_cell kg (i := 1) rfl
      have q2 := blk_cell kg (i := 2) rfl
      have q3 := blk_cell kg (i := 3) rfl
      have q4 := blk_cell kg (i := 4) rfl
      have q5 := blk_cell kg (i := 5) rfl
      have q6 := blk_cell kg (i := 6) rfl
      have p0 := blk_cell ka (i := 0) rfl
      have p1 := blk_cell ka (i := 1) rfl
      have p2 := blk_cell ka (i := 2) rfl
      have p3 := blk_cell ka (i := 3) rfl
      have p4 := blk_cell ka (i := 4) rfl
      have p5 := blk_cell ka (i := 5) rfl
      have p6 := blk_cell ka (i := 6) rfl
      have p7 := blk_cell ka (i := 7) rfl
      have lr0 := blk_lt kg
      have lr1 := blk_lt ka
      clear kg ka
      cases cb
      · skip
        go_wp2_with fail
        all_goals go_ret
        all_goals exact ⟨by first | rfl | exact ret_bool (by simp), HB4.out.trans (HB.out.mono HB4.out.size)⟩
      · have HW1 := Lib.hid (fun w' => HBW.out ax 0 2 w')
        have HW2 := Lib.hid (fun w' => HBW.out v 1 1000 w')
        have HW3 := Lib.hid (fun w' => HBW.out B 0 1000 w')
        have HW4 := Lib.hid (fun w' => HBW.out wd 0 1000 w')
        have HW5 := Lib.hid (fun w' => HBW.out (nq : Int) 2 5 w')
        obtain ⟨b1, hb1⟩ : ∃ b, b = wi ax 0 2 := ⟨_, rfl⟩
        obtain ⟨b2, hb2⟩ : ∃ b, b = wi v 1 1000 := ⟨_, rfl⟩
        obtain ⟨b3, hb3⟩ : ∃ b, b = wi B 0 1000 := ⟨_, rfl⟩
        obtain ⟨b4, hb4⟩ : ∃ b, b = wi wd 0 1000 := ⟨_, rfl⟩
        obtain ⟨b5, hb5⟩ : ∃ b, b = wi (nq : Int) 2 5 := ⟨_, rfl⟩
        rw [← hb1] at HW1
        rw [← hb2] at HW2
        rw [← hb3] at HW3
        rw [← hb4] at HW4
        rw [← hb5] at HW5
        have HWW := Lib.hid (And.intro hb1 (And.intro hb2 (And.intro hb3 (And.intro hb4 hb5))))
        clear hb1 hb2 hb3 hb4 hb5
        go_wp2_with fail
        refine (HW1.out _).mono ?_
        rintro e9 w9 ⟨rfl, rfl⟩
        cases b1
        · skip
          go_wp2_with fail
          all_goals go_ret
          all_goals exact ⟨by first | rfl | exact ret_bool (by simp), HB4.out.trans (HB.out.mono HB4.out.size)⟩
        · go_wp2_with fail
          refine (HW2.out _).mono ?_
          rintro e9 w9 ⟨rfl, rfl⟩
          cases b2
          · skip
            go_wp2_with fail
            all_goals go_ret
            all_goals exact ⟨by first | rfl | exact ret_bool (by simp), HB4.out.trans (HB.out.mono HB4.out.size)⟩
          · go_wp2_with fail
            refine (HW3.out _).mono ?_
            rintro e9 w9 ⟨rfl, rfl⟩
            cases b3
            · skip
              go_wp2_with fail
              all_goals go_ret
              all_goals exact ⟨by first | rfl | exact ret_bool (by simp), HB4.out.trans (HB.out.mono HB4.out.size)⟩
            · go_wp2_with fail
              refine (HW4.out _).mono ?_
              rintro e9 w9 ⟨rfl, rfl⟩
              cases b4
              · skip
                go_wp2_with fail
                all_goals go_ret
                all_goals exact ⟨by first | rfl | exact ret_bool (by simp), HB4.out.trans (HB.out.mono HB4.out.size)⟩
              · go_wp2_with fail
                refine (HW5.out _).mono ?_
                rintro e9 w9 ⟨rfl, rfl⟩
                cases b5
                · skip
                  go_wp2_with fail
                  all_goals go_ret
                  all_goals exact ⟨by first | rfl | exact ret_bool (by simp), HB4.out.trans (HB.out.mono HB4.out.size)⟩
                · obtain ⟨m1, m2, m3, m4, m5⟩ := HWW.out
                  obtain ⟨a0, a1⟩ := wi_iff.1 m1.symm
                  obtain ⟨v0, v1⟩ := wi_iff.1 m2.symm
                  obtain ⟨B0, B1⟩ := wi_iff.1 m3.symm
                  obtain ⟨d0, d1⟩ := wi_iff.1 m4.symm
                  obtain ⟨n0, n1⟩ := wi_iff.1 m5.symm
                  clear m1 m2 m3 m4 m5 HW1 HW2 HW3 HW4 HW5 HWW HICX HL
                  have an3 : ax < 3 := by omega
                  obtain ⟨hf, hst, hcn⟩ := griE_zero HD1.out.symm
                  have hcb := HCB.out.symm
                  rw [HGC.out.1] at hf hst hcn hcb
                  rw [HGC.out.2] at hcb
                  obtain ⟨⟨f1, f2⟩, ⟨f3, f4⟩, f5, f6⟩ := plc_iff.1 hf
                  obtain ⟨⟨g1, g2⟩, ⟨g3, g4⟩, g5, g6⟩ := cnt_iff.1 hcn
                  obtain ⟨⟨c1, c2⟩, ⟨c3, c4⟩, c5, c6⟩ := celB_iff.1 hcb
                  simp only at hst f1 f2 f3 f4 f5 f6 g1 g2 g3 g4 g5 g6 c1 c2 c3 c4 c5 c6
                  obtain ⟨s0, s1⟩ := hst
                  clear hf hcn hcb
                  have M1 := mul_bd5 c1 (show cx ≤ 5 by omega) s0 s1
                  have M2 := mul_bd5 c3 (show cy ≤ 5 by omega) s0 s1
                  have M3 := mul_bd5 c5 (show cz ≤ 5 by omega) s0 s1
                  have e1 : IntKind.i64.wrap (cx * st) = cx * st := by rw [IntKind.wrap_i64]; omega
                  have e2 : IntKind.i64.wrap (cy * st) = cy * st := by rw [IntKind.wrap_i64]; omega
                  have e3 : IntKind.i64.wrap (cz * st) = cz * st := by rw [IntKind.wrap_i64]; omega
                  obtain ⟨S1, hS1⟩ : ∃ S, S = fx + cx * st := ⟨_, rfl⟩
                  obtain ⟨S2, hS2⟩ : ∃ S, S = fy + cy * st := ⟨_, rfl⟩
                  obtain ⟨S3, hS3⟩ : ∃ S, S = fz + cz * st := ⟨_, rfl⟩
                  have e4 : IntKind.i64.wrap (fx + cx * st) = S1 := by rw [IntKind.wrap_i64]; omega
                  have e5 : IntKind.i64.wrap (fy + cy * st) = S2 := by rw [IntKind.wrap_i64]; omega
                  have e6 : IntKind.i64.wrap (fz + cz * st) = S3 := by rw [IntKind.wrap_i64]; omega
                  have hb1 : -10000 ≤ S1 ∧ S1 ≤ 15000 := by omega
                  have hb2 : -10000 ≤ S2 ∧ S2 ≤ 15000 := by omega
                  have hb3 : -10000 ≤ S3 ∧ S3 ≤ 15000 := by omega
                  have HSS := Lib.hid (And.intro hS1 (And.intro hS2 hS3))
                  clear hS1 hS2 hS3 M1 M2 M3
                  go_wp2_with fail
                  obtain ⟨w10, hW⟩ : ∃ w10, w10 = w8.alloc (Obj.cells #[.int .i64 0, .int .i64 0, .int .i64 0] 22) := ⟨_, rfl⟩
                  rw [← hW]
                  obtain ⟨X7, hX7⟩ : ∃ X, X = w8.heap.size := ⟨_, rfl⟩
                  rw [← hX7]
                  have hb10 : Below w8.heap.size w8 w10 := by rw [hW]; (repeat' (first | (with_reducible exact Below.refl _ _) | (with_reducible assumption) | (with_reducible refine Below.drewN ?_ _) | (with_reducible refine Below.alloc ?_ ?_ _) | (with_reducible refine Below.drew ?_) | (with_reducible refine Below.setCell ?_ ?_ _) | (with_reducible refine Below.step (by assumption) ?_ ?_) | (with_reducible exact And.left (by assumption)) | go_size))
                  have k7 : w10.heap[X7]? = some (.cells #[.int .i64 0, .int .i64 0, .int .i64 0] 22) := by rw [hW, hX7]; exact heap_alloc_new _ _
                  have hX4 : w4.heap.size ≤ X7 := by rw [hX7]; exact HB.out.size
                  have HB10 := Lib.hid (HB.out.trans (hb10.mono HB.out.size))
                  clear hW hX7 hb10 HB
                  clear q0 q1 q2 q3 q4 q5 q6 p0 p1 p2 p3 p4 p5 p6 p7 lr0 lr1
                  go_loopw [8] (fun i wr => ∃ (k : Nat) (P0 P1 P2 : Int), i = .int .i64 (k : Int) ∧ k ≤ 3 ∧ Hid (wr.heap[X7]? = some (.cells #[.int .i64 P0, .int .i64 P1, .int .i64 P2] 22)) ∧ Hid ((0 < k → P0 = S1) ∧ (1 < k → P1 = S2) ∧ (2 < k → P2 = S3)) ∧ Hid (Below X7 w10 wr)) (fun i _ => 3 - (intOf i).toNat)
                  case atStart => exact ⟨0, 0, 0, 0, rfl, Nat.zero_le _, Lib.hid k7, Lib.hid ⟨fun h => absurd h (by omega), fun h => absurd h (by omega), fun h => absurd h (by omega)⟩, Lib.hid (Below.refl _ _)⟩
                  case round =>
                    obtain ⟨k, P0, P1, P2, rfl, hk, hK, hP, hB2⟩ := hrel
                    have HB := Lib.hid (HB10.out.trans (hB2.out.mono hX4))
                    have y0 := blk_cell hK.out (i := 0) rfl
                    have y1 := blk_cell hK.out (i := 1) rfl
                    have y2 := blk_cell hK.out (i := 2) rfl
                    have z0 := blk_fz hK.out 0
                    have z1 := blk_fz hK.out 1
                    have z2 := blk_fz hK.out 2
                    have ly := blk_lt hK.out
                    have kg : wr.heap[w.heap.size]? = some (.cells #[.int .i64 fx, .int .i64 fy, .int .i64 fz, .int .i64 st, .int .i64 gx, .int .i64 gy, .int .i64 gz] 24) := blk_below kG HB.out
                    have ka : wr.heap[w.heap.size + 1]? = some (.cells #[.int .i64 cx, .int .i64 cy, .int .i64 cz, .int .i64 uu, .int .i64 ax, .int .i64 v, .int .i64 B, .int .i64 wd] 26) := blk_below kA HB.out
                    have q0 := blk_cell kg (i := 0) rfl
                    have q1 := blk_cell kg (i := 1) rfl
                    have q2 := blk_cell kg (i := 2) rfl
                    have q3 := blk_cell kg (i := 3) rfl
                    have q4 := blk_cell kg (i := 4) rfl
                    have q5 := blk_cell kg (i := 5) rfl
                    have q6 := blk_cell kg (i := 6) rfl
                    have p0 := blk_cell ka (i := 0) rfl
                    have p1 := blk_cell ka (i := 1) rfl
                    have p2 := blk_cell ka (i := 2) rfl
                    have p3 := blk_cell ka (i := 3) rfl
                    have p4 := blk_cell ka (i := 4) rfl
                    have p5 := blk_cell ka (i := 5) rfl
                    have p6 := blk_cell ka (i := 6) rfl
                    have p7 := blk_cell ka (i := 7) rfl
                    have lr0 := blk_lt kg
                    have lr1 := blk_lt ka
                    clear kg ka
                    have hk4 : k = 0 ∨ k = 1 ∨ k = 2 ∨ k = 3 := by omega
                    rcases hk4 with rfl | rfl | rfl | hk3
                    · skip
                      go_wp2_with fail
                      refine drew_of_eq 14 (by kernel_rfl) (by kernel_rfl) ?_; simp only [List.take_succ_cons, List.take_zero, List.drop_succ_cons, List.drop_zero]; repeat go_big_quiet_step (fail)
                      refine wpQuiet_nil ?_; intro m7
                      have y0 : (wr.drewN m7).cell? ⟨X7, 0, none⟩ = some (.int .i64 P0) := y0
                      have y1 : (wr.drewN m7).cell? ⟨X7, 1, none⟩ = some (.int .i64 P1) := y1
                      have y2 : (wr.drewN m7).cell? ⟨X7, 2, none⟩ = some (.int .i64 P2) := y2
                      go_wp2
                      go_roundw
                      case rel => exact ⟨0 + 1, S1, P1, P2, by go_num, by omega, Lib.hid (blk_set (show (wr.drewN m7).heap[X7]? = _ from hK.out) 0 _), Lib.hid ⟨fun h => by first | rfl | exact hP.out.1 (by omega) | (exfalso; omega), fun h => by first | rfl | exact hP.out.2.1 (by omega) | (exfalso; omega), fun h => by first | rfl | exact hP.out.2.2 (by omega) | (exfalso; omega)⟩, Lib.hid (Below.setCell (hB2.out.drewN m7) (by simp) _)⟩
                      case measure => simp [intOf]
                    · skip
                      go_wp2_with fail
                      refine drew_of_eq 14 (by kernel_rfl) (by kernel_rfl) ?_; simp only [List.take_succ_cons, List.take_zero, List.drop_succ_cons, List.drop_zero]; repeat go_big_quiet_step (fail)
                      refine wpQuiet_nil ?_; intro m7
                      have y0 : (wr.drewN m7).cell? ⟨X7, 0, none⟩ = some (.int .i64 P0) := y0
                      have y1 : (wr.drewN m7).cell? ⟨X7, 1, none⟩ = some (.int .i64 P1) := y1
                      have y2 : (wr.drewN m7).cell? ⟨X7, 2, none⟩ = some (.int .i64 P2) := y2
                      go_wp2
                      go_roundw
                      case rel => exact ⟨1 + 1, P0, S2, P2, by go_num, by omega, Lib.hid (blk_set (show (wr.drewN m7).heap[X7]? = _ from hK.out) 1 _), Lib.hid ⟨fun h => by first | rfl | exact hP.out.1 (by omega) | (exfalso; omega), fun h => by first | rfl | exact hP.out.2.1 (by omega) | (exfalso; omega), fun h => by first | rfl | exact hP.out.2.2 (by omega) | (exfalso; omega)⟩, Lib.hid (Below.setCell (hB2.out.drewN m7) (by simp) _)⟩
                      case measure => simp [intOf]
                    · skip
                      go_wp2_with fail
                      refine drew_of_eq 14 (by kernel_rfl) (by kernel_rfl) ?_; simp only [List.take_succ_cons, List.take_zero, List.drop_succ_cons, List.drop_zero]; repeat go_big_quiet_step (fail)
                      refine wpQuiet_nil ?_; intro m7
                      have y0 : (wr.drewN m7).cell? ⟨X7, 0, none⟩ = some (.int .i64 P0) := y0
                      have y1 : (wr.drewN m7).cell? ⟨X7, 1, none⟩ = some (.int .i64 P1) := y1
                      have y2 : (wr.drewN m7).cell? ⟨X7, 2, none⟩ = some (.int .i64 P2) := y2
                      go_wp2
                      go_roundw
                      case rel => exact ⟨2 + 1, P0, P1, S3, by go_num, by omega, Lib.hid (blk_set (show (wr.drewN m7).heap[X7]? = _ from hK.out) 2 _), Lib.hid ⟨fun h => by first | rfl | exact hP.out.1 (by omega) | (exfalso; omega), fun h => by first | rfl | exact hP.out.2.1 (by omega) | (exfalso; omega), fun h => by first | rfl | exact hP.out.2.2 (by omega) | (exfalso; omega)⟩, Lib.hid (Below.setCell (hB2.out.drewN m7) (by simp) _)⟩
                      case measure => simp [intOf]
                    · have hk3n : ¬ ((k : Int) < 3) := by omega
                      obtain rfl := hP.out.1 (by omega)
                      obtain rfl := hP.out.2.1 (by omega)
                      obtain rfl := hP.out.2.2 (by omega)
                      clear hP hk3 hk
                      have ya := get_blk hK.out a0 a1
                      have za := blk_fz hK.out ax.toNat
                      obtain ⟨SA, hSA⟩ : ∃ S, S = getA ⟨P0, P1, P2⟩ ax := ⟨_, rfl⟩
                      have hSAb : -10000 ≤ SA ∧ SA ≤ 15000 := by rw [hSA]; exact getA_bd hb1 hb2 hb3
                      rw [← hSA] at ya
                      obtain ⟨ua, hua⟩ : ∃ u, u = uu % (st + 1) := ⟨_, rfl⟩
                      have hu0' : 0 ≤ ua := by rw [hua]; exact Int.emod_nonneg _ (by omega)
                      have hu1' : ua ≤ st := by have := Int.emod_lt_of_pos uu (show 0 < st + 1 by omega); omega
                      have HMD := Lib.hid (fun w' => bmod_any uu (st + 1) w' (by omega) (by omega) hu0 hu1)
                      rw [← hua] at HMD
                      have w1 : IntKind.i64.wrap (st + 1) = st + 1 := by rw [IntKind.wrap_i64]; omega
                      have w2 : IntKind.i64.wrap (SA + ua) = SA + ua := by rw [IntKind.wrap_i64]; omega
                      have HSA := Lib.hid hSA
                      have HUA := Lib.hid hua
                      clear hSA hua z0 z1 z2
                      go_wp2_with fail
                      refine drew_of_eq 14 (by kernel_rfl) (by kernel_rfl) ?_; simp only [List.take_succ_cons, List.take_zero, List.drop_succ_cons, List.drop_zero]; repeat go_big_quiet_step (exact calls_drew_same (HMD.out _))
                      refine wpQuiet_nil ?_; intro m8
                      have ya : (wr.drewN m8).cell? ⟨X7, ax.toNat, none⟩ = some (.int .i64 SA) := ya
                      have za : (wr.drewN m8).frozen? ⟨X7, ax.toNat, none⟩ = false := za
                      go_wp2_with fail
                      obtain ⟨w12, hW⟩ : ∃ w12, w12 = (wr.drewN m8).setCell ⟨X7, ax.toNat, none⟩ (.int .i64 (SA + ua)) := ⟨_, rfl⟩
                      rw [← hW]
                      have hk12 := put_blk (v := SA + ua) (show (wr.drewN m8).heap[X7]? = _ from hK.out) a0 a1
                      rw [← hW] at hk12
                      have hz12 : w12.heap.size = wr.heap.size := by rw [hW]; simp
                      have HB12 := Lib.hid (show Below X7 w10 w12 by rw [hW]; exact Below.setCell (hB2.out.drewN m8) (by simp) _)
                      obtain ⟨TA, hTA⟩ : ∃ T, T = SA + ua := ⟨_, rfl⟩
                      have hTAb : -10000 ≤ TA ∧ TA ≤ 16000 := by omega
                      rw [← hTA] at hk12
                      obtain ⟨⟨T0, T1, T2⟩, hT⟩ : ∃ T, T = putA ⟨P0, P1, P2⟩ ax TA := ⟨_, rfl⟩
                      rw [← hT] at hk12
                      simp only at hk12
                      have HTG := Lib.hid (show getA ⟨T0, T1, T2⟩ ax = TA by rw [hT]; exact getA_put a0 a1)
                      have HTP := Lib.hid (show ∀ q, putA ⟨T0, T1, T2⟩ ax q = putA ⟨P0, P1, P2⟩ ax q from fun q => by rw [hT, putA_put])
                      have hK := Lib.hid hk12
                      have HTA := Lib.hid hTA
                      clear hW hk12 hT hTA ya za m8 w1 w2 e1 e2 e3 e4 e5 e6 HMD HB hB2
                      clear q0 q1 q2 q3 q4 q5 q6 p0 p1 p2 p3 p4 p5 p6 p7 lr0 lr1
                      clear y0 y1 y2 ly
                      have HB := Lib.hid (HB10.out.trans (HB12.out.mono hX4))
                      clear HB12
                      have kg : w12.heap[w.heap.size]? = some (.cells #[.int .i64 fx, .int .i64 fy, .int .i64 fz, .int .i64 st, .int .i64 gx, .int .i64 gy, .int .i64 gz] 24) := blk_below kG HB.out
                      have ka : w12.heap[w.heap.size + 1]? = some (.cells #[.int .i64 cx, .int .i64 cy, .int .i64 cz, .int .i64 uu, .int .i64 ax, .int .i64 v, .int .i64 B, .int .i64 wd] 26) := blk_below kA HB.out
                      have q0 := blk_cell kg (i := 0) rfl
                      have q1 := blk_cell kg (i := 1) rfl
                      have q2 := blk_cell kg (i := 2) rfl
                      have q3 := blk_cell kg (i := 3) rfl
                      have q4 := blk_cell kg (i := 4) rfl
                      have q5 := blk_cell kg (i := 5) rfl
                      have q6 := blk_cell kg (i := 6) rfl
                      have p0 := blk_cell ka (i := 0) rfl
                      have p1 := blk_cell ka (i := 1) rfl
                      have p2 := blk_cell ka (i := 2) rfl
                      have p3 := blk_cell ka (i := 3) rfl
                      have p4 := blk_cell ka (i := 4) rfl
                      have p5 := blk_cell ka (i := 5) rfl
                      have p6 := blk_cell ka (i := 6) rfl
                      have p7 := blk_cell ka (i := 7) rfl
                      have lr0 := blk_lt kg
                      have lr1 := blk_lt ka
                      clear kg ka
                      have y0 := blk_cell hK.out (i := 0) rfl
                      have y1 := blk_cell hK.out (i := 1) rfl
                      have y2 := blk_cell hK.out (i := 2) rfl
                      have ly := blk_lt hK.out
                      obtain ⟨w13, hW⟩ : ∃ w13, w13 = w12.alloc (Obj.cells #[.int .i64 v, .int .i64 v, .slice none 0 0] 38) := ⟨_, rfl⟩
                      rw [← hW]
                      obtain ⟨X9, hX9⟩ : ∃ X, X = wr.heap.size := ⟨_, rfl⟩
                      rw [← hX9]
                      rw [← hz12] at hX9
                      clear hz12
                      have hb13 : Below w12.heap.size w12 w13 := by rw [hW]; (repeat' (first | (with_reducible exact Below.refl _ _) | (with_reducible assumption) | (with_reducible refine Below.drewN ?_ _) | (with_reducible refine Below.alloc ?_ ?_ _) | (with_reducible refine Below.drew ?_) | (with_reducible refine Below.setCell ?_ ?_ _) | (with_reducible refine Below.step (by assumption) ?_ ?_) | (with_reducible exact And.left (by assumption)) | go_size))
                      have k9 : w13.heap[X9]? = some (.cells #[.int .i64 v, .int .i64 v, .slice none 0 0] 38) := by rw [hW, hX9]; exact heap_alloc_new _ _
                      have hs9 : X9 + 1 ≤ w13.heap.size := by rw [hW, hX9]; simp
                      have HB13 := Lib.hid (HB.out.trans (hb13.mono HB.out.size))
                      have HK13 := Lib.hid (blk_below hK.out hb13)
                      have hX47 : w4.heap.size ≤ X9 := by rw [hX9]; exact HB.out.size
                      have hX79 : X7 < X9 := by rw [hX9]; exact ly
                      clear hW hX9 hb13 hK HB
                      clear q0 q1 q2 q3 q4 q5 q6 p0 p1 p2 p3 p4 p5 p6 p7 lr0 lr1
                      clear y0 y1 y2 ly
                      -- the sensors
                      obtain ⟨LS, hLS⟩ : ∃ f : Int → Sen, f = locS G C ax ua v B := ⟨_, rfl⟩
                      have HLS := Lib.hid hLS
                      have HLE := Lib.hid (show ∀ q, e5 (LS q) = [.int .i64 (putA ⟨T0, T1, T2⟩ ax q).x, .int .i64 (putA ⟨T0, T1, T2⟩ ax q).y, .int .i64 (putA ⟨T0, T1, T2⟩ ax q).z, .int .i64 (B + dst TA q / v), .int .i64 (B + -((-dst TA q) / v))] from fun q => by
                        have hcr : crn G C = ⟨P0, P1, P2⟩ := by
                          rw [HGC.out.1, HGC.out.2, HSS.out.1, HSS.out.2.1, HSS.out.2.2]; rfl
                        rw [hLS, locS_mk, hcr, ← HSA.out, ← HTA.out, HTP.out])
                      have HQN' := HQN.out
                      clear hLS
                      go_loopw [10] (fun i wr => ∃ (k : Nat) (av : Option Addr) (cv : Nat), i = .int .i64 (k : Int) ∧ k ≤ nq ∧ Hid (∀ q ∈ qs.take k, -10000 ≤ q ∧ q ≤ 10000) ∧ Hid (wr.heap[X9]? = some (.cells #[.int .i64 v, .int .i64 v, .slice av k cv] 38)) ∧ Hid (wr.ownsRow (X9 + 1) 40 5 (.slice av k cv) k (ecells e5 ((qs.map LS).take k))) ∧ Hid (Below X9 w13 wr) ∧ X9 + 1 ≤ wr.heap.size) (fun i _ => nq - (intOf i).toNat)
                      case atStart => exact ⟨0, none, 0, rfl, Nat.zero_le _, Lib.hid (fun q h => by simp at h), Lib.hid k9, Lib.hid (World.ownsRow_nil _ _ _ _), Lib.hid (Below.refl _ _), hs9⟩
                      case round =>
                        obtain ⟨k, av, cv, rfl, hk, hqs, hA, hO, hB3, hzx⟩ := hrel
                        have k0 : (0 : Int) ≤ (k : Int) := by omega
                        have HB := Lib.hid (HB13.out.trans (hB3.out.mono hX47))
                        have hK := Lib.hid ((hB3.out.block X7 hX79).trans HK13.out)
                        have kg : wr.heap[w.heap.size]? = some (.cells #[.int .i64 fx, .int .i64 fy, .int .i64 fz, .int .i64 st, .int .i64 gx, .int .i64 gy, .int .i64 gz] 24) := blk_below kG HB.out
                        have ka : wr.heap[w.heap.size + 1]? = some (.cells #[.int .i64 cx, .int .i64 cy, .int .i64 cz, .int .i64 uu, .int .i64 ax, .int .i64 v, .int .i64 B, .int .i64 wd] 26) := blk_below kA HB.out
                        have q0 := blk_cell kg (i := 0) rfl
                        have q1 := blk_cell kg (i := 1) rfl
                        have q2 := blk_cell kg (i := 2) rfl
                        have q3 := blk_cell kg (i := 3) rfl
                        have q4 := blk_cell kg (i := 4) rfl
                        have q5 := blk_cell kg (i := 5) rfl
                        have q6 := blk_cell kg (i := 6) rfl
                        have p0 := blk_cell ka (i := 0) rfl
                        have p1 := blk_cell ka (i := 1) rfl
                        have p2 := blk_cell ka (i := 2) rfl
                        have p3 := blk_cell ka (i := 3) rfl
                        have p4 := blk_cell ka (i := 4) rfl
                        have p5 := blk_cell ka (i := 5) rfl
                        have p6 := blk_cell ka (i := 6) rfl
                        have p7 := blk_cell ka (i := 7) rfl
                        have lr0 := blk_lt kg
                        have lr1 := blk_lt ka
                        clear kg ka
                        have y0 := blk_cell hK.out (i := 0) rfl
                        have y1 := blk_cell hK.out (i := 1) rfl
                        have y2 := blk_cell hK.out (i := 2) rfl
                        have ly := blk_lt hK.out
                        by_cases hlt : k < nq
                        · have k1 : (k : Int) < (nq : Int) := by omega
                          obtain ⟨bq, oq, rfl, hbq, cq'⟩ := SlR.addr (HQ.out _ (HB4.out.trans (HB.out.mono HB4.out.size))) (by omega)
                          have hkq : k < qs.length := by omega
                          have c0 := cq' k (.int .i64 (qs.getD k 0)) (icells_get hkq)
                          obtain ⟨q, hq⟩ : ∃ q, q = qs.getD k 0 := ⟨_, rfl⟩
                          rw [← hq] at c0
                          have HTK := Lib.hid (show qs.take (k + 1) = qs.take k ++ [q] from take_last (by rw [hq, List.getD_eq_getElem?_getD, List.getElem?_eq_getElem hkq]; rfl))
                          have HTM := Lib.hid (show (qs.map LS).take (k + 1) = (qs.map LS).take k ++ [LS q] from take_last (by rw [List.getElem?_map, hq, List.getD_eq_getElem?_getD, List.getElem?_eq_getElem hkq]; rfl))
                          clear cq' hq hkq
                          have HWB := Lib.hid (fun w' => HBW.out q (-10000) 10000 w')
                          by_cases hqb : -10000 ≤ q ∧ q ≤ 10000
                          · rw [show wi q (-10000) 10000 = true from wi_iff.2 hqb] at HWB
                            go_wp2_with fail
                            refine (HWB.out _).mono ?_
                            rintro e9 w9 ⟨rfl, rfl⟩
                            clear HWB
                            go_wp2_with fail
                            obtain ⟨X11, hX11⟩ : ∃ X, X = wr.heap.size := ⟨_, rfl⟩
                            rw [← hX11]
                            obtain ⟨wa, hW⟩ : ∃ wa, wa = wr.alloc (Obj.cells #[.int .i64 T0, .int .i64 T1, .int .i64 T2, .int .i64 0, .int .i64 0] 40) := ⟨_, rfl⟩
                            rw [← hW]
                            have hba : Below wr.heap.size wr wa := by rw [hW]; (repeat' (first | (with_reducible exact Below.refl _ _) | (with_reducible assumption) | (with_reducible refine Below.drewN ?_ _) | (with_reducible refine Below.alloc ?_ ?_ _) | (with_reducible refine Below.drew ?_) | (with_reducible refine Below.setCell ?_ ?_ _) | (with_reducible refine Below.step (by assumption) ?_ ?_) | (with_reducible exact And.left (by assumption)) | go_size))
                            have k11 : wa.heap[X11]? = some (.cells #[.int .i64 T0, .int .i64 T1, .int .i64 T2, .int .i64 0, .int .i64 0] 40) := by rw [hW, hX11]; exact heap_alloc_new _ _
                            have lX11 : X9 + 1 ≤ X11 := by rw [hX11]; exact hzx
                            have HX11 := Lib.hid (show wr.heap.size = X11 from hX11.symm)
                            have HOl := Lib.hid (show ∀ z, (Value.slice av k cv).ownBlock = some z → z < X11 from fun z hz => by rw [hX11]; exact (hO.out.lt z hz).2)
                            have hOlt : ∀ z, (Value.slice av k cv).ownBlock = some z → z < wr.heap.size := fun z hz => (hO.out.lt z hz).2
                            have hO := Lib.hid (owns_below hO.out hba hOlt)
                            have hA := Lib.hid (blk_below hA.out hba)
                            have hB3 := Lib.hid (hB3.out.trans (hba.mono (by omega)))
                            have hK := Lib.hid (blk_below hK.out hba)
                            replace HB := Lib.hid (HB.out.trans (hba.mono HB.out.size))
                            have c0 : wa.cell? ⟨bq, oq + k, none⟩ = some (.int .i64 q) := by rw [cellB hba _ _ hbq]; exact c0
                            have lbq : bq < X11 := by rw [hX11]; exact hbq
                            clear hW hX11 hba hbq hzx
                            clear q0 q1 q2 q3 q4 q5 q6 p0 p1 p2 p3 p4 p5 p6 p7 lr0 lr1
                            clear y0 y1 y2 ly
                            have kg : wa.heap[w.heap.size]? = some (.cells #[.int .i64 fx, .int .i64 fy, .int .i64 fz, .int .i64 st, .int .i64 gx, .int .i64 gy, .int .i64 gz] 24) := blk_below kG HB.out
                            have ka : wa.heap[w.heap.size + 1]? = some (.cells #[.int .i64 cx, .int .i64 cy, .int .i64 cz, .int .i64 uu, .int .i64 ax, .int .i64 v, .int .i64 B, .int .i64 wd] 26) := blk_below kA HB.out
                            have q0 := blk_cell kg (i := 0) rfl
                            have q1 := blk_cell kg (i := 1) rfl
                            have q2 := blk_cell kg (i := 2) rfl
                            have q3 := blk_cell kg (i := 3) rfl
                            have q4 := blk_cell kg (i := 4) rfl
                            have q5 := blk_cell kg (i := 5) rfl
                            have q6 := blk_cell kg (i := 6) rfl
                            have p0 := blk_cell ka (i := 0) rfl
                            have p1 := blk_cell ka (i := 1) rfl
                            have p2 := blk_cell ka (i := 2) rfl
                            have p3 := blk_cell ka (i := 3) rfl
                            have p4 := blk_cell ka (i := 4) rfl
                            have p5 := blk_cell ka (i := 5) rfl
                            have p6 := blk_cell ka (i := 6) rfl
                            have p7 := blk_cell ka (i := 7) rfl
                            have lr0 := blk_lt kg
                            have lr1 := blk_lt ka
                            clear kg ka
                            have y0 := blk_cell hK.out (i := 0) rfl
                            have y1 := blk_cell hK.out (i := 1) rfl
                            have y2 := blk_cell hK.out (i := 2) rfl
                            have ly := blk_lt hK.out
                            have yb := get_blk5 k11 a0 a1
                            have zb := blk_fz k11 ax.toNat
                            have lb11 := blk_lt k11
                            have lbq2 : bq < wa.heap.size := by omega
                            have HK11 := Lib.hid k11
                            clear k11
                            go_wp2_with fail
                            refine drew_of_eq 8 (by kernel_rfl) (by kernel_rfl) ?_; simp only [List.take_succ_cons, List.take_zero, List.drop_succ_cons, List.drop_zero]; repeat go_big_quiet_step (fail)
                            refine wpQuiet_nil ?_; intro m9
                            have yb : (wa.drewN m9).cell? ⟨X11, ax.toNat, none⟩ = some (.int .i64 (getA ⟨T0, T1, T2⟩ ax)) := yb
                            have zb : (wa.drewN m9).frozen? ⟨X11, ax.toNat, none⟩ = false := zb
                            go_wp2_with fail
                            obtain ⟨wb, hW⟩ : ∃ wb, wb = (wa.drewN m9).setCell ⟨X11, ax.toNat, none⟩ (.int .i64 q) := ⟨_, rfl⟩
                            rw [← hW]
                            have k11 := put_blk5 (v := q) (show (wa.drewN m9).heap[X11]? = _ from HK11.out) a0 a1
                            rw [← hW] at k11
                            obtain ⟨Q0, hQ0⟩ : ∃ x, x = (putA ⟨T0, T1, T2⟩ ax q).x := ⟨_, rfl⟩
                            obtain ⟨Q1, hQ1⟩ : ∃ x, x = (putA ⟨T0, T1, T2⟩ ax q).y := ⟨_, rfl⟩
                            obtain ⟨Q2, hQ2⟩ : ∃ x, x = (putA ⟨T0, T1, T2⟩ ax q).z := ⟨_, rfl⟩
                            have hE := HLE.out q
                            rw [← hQ0, ← hQ1, ← hQ2] at k11 hE
                            have hbb : Below X11 wa wb := by rw [hW]; exact Below.setCell ((Below.refl _ _).drewN m9) (by simp) _
                            have hO := Lib.hid (show wb.ownsRow (X9 + 1) 40 5 (.slice av k cv) k (ecells e5 ((qs.map LS).take k)) from owns_below hO.out hbb (fun z hz => by rw [← HX11.out]; exact hOlt z hz))
                            have hA := Lib.hid ((hbb.block X9 (by omega)).trans hA.out)
                            have hB3 := Lib.hid (hB3.out.trans (hbb.mono (by omega)))
                            have hK := Lib.hid ((hbb.block X7 (by omega)).trans hK.out)
                            replace HB := Lib.hid (HB.out.trans (hbb.mono (by omega)))
                            have c0 : wb.cell? ⟨bq, oq + k, none⟩ = some (.int .i64 q) := by rw [hbb.cell lbq]; exact c0
                            have hzb : wb.heap.size = wa.heap.size := by rw [hW]; simp
                            have lbq2 : bq < wb.heap.size := by omega
                            have HE := Lib.hid hE
                            clear hW hQ0 hQ1 hQ2 hE hbb yb zb lb11 HK11 m9 hOlt
                            clear q0 q1 q2 q3 q4 q5 q6 p0 p1 p2 p3 p4 p5 p6 p7 lr0 lr1
                            clear y0 y1 y2 ly
                            have kg : wb.heap[w.heap.size]? = some (.cells #[.int .i64 fx, .int .i64 fy, .int .i64 fz, .int .i64 st, .int .i64 gx, .int .i64 gy, .int .i64 gz] 24) := blk_below kG HB.out
                            have ka : wb.heap[w.heap.size + 1]? = some (.cells #[.int .i64 cx, .int .i64 cy, .int .i64 cz, .int .i64 uu, .int .i64 ax, .int .i64 v, .int .i64 B, .int .i64 wd] 26) := blk_below kA HB.out
                            have q0 := blk_cell kg (i := 0) rfl
                            have q1 := blk_cell kg (i := 1) rfl
                            have q2 := blk_cell kg (i := 2) rfl
                            have q3 := blk_cell kg (i := 3) rfl
                            have q4 := blk_cell kg (i := 4) rfl
                            have q5 := blk_cell kg (i := 5) rfl
                            have q6 := blk_cell kg (i := 6) rfl
                            have p0 := blk_cell ka (i := 0) rfl
                            have p1 := blk_cell ka (i := 1) rfl
                            have p2 := blk_cell ka (i := 2) rfl
                            have p3 := blk_cell ka (i := 3) rfl
                            have p4 := blk_cell ka (i := 4) rfl
                            have p5 := blk_cell ka (i := 5) rfl
                            have p6 := blk_cell ka (i := 6) rfl
                            have p7 := blk_cell ka (i := 7) rfl
                            have lr0 := blk_lt kg
                            have lr1 := blk_lt ka
                            clear kg ka
                            have y0 := blk_cell hK.out (i := 0) rfl
                            have y1 := blk_cell hK.out (i := 1) rfl
                            have y2 := blk_cell hK.out (i := 2) rfl
                            have ly := blk_lt hK.out
                            have ya := get_blk hK.out a0 a1
                            rw [HTG.out] at ya
                            have g3 := blk_cell k11 (i := 3) rfl
                            have g4 := blk_cell k11 (i := 4) rfl
                            have g3f := blk_fz k11 3
                            have g4f := blk_fz k11 4
                            have lb11 := blk_lt k11
                            have HSZ := Lib.hid (fun w' => bsize_any (q - TA) w' (by omega) (by omega))
                            obtain ⟨dd, hdd⟩ : ∃ d, d = dst TA q := ⟨_, rfl⟩
                            rw [← dst_sz, ← hdd] at HSZ
                            have hddb : 0 ≤ dd ∧ dd ≤ 200000 := by rw [hdd]; exact dst_bd (by omega) (by omega) (by omega) (by omega)
                            have w1 : IntKind.i64.wrap (q - TA) = q - TA := by rw [IntKind.wrap_i64]; omega
                            obtain ⟨hd1, hd2⟩ := div_bd hddb.1 hddb.2 v0
                            have HFL := Lib.hid (fun w' => floor_pos dd v w' (by omega) (by omega) (by omega) (by omega))
                            have HCL := Lib.hid (fun w' => bceil_any dd v w' (by omega) (by omega) (by omega) (by omega))
                            have HE := Lib.hid (show e5 (LS q) = _ from HE.out)
                            rw [← hdd] at HE
                            obtain ⟨f1', hf1⟩ : ∃ x, x = dd / v := ⟨_, rfl⟩
                            obtain ⟨f2', hf2⟩ : ∃ x, x = -((-dd) / v) := ⟨_, rfl⟩
                            rw [← hf1] at HFL hd1 HE
                            rw [← hf2] at HCL hd2 HE
                            have w2 : IntKind.i64.wrap (B + f1') = B + f1' := by rw [IntKind.wrap_i64]; omega
                            have w3 : IntKind.i64.wrap (B + f2') = B + f2' := by rw [IntKind.wrap_i64]; omega
                            clear hf1 hf2 hdd
                            refine later_all (by kernel_rfl) (by kernel_rfl) ?_; repeat go_big_quiet_step(with_reducible exact calls_later_same (HSZ.out _))
                            refine wpQuiet_nil ?_; intro wc hbc
                            have k11 := blk_below k11 hbc
                            have hO := Lib.hid (owns_below hO.out hbc (fun z hz => (hO.out.lt z hz).2))
                            have hA := Lib.hid (blk_below hA.out hbc)
                            have hB3 := Lib.hid (hB3.out.trans (hbc.mono (by omega)))
                            have hK := Lib.hid (blk_below hK.out hbc)
                            replace HB := Lib.hid (HB.out.trans (hbc.mono HB.out.size))
                            have lbq2 : bq < wc.heap.size := by have := hbc.size; omega
                            have hzX : X11 < wc.heap.size := by have := hbc.size; omega
                            clear hbc c0 ya g3 g4 g3f g4f lb11
                            clear q0 q1 q2 q3 q4 q5 q6 p0 p1 p2 p3 p4 p5 p6 p7 lr0 lr1
                            clear y0 y1 y2 ly
                            have kg : wc.heap[w.heap.size]? = some (.cells #[.int .i64 fx, .int .i64 fy, .int .i64 fz, .int .i64 st, .int .i64 gx, .int .i64 gy, .int .i64 gz] 24) := blk_below kG HB.out
                            have ka : wc.heap[w.heap.size + 1]? = some (.cells #[.int .i64 cx, .int .i64 cy, .int .i64 cz, .int .i64 uu, .int .i64 ax, .int .i64 v, .int .i64 B, .int .i64 wd] 26) := blk_below kA HB.out
                            have q0 := blk_cell kg (i := 0) rfl
                            have q1 := blk_cell kg (i := 1) rfl
                            have q2 := blk_cell kg (i := 2) rfl
                            have q3 := blk_cell kg (i := 3) rfl
                            have q4 := blk_cell kg (i := 4) rfl
                            have q5 := blk_cell kg (i := 5) rfl
                            have q6 := blk_cell kg (i := 6) rfl
                            have p0 := blk_cell ka (i := 0) rfl
                            have p1 := blk_cell ka (i := 1) rfl
                            have p2 := blk_cell ka (i := 2) rfl
                            have p3 := blk_cell ka (i := 3) rfl
                            have p4 := blk_cell ka (i := 4) rfl
                            have p5 := blk_cell ka (i := 5) rfl
                            have p6 := blk_cell ka (i := 6) rfl
                            have p7 := blk_cell ka (i := 7) rfl
                            have lr0 := blk_lt kg
                            have lr1 := blk_lt ka
                            clear kg ka
                            have y0 := blk_cell hK.out (i := 0) rfl
                            have y1 := blk_cell hK.out (i := 1) rfl
                            have y2 := blk_cell hK.out (i := 2) rfl
                            have ly := blk_lt hK.out
                            have ya := get_blk hK.out a0 a1
                            rw [HTG.out] at ya
                            have g3 := blk_cell k11 (i := 3) rfl
                            have g4 := blk_cell k11 (i := 4) rfl
                            have g3f := blk_fz k11 3
                            have g4f := blk_fz k11 4
                            have lb11 := blk_lt k11
                            clear HSZ w1
                            go_wp2_with fail
                            refine later_of_eq 16 (by kernel_rfl) (by kernel_rfl) ?_; simp only [List.take_succ_cons, List.take_zero, List.drop_succ_cons, List.drop_zero]; repeat go_big_quiet_step (first | with_reducible exact calls_later_same (HFL.out _) | with_reducible exact calls_later_same (HCL.out _))
                            refine wpQuiet_nil ?_; intro we hbe
                            have k11 := blk_below k11 hbe
                            have hO := Lib.hid (owns_below hO.out hbe (fun z hz => (hO.out.lt z hz).2))
                            have hA := Lib.hid (blk_below hA.out hbe)
                            have hB3 := Lib.hid (hB3.out.trans (hbe.mono (by omega)))
                            have hK := Lib.hid (blk_below hK.out hbe)
                            replace HB := Lib.hid (HB.out.trans (hbe.mono HB.out.size))
                            have lbq2 : bq < we.heap.size := by have := hbe.size; omega
                            have hzX : X11 < we.heap.size := by have := hbe.size; omega
                            clear hbe c0 ya g3 g4 g3f g4f lb11
                            clear q0 q1 q2 q3 q4 q5 q6 p0 p1 p2 p3 p4 p5 p6 p7 lr0 lr1
                            clear y0 y1 y2 ly
                            have kg : we.heap[w.heap.size]? = some (.cells #[.int .i64 fx, .int .i64 fy, .int .i64 fz, .int .i64 st, .int .i64 gx, .int .i64 gy, .int .i64 gz] 24) := blk_below kG HB.out
                            have ka : we.heap[w.heap.size + 1]? = some (.cells #[.int .i64 cx, .int .i64 cy, .int .i64 cz, .int .i64 uu, .int .i64 ax, .int .i64 v, .int .i64 B, .int .i64 wd] 26) := blk_below kA HB.out
                            have q0 := blk_cell kg (i := 0) rfl
                            have q1 := blk_cell kg (i := 1) rfl
                            have q2 := blk_cell kg (i := 2) rfl
                            have q3 := blk_cell kg (i := 3) rfl
                            have q4 := blk_cell kg (i := 4) rfl
                            have q5 := blk_cell kg (i := 5) rfl
                            have q6 := blk_cell kg (i := 6) rfl
                            have p0 := blk_cell ka (i := 0) rfl
                            have p1 := blk_cell ka (i := 1) rfl
                            have p2 := blk_cell ka (i := 2) rfl
                            have p3 := blk_cell ka (i := 3) rfl
                            have p4 := blk_cell ka (i := 4) rfl
                            have p5 := blk_cell ka (i := 5) rfl
                            have p6 := blk_cell ka (i := 6) rfl
                            have p7 := blk_cell ka (i := 7) rfl
                            have lr0 := blk_lt kg
                            have lr1 := blk_lt ka
                            clear kg ka
                            have y0 := blk_cell hK.out (i := 0) rfl
                            have y1 := blk_cell hK.out (i := 1) rfl
                            have y2 := blk_cell hK.out (i := 2) rfl
                            have ly := blk_lt hK.out
                            have ya := get_blk hK.out a0 a1
                            rw [HTG.out] at ya
                            have g3 := blk_cell k11 (i := 3) rfl
                            have g4 := blk_cell k11 (i := 4) rfl
                            have g3f := blk_fz k11 3
                            have g4f := blk_fz k11 4
                            have lb11 := blk_lt k11
                            clear HFL HCL w2 w3
                            have g0 := blk_cell k11 (i := 0) rfl
                            have g1' := blk_cell k11 (i := 1) rfl
                            have g2' := blk_cell k11 (i := 2) rfl
                            have h2 := blk_cell hA.out (i := 2) rfl
                            have h2f := blk_fz hA.out 2
                            have hne : X9 ≠ X11 := by omega
                            have hne' : X11 ≠ X9 := by omega
                            have lx9 := blk_lt hA.out
                            have hbf : Below X11 we ((we.setCell ⟨X11, 3, none⟩ (.int .i64 (B + f1'))).setCell ⟨X11, 4, none⟩ (.int .i64 (B + f2'))) := Below.setCell (Below.setCell (Below.refl _ _) (by simp) _) (by simp) _
                            have HOf := Lib.hid (owns_below hO.out hbf HOl.out)
                            have hbf9 := Lib.hid (hbf.mono (show X9 + 1 ≤ X11 from lX11))
                            clear hbf
                            go_wp2_with (at_builtin; refine wpList_append_sl _ rfl _ _ 36 rfl (X9 + 1) 40 _ 5 40 Tryz.underlying36 infoSen rfl (by omega) (.slice av k cv) k _ rfl (HOf.out.alloc _) _ 1 1 [.int .i64 Q0, .int .i64 Q1, .int .i64 Q2, .int .i64 (B + f1'), .int .i64 (B + f2')] rfl (SlR.lit _ _ _ _ _ 1 5 (by rfl) (by simp) rfl (by omega)) (by simp [Value.oneCell']) (by omega) (by omega) (by simp; omega) ?_)
                            intro v2 w2 hown2 _ hb2
                            obtain ⟨av2, cv2, rfl, _, _⟩ := owns_slice hown2
                            rw [show ecells e5 ((qs.map LS).take k) ++ [.int .i64 Q0, .int .i64 Q1, .int .i64 Q2, .int .i64 (B + f1'), .int .i64 (B + f2')] = ecells e5 ((qs.map LS).take (k + 1)) by rw [HTM.out, ecells_append, ecells_one, HE.out]] at hown2
                            have hb2' : Below (X9 + 1) we w2 := (hbf9.out.alloc (by simp; omega) _).trans hb2
                            have hzz := hb2'.size
                            have hA2 := (hb2'.block X9 (by omega)).trans hA.out
                            have y2' : w2.cell? ⟨X9, 2, none⟩ = some (.slice av k cv) := blk_cell hA2 (i := 2) rfl
                            have f2x := blk_fz hA2 2
                            have ly2 := blk_lt hA2
                            have HO2 := Lib.hid hown2
                            have HB2 := Lib.hid (hB3.out.trans (hb2'.mono (by omega)))
                            have HA2 := Lib.hid hA2
                            have HQ2 := Lib.hid (show ∀ x ∈ qs.take (k + 1), -10000 ≤ x ∧ x ≤ 10000 from fun x hx => by
                              rw [HTK.out, List.mem_append, List.mem_singleton] at hx
                              rcases hx with h | rfl
                              · exact hqs.out x h
                              · exact hqb)
                            clear hown2 hb2 hb2' hA2 HOf hbf9 hO hA hB3 k11 g0 g1' g2' g3 g4 g3f g4f h2 h2f hne hne' lx9 lb11 ya hqs HTK HE hzX
                            clear q0 q1 q2 q3 q4 q5 q6 p0 p1 p2 p3 p4 p5 p6 p7 lr0 lr1
                            clear y0 y1 y2 ly
                            go_wp2_with fail
                            go_roundw
                            case rel => exact ⟨k + 1, av2, cv2, by go_num, by omega, HQ2, Lib.hid (blk_set HA2.out 2 _), Lib.hid (ownsRow_setCell_below HO2.out (a := ⟨X9, 2, none⟩) (by show X9 < X9 + 1; omega) _), Lib.hid (Below.setCell HB2.out (by simp) _), by simp; omega⟩
                            case measure => simp [intOf]; omega
                          · rw [show wi q (-10000) 10000 = false from wi_false.2 hqb] at HWB
                            go_wp2_with fail
                            refine (HWB.out _).mono ?_
                            rintro e9 w9 ⟨rfl, rfl⟩
                            clear HWB
                            go_wp2_with fail
                            all_goals go_ret
                            all_goals exact ⟨by first | rfl | exact ret_bool (by simp), HB4.out.trans (HB.out.mono HB4.out.size)⟩
                        · obtain rfl : nq = k := by omega
                          have hqa : ∀ q ∈ qs, -10000 ≤ q ∧ q ≤ 10000 := by
                            have := hqs.out
                            rwa [List.take_of_length_le (by rw [HQN.out]; exact Nat.le_refl _)] at this
                          have hL' : (qs.map LS).length = nq := by rw [List.length_map]; exact HQN.out
                          have hO' := hO.out
                          rw [List.take_of_length_le (by rw [hL']; exact Nat.le_refl _)] at hO'
                          have HSN := Lib.hid (show SenR wr av nq (qs.map LS) from ER.of_owns hL' hO')
                          have HFM := Lib.hid (fun he => loc_main HLS.out HD1.out.symm HCB.out.symm a0 a1 hu0' (by rw [HGC.out.1]; exact hu1') v0 hqa he)
                          have HFW := Lib.hid (fun he => loc_wide HLS.out HD1.out.symm HCB.out.symm a0 a1 hu0' (by rw [HGC.out.1]; exact hu1') v0 B0 d0 hqa he)
                          obtain ⟨L, hL⟩ : ∃ L, L = qs.map LS := ⟨_, rfl⟩
                          rw [← hL] at HSN HFM HFW hL'
                          have HLN := Lib.hid hL'
                          have HAEA := Lib.hid (fun (W : World) (h : SenR W av nq L) => HAE.out ⟨v, v, L⟩ av nq cv W h)
                          have HCPA := Lib.hid (fun (W : World) (h : SenR W av nq L) => copyArrivals_any v v L av nq cv W h (by omega))
                          have HCPO := Lib.hid (fun (W : World) (h : SenR W av nq L) => copyArrivalsO_any v v L av nq cv W h (by omega))
                          have HAZ := Lib.hid (fun (h : (arrE ⟨v, v, L⟩).2 = 0) => (arrE_zero h).2.2.2.2)
                          obtain ⟨D2, hD2⟩ : ∃ D, D = (arrE ⟨v, v, L⟩).2 := ⟨_, rfl⟩
                          simp only at HAEA
                          rw [← hD2] at HAEA HFM HAZ
                          clear hO' hL' hqa hL hD2 hO hqs hK hB3 y0 y1 y2 ly HLE HLS HTG HTP HTA HSA HUA HSS HK13 HB13 HB10
                          clear q0 q1 q2 q3 q4 q5 q6 p0 p1 p2 p3 p4 p5 p6 p7 lr0 lr1
                          have kg : wr.heap[w.heap.size]? = some (.cells #[.int .i64 fx, .int .i64 fy, .int .i64 fz, .int .i64 st, .int .i64 gx, .int .i64 gy, .int .i64 gz] 24) := blk_below kG HB.out
                          have ka : wr.heap[w.heap.size + 1]? = some (.cells #[.int .i64 cx, .int .i64 cy, .int .i64 cz, .int .i64 uu, .int .i64 ax, .int .i64 v, .int .i64 B, .int .i64 wd] 26) := blk_below kA HB.out
                          have q0 := blk_cell kg (i := 0) rfl
                          have q1 := blk_cell kg (i := 1) rfl
                          have q2 := blk_cell kg (i := 2) rfl
                          have q3 := blk_cell kg (i := 3) rfl
                          have q4 := blk_cell kg (i := 4) rfl
                          have q5 := blk_cell kg (i := 5) rfl
                          have q6 := blk_cell kg (i := 6) rfl
                          have p0 := blk_cell ka (i := 0) rfl
                          have p1 := blk_cell ka (i := 1) rfl
                          have p2 := blk_cell ka (i := 2) rfl
                          have p3 := blk_cell ka (i := 3) rfl
                          have p4 := blk_cell ka (i := 4) rfl
                          have p5 := blk_cell ka (i := 5) rfl
                          have p6 := blk_cell ka (i := 6) rfl
                          have p7 := blk_cell ka (i := 7) rfl
                          have lr0 := blk_lt kg
                          have lr1 := blk_lt ka
                          clear kg ka
                          have h0 := blk_cell hA.out (i := 0) rfl
                          have h1' := blk_cell hA.out (i := 1) rfl
                          have h2 := blk_cell hA.out (i := 2) rfl
                          have lx9 := blk_lt hA.out
                          go_wp2_with fail
                          refine (HAEA.out _ HSN.out).mono ?_
                          rintro e20 w20 ⟨rfl, hb20⟩
                          have hA := Lib.hid (blk_below hA.out hb20)
                          replace HB := Lib.hid (HB.out.trans (hb20.mono HB.out.size))
                          replace HSN := Lib.hid (HSN.out.below hb20)
                          clear hb20 h0 h1' h2 lx9
                          clear q0 q1 q2 q3 q4 q5 q6 p0 p1 p2 p3 p4 p5 p6 p7 lr0 lr1
                          have kg : w20.heap[w.heap.size]? = some (.cells #[.int .i64 fx, .int .i64 fy, .int .i64 fz, .int .i64 st, .int .i64 gx, .int .i64 gy, .int .i64 gz] 24) := blk_below kG HB.out
                          have ka : w20.heap[w.heap.size + 1]? = some (.cells #[.int .i64 cx, .int .i64 cy, .int .i64 cz, .int .i64 uu, .int .i64 ax, .int .i64 v, .int .i64 B, .int .i64 wd] 26) := blk_below kA HB.out
                          have q0 := blk_cell kg (i := 0) rfl
                          have q1 := blk_cell kg (i := 1) rfl
                          have q2 := blk_cell kg (i := 2) rfl
                          have q3 := blk_cell kg (i := 3) rfl
                          have q4 := blk_cell kg (i := 4) rfl
                          have q5 := blk_cell kg (i := 5) rfl
                          have q6 := blk_cell kg (i := 6) rfl
                          have p0 := blk_cell ka (i := 0) rfl
                          have p1 := blk_cell ka (i := 1) rfl
                          have p2 := blk_cell ka (i := 2) rfl
                          have p3 := blk_cell ka (i := 3) rfl
                          have p4 := blk_cell ka (i := 4) rfl
                          have p5 := blk_cell ka (i := 5) rfl
                          have p6 := blk_cell ka (i := 6) rfl
                          have p7 := blk_cell ka (i := 7) rfl
                          have lr0 := blk_lt kg
                          have lr1 := blk_lt ka
                          clear kg ka
                          have h0 := blk_cell hA.out (i := 0) rfl
                          have h1' := blk_cell hA.out (i := 1) rfl
                          have h2 := blk_cell hA.out (i := 2) rfl
                          have lx9 := blk_lt hA.out
                          by_cases h20 : D2 = 0
                          · subst h20
                            obtain ⟨F1, F2, F3, F4, F5⟩ := HFM.out rfl
                            have HAT := Lib.hid (fun (a' : Option Addr) (c' : Nat) (W : World) (h : SenR W a' nq L) => HAA.out ⟨v, v, L⟩ a' nq c' W h)
                            have HRT := Lib.hid (fun (a' : Option Addr) (c' : Nat) (W : World) (h : SenR W a' nq L) => HRO.out ⟨v, v, L⟩ a' nq c' W h)
                            have HCT := Lib.hid (fun (a' : Option Addr) (c' : Nat) (W : World) (h : SenR W a' nq L) => HCO.out ⟨v, v, L⟩ a' nq c' W h)
                            simp only at HAT HRT HCT
                            rw [F1, if_pos rfl] at HAT
                            rw [F2] at HRT
                            rw [F5] at HCT
                            obtain ⟨N, hN⟩ : ∃ N, N = ans G ⟨v, v, L⟩ C := ⟨_, rfl⟩
                            rw [← hN] at HAT F3 F4
                            have eN : (N == 0) = false := by simpa using F3
                            have HFA := Lib.hid F4
                            clear F1 F2 F3 F4 F5 hN HFM HAEA
                            generalize regV G ⟨v, v, L⟩ = RV at *
                            generalize (ctrV G ⟨v, v, L⟩).1 = CV at *
                            go_wp2_with fail
                            refine wp_region_laterM (B := w20.heap.size) [(true, 0), (true, 1), (true, 3), (true, 4), (false, 2), (false, 5), (true, 6), (true, 7), (true, 8), (true, 9), (true, 10)] (by kernel_rfl) (by kernel_rfl) ?_; simp only [opsOf, List.filterMap_cons, List.filterMap_nil, List.getElem?_toArray, List.getElem?_cons_zero, List.getElem?_cons_succ, Option.map_some]
                            repeat (refine mix_head ?_; (show wpQuiet _ _ _ _ (_ :: _) _; go_big_quiet_step (fail)); refine wpQuiet_nil ?_)
                            have hd : Below w20.heap.size w20 w20.drew := by (repeat' (first | (with_reducible exact Below.refl _ _) | (with_reducible assumption) | (with_reducible refine Below.drewN ?_ _) | (with_reducible refine Below.alloc ?_ ?_ _) | (with_reducible refine Below.drew ?_) | (with_reducible refine Below.setCell ?_ ?_ _) | (with_reducible refine Below.step (by assumption) ?_ ?_) | (with_reducible exact And.left (by assumption)) | go_size))
                            refine mix_tail ?_; go_wp2_with fail
                            refine (HCPA.out _ (HSN.out.below hd)).mono ?_
                            rintro e21 w21 ⟨a21, c21, rfl, hb21, hs21⟩
                            have HX := Lib.hid (hd.trans (hb21.mono hd.size))
                            clear hd hb21
                            go_wp2_with fail
                            refine tailL_mk HX.out ?_
                            refine mix_tail ?_; go_wp2_with fail
                            refine (HAT.out _ _ _ hs21).mono ?_
                            rintro e22 w22 ⟨rfl, hb22⟩
                            replace HX := Lib.hid (HX.out.trans (hb22.mono HX.out.size))
                            clear hb22 hs21
                            go_wp2_with fail
                            refine tailL_mk HX.out ?_
                            repeat (refine mix_head ?_; (show wpQuiet _ _ _ _ (_ :: _) _; go_big_quiet_step (fail)); refine wpQuiet_nil ?_)
                            refine mix_nil ?_
                            have hbx := HX.out
                            clear HX HAT
                            have hA := Lib.hid (blk_below hA.out hbx)
                            replace HB := Lib.hid (HB.out.trans (hbx.mono HB.out.size))
                            replace HSN := Lib.hid (HSN.out.below hbx)
                            clear hbx h0 h1' h2 lx9
                            clear q0 q1 q2 q3 q4 q5 q6 p0 p1 p2 p3 p4 p5 p6 p7 lr0 lr1
                            have kg : w22.heap[w.heap.size]? = some (.cells #[.int .i64 fx, .int .i64 fy, .int .i64 fz, .int .i64 st, .int .i64 gx, .int .i64 gy, .int .i64 gz] 24) := blk_below kG HB.out
                            have ka : w22.heap[w.heap.size + 1]? = some (.cells #[.int .i64 cx, .int .i64 cy, .int .i64 cz, .int .i64 uu, .int .i64 ax, .int .i64 v, .int .i64 B, .int .i64 wd] 26) := blk_below kA HB.out
                            have q0 := blk_cell kg (i := 0) rfl
                            have q1 := blk_cell kg (i := 1) rfl
                            have q2 := blk_cell kg (i := 2) rfl
                            have q3 := blk_cell kg (i := 3) rfl
                            have q4 := blk_cell kg (i := 4) rfl
                            have q5 := blk_cell kg (i := 5) rfl
                            have q6 := blk_cell kg (i := 6) rfl
                            have p0 := blk_cell ka (i := 0) rfl
                            have p1 := blk_cell ka (i := 1) rfl
                            have p2 := blk_cell ka (i := 2) rfl
                            have p3 := blk_cell ka (i := 3) rfl
                            have p4 := blk_cell ka (i := 4) rfl
                            have p5 := blk_cell ka (i := 5) rfl
                            have p6 := blk_cell ka (i := 6) rfl
                            have p7 := blk_cell ka (i := 7) rfl
                            have lr0 := blk_lt kg
                            have lr1 := blk_lt ka
                            clear kg ka
                            have h0 := blk_cell hA.out (i := 0) rfl
                            have h1' := blk_cell hA.out (i := 1) rfl
                            have h2 := blk_cell hA.out (i := 2) rfl
                            have lx9 := blk_lt hA.out
                            go_wp2_with fail
                            refine wp_region_laterM (B := w22.heap.size) [(true, 0), (true, 1), (false, 2), (false, 3), (true, 4), (true, 5), (true, 6), (true, 7), (true, 8)] (by kernel_rfl) (by kernel_rfl) ?_; simp only [opsOf, List.filterMap_cons, List.filterMap_nil, List.getElem?_toArray, List.getElem?_cons_zero, List.getElem?_cons_succ, Option.map_some]
                            repeat (refine mix_head ?_; (show wpQuiet _ _ _ _ (_ :: _) _; go_big_quiet_step (fail)); refine wpQuiet_nil ?_)
                            have hd : Below w22.heap.size w22 w22.drew := by (repeat' (first | (with_reducible exact Below.refl _ _) | (with_reducible assumption) | (with_reducible refine Below.drewN ?_ _) | (with_reducible refine Below.alloc ?_ ?_ _) | (with_reducible refine Below.drew ?_) | (with_reducible refine Below.setCell ?_ ?_ _) | (with_reducible refine Below.step (by assumption) ?_ ?_) | (with_reducible exact And.left (by assumption)) | go_size))
                            refine mix_tail ?_; go_wp2_with fail
                            refine (HCPA.out _ (HSN.out.below hd)).mono ?_
                            rintro e21 w23 ⟨a21, c21, rfl, hb21, hs21⟩
                            have HX := Lib.hid (hd.trans (hb21.mono hd.size))
                            clear hd hb21
                            go_wp2_with fail
                            refine tailL_mk HX.out ?_
                            refine mix_tail ?_; go_wp2_with fail
                            refine (HRT.out _ _ _ hs21).mono ?_
                            rintro e24 w24 ⟨aL, kL, cL, rfl, hb22, hl24⟩
                            replace HX := Lib.hid (HX.out.trans (hb22.mono HX.out.size))
                            clear hb22 hs21
                            go_wp2_with fail
                            refine tailL_mk HX.out ?_
                            repeat (refine mix_head ?_; (show wpQuiet _ _ _ _ (_ :: _) _; go_big_quiet_step (fail)); refine wpQuiet_nil ?_)
                            refine mix_nil ?_
                            have hbx := HX.out
                            clear HX HRT
                            have HHX := Lib.hid (HHC.out RV aL kL cL N w24 hl24)
                            rw [HFA.out] at HHX
                            clear hl24 HFA
                            have hA := Lib.hid (blk_below hA.out hbx)
                            replace HB := Lib.hid (HB.out.trans (hbx.mono HB.out.size))
                            replace HSN := Lib.hid (HSN.out.below hbx)
                            clear hbx h0 h1' h2 lx9
                            clear q0 q1 q2 q3 q4 q5 q6 p0 p1 p2 p3 p4 p5 p6 p7 lr0 lr1
                            have kg : w24.heap[w.heap.size]? = some (.cells #[.int .i64 fx, .int .i64 fy, .int .i64 fz, .int .i64 st, .int .i64 gx, .int .i64 gy, .int .i64 gz] 24) := blk_below kG HB.out
                            have ka : w24.heap[w.heap.size + 1]? = some (.cells #[.int .i64 cx, .int .i64 cy, .int .i64 cz, .int .i64 uu, .int .i64 ax, .int .i64 v, .int .i64 B, .int .i64 wd] 26) := blk_below kA HB.out
                            have q0 := blk_cell kg (i := 0) rfl
                            have q1 := blk_cell kg (i := 1) rfl
                            have q2 := blk_cell kg (i := 2) rfl
                            have q3 := blk_cell kg (i := 3) rfl
                            have q4 := blk_cell kg (i := 4) rfl
                            have q5 := blk_cell kg (i := 5) rfl
                            have q6 := blk_cell kg (i := 6) rfl
                            have p0 := blk_cell ka (i := 0) rfl
                            have p1 := blk_cell ka (i := 1) rfl
                            have p2 := blk_cell ka (i := 2) rfl
                            have p3 := blk_cell ka (i := 3) rfl
                            have p4 := blk_cell ka (i := 4) rfl
                            have p5 := blk_cell ka (i := 5) rfl
                            have p6 := blk_cell ka (i := 6) rfl
                            have p7 := blk_cell ka (i := 7) rfl
                            have lr0 := blk_lt kg
                            have lr1 := blk_lt ka
                            clear kg ka
                            have h0 := blk_cell hA.out (i := 0) rfl
                            have h1' := blk_cell hA.out (i := 1) rfl
                            have h2 := blk_cell hA.out (i := 2) rfl
                            have lx9 := blk_lt hA.out
                            go_wp2_with fail
                            refine (HHX.out).mono ?_
                            rintro e25 w25 ⟨rfl, hb25⟩
                            clear HHX
                            have hA := Lib.hid (blk_below hA.out hb25)
                            replace HB := Lib.hid (HB.out.trans (hb25.mono HB.out.size))
                            replace HSN := Lib.hid (HSN.out.below hb25)
                            clear hb25 h0 h1' h2 lx9
                            clear q0 q1 q2 q3 q4 q5 q6 p0 p1 p2 p3 p4 p5 p6 p7 lr0 lr1
                            have kg : w25.heap[w.heap.size]? = some (.cells #[.int .i64 fx, .int .i64 fy, .int .i64 fz, .int .i64 st, .int .i64 gx, .int .i64 gy, .int .i64 gz] 24) := blk_below kG HB.out
                            have ka : w25.heap[w.heap.size + 1]? = some (.cells #[.int .i64 cx, .int .i64 cy, .int .i64 cz, .int .i64 uu, .int .i64 ax, .int .i64 v, .int .i64 B, .int .i64 wd] 26) := blk_below kA HB.out
                            have q0 := blk_cell kg (i := 0) rfl
                            have q1 := blk_cell kg (i := 1) rfl
                            have q2 := blk_cell kg (i := 2) rfl
                            have q3 := blk_cell kg (i := 3) rfl
                            have q4 := blk_cell kg (i := 4) rfl
                            have q5 := blk_cell kg (i := 5) rfl
                            have q6 := blk_cell kg (i := 6) rfl
                            have p0 := blk_cell ka (i := 0) rfl
                            have p1 := blk_cell ka (i := 1) rfl
                            have p2 := blk_cell ka (i := 2) rfl
                            have p3 := blk_cell ka (i := 3) rfl
                            have p4 := blk_cell ka (i := 4) rfl
                            have p5 := blk_cell ka (i := 5) rfl
                            have p6 := blk_cell ka (i := 6) rfl
                            have p7 := blk_cell ka (i := 7) rfl
                            have lr0 := blk_lt kg
                            have lr1 := blk_lt ka
                            clear kg ka
                            have h0 := blk_cell hA.out (i := 0) rfl
                            have h1' := blk_cell hA.out (i := 1) rfl
                            have h2 := blk_cell hA.out (i := 2) rfl
                            have lx9 := blk_lt hA.out
                            go_wp2_with fail
                            refine wp_region_laterM (B := w25.heap.size) [(true, 0), (true, 1), (false, 2), (false, 3), (true, 4), (true, 5), (true, 6), (true, 7), (true, 8)] (by kernel_rfl) (by kernel_rfl) ?_; simp only [opsOf, List.filterMap_cons, List.filterMap_nil, List.getElem?_toArray, List.getElem?_cons_zero, List.getElem?_cons_succ, Option.map_some]
                            repeat (refine mix_head ?_; (show wpQuiet _ _ _ _ (_ :: _) _; go_big_quiet_step (fail)); refine wpQuiet_nil ?_)
                            have hd : Below w25.heap.size w25 w25.drew := by (repeat' (first | (with_reducible exact Below.refl _ _) | (with_reducible assumption) | (with_reducible refine Below.drewN ?_ _) | (with_reducible refine Below.alloc ?_ ?_ _) | (with_reducible refine Below.drew ?_) | (with_reducible refine Below.setCell ?_ ?_ _) | (with_reducible refine Below.step (by assumption) ?_ ?_) | (with_reducible exact And.left (by assumption)) | go_size))
                            refine mix_tail ?_; go_wp2_with fail
                            refine (HCPA.out _ (HSN.out.below hd)).mono ?_
                            rintro e21 w26 ⟨a21, c21, rfl, hb21, hs21⟩
                            have HX := Lib.hid (hd.trans (hb21.mono hd.size))
                            clear hd hb21
                            go_wp2_with fail
                            refine tailL_mk HX.out ?_
                            refine mix_tail ?_; go_wp2_with fail
                            refine (HCT.out _ _ _ hs21).mono ?_
                            rintro e27 w27 ⟨aK, kK, cK, rfl, hb22, _⟩
                            replace HX := Lib.hid (HX.out.trans (hb22.mono HX.out.size))
                            clear hb22 hs21
                            go_wp2_with fail
                            refine tailL_mk HX.out ?_
                            repeat (refine mix_head ?_; (show wpQuiet _ _ _ _ (_ :: _) _; go_big_quiet_step (fail)); refine wpQuiet_nil ?_)
                            refine mix_nil ?_
                            have hbx := HX.out
                            clear HX HCT
                            have hA := Lib.hid (blk_below hA.out hbx)
                            replace HB := Lib.hid (HB.out.trans (hbx.mono HB.out.size))
                            replace HSN := Lib.hid (HSN.out.below hbx)
                            clear hbx h0 h1' h2 lx9
                            clear q0 q1 q2 q3 q4 q5 q6 p0 p1 p2 p3 p4 p5 p6 p7 lr0 lr1
                            have kg : w27.heap[w.heap.size]? = some (.cells #[.int .i64 fx, .int .i64 fy, .int .i64 fz, .int .i64 st, .int .i64 gx, .int .i64 gy, .int .i64 gz] 24) := blk_below kG HB.out
                            have ka : w27.heap[w.heap.size + 1]? = some (.cells #[.int .i64 cx, .int .i64 cy, .int .i64 cz, .int .i64 uu, .int .i64 ax, .int .i64 v, .int .i64 B, .int .i64 wd] 26) := blk_below kA HB.out
                            have q0 := blk_cell kg (i := 0) rfl
                            have q1 := blk_cell kg (i := 1) rfl
                            have q2 := blk_cell kg (i := 2) rfl
                            have q3 := blk_cell kg (i := 3) rfl
                            have q4 := blk_cell kg (i := 4) rfl
                            have q5 := blk_cell kg (i := 5) rfl
                            have q6 := blk_cell kg (i := 6) rfl
                            have p0 := blk_cell ka (i := 0) rfl
                            have p1 := blk_cell ka (i := 1) rfl
                            have p2 := blk_cell ka (i := 2) rfl
                            have p3 := blk_cell ka (i := 3) rfl
                            have p4 := blk_cell ka (i := 4) rfl
                            have p5 := blk_cell ka (i := 5) rfl
                            have p6 := blk_cell ka (i := 6) rfl
                            have p7 := blk_cell ka (i := 7) rfl
                            have lr0 := blk_lt kg
                            have lr1 := blk_lt ka
                            clear kg ka
                            have h0 := blk_cell hA.out (i := 0) rfl
                            have h1' := blk_cell hA.out (i := 1) rfl
                            have h2 := blk_cell hA.out (i := 2) rfl
                            have lx9 := blk_lt hA.out
                            go_wp2_with fail
                            refine (HCPO.out _ HSN.out).mono ?_
                            rintro e28 w28 ⟨a28, c28, rfl, hb28, base, hbase, ho28⟩
                            have HO28 := Lib.hid ho28
                            have h27 : w4.heap.size ≤ w27.heap.size := HB.out.size
                            have HAB := Lib.hid (HAZ.out (by first | rfl | trivial))
                            clear ho28 HCPA HCPO HAZ
                            have hA := Lib.hid (blk_below hA.out hb28)
                            replace HB := Lib.hid (HB.out.trans (hb28.mono HB.out.size))
                            replace HSN := Lib.hid (HSN.out.below hb28)
                            clear hb28 h0 h1' h2 lx9
                            clear q0 q1 q2 q3 q4 q5 q6 p0 p1 p2 p3 p4 p5 p6 p7 lr0 lr1
                            have kg : w28.heap[w.heap.size]? = some (.cells #[.int .i64 fx, .int .i64 fy, .int .i64 fz, .int .i64 st, .int .i64 gx, .int .i64 gy, .int .i64 gz] 24) := blk_below kG HB.out
                            have ka : w28.heap[w.heap.size + 1]? = some (.cells #[.int .i64 cx, .int .i64 cy, .int .i64 cz, .int .i64 uu, .int .i64 ax, .int .i64 v, .int .i64 B, .int .i64 wd] 26) := blk_below kA HB.out
                            have q0 := blk_cell kg (i := 0) rfl
                            have q1 := blk_cell kg (i := 1) rfl
                            have q2 := blk_cell kg (i := 2) rfl
                            have q3 := blk_cell kg (i := 3) rfl
                            have q4 := blk_cell kg (i := 4) rfl
                            have q5 := blk_cell kg (i := 5) rfl
                            have q6 := blk_cell kg (i := 6) rfl
                            have p0 := blk_cell ka (i := 0) rfl
                            have p1 := blk_cell ka (i := 1) rfl
                            have p2 := blk_cell ka (i := 2) rfl
                            have p3 := blk_cell ka (i := 3) rfl
                            have p4 := blk_cell ka (i := 4) rfl
                            have p5 := blk_cell ka (i := 5) rfl
                            have p6 := blk_cell ka (i := 6) rfl
                            have p7 := blk_cell ka (i := 7) rfl
                            have lr0 := blk_lt kg
                            have lr1 := blk_lt ka
                            clear kg ka
                            have h0 := blk_cell hA.out (i := 0) rfl
                            have h1' := blk_cell hA.out (i := 1) rfl
                            have h2 := blk_cell hA.out (i := 2) rfl
                            have lx9 := blk_lt hA.out
                            go_wp2_with fail
                            obtain ⟨w30, hW⟩ : ∃ w30, w30 = w28.alloc (Obj.cells #[.int .i64 v, .int .i64 v, .slice a28 nq c28] 38) := ⟨_, rfl⟩
                            rw [← hW]
                            obtain ⟨X19, hX19⟩ : ∃ X, X = w28.heap.size := ⟨_, rfl⟩
                            rw [← hX19]
                            have hb30 : Below w28.heap.size w28 w30 := by rw [hW]; (repeat' (first | (with_reducible exact Below.refl _ _) | (with_reducible assumption) | (with_reducible refine Below.drewN ?_ _) | (with_reducible refine Below.alloc ?_ ?_ _) | (with_reducible refine Below.drew ?_) | (with_reducible refine Below.setCell ?_ ?_ _) | (with_reducible refine Below.step (by assumption) ?_ ?_) | (with_reducible exact And.left (by assumption)) | go_size))
                            have k19 : w30.heap[X19]? = some (.cells #[.int .i64 v, .int .i64 v, .slice a28 nq c28] 38) := by rw [hW, hX19]; exact heap_alloc_new _ _
                            have ho := owns_below HO28.out hb30 (fun z hz => (HO28.out.lt z hz).2)
                            have holt := HO28.out.lt
                            obtain ⟨hxl, hcase⟩ := ho
                            rcases hcase with ⟨_, hn⟩ | ⟨g, cap, cur, hv, hbg, hg, hnc, hcm, hsz, htk⟩
                            · exfalso; omega
                            · simp only [Value.slice.injEq, true_and] at hv
                              obtain ⟨rfl, rfl⟩ := hv
                              have hgX : g < X19 := by rw [hX19]; exact (holt g rfl).2
                              have hgb : w27.heap.size ≤ g := Nat.le_trans hbase hbg
                              have HB30 := Lib.hid (HB.out.trans (hb30.mono HB.out.size))
                              have hcur : ∀ i, i < nq → ∀ j, j < 5 → cur[i * 5 + j]? = (e5 (sAt L i))[j]? := by
                                intro i hi j hj
                                obtain ⟨x, hx⟩ : ∃ x, L[i]? = some x := get_of_lt HLN.out hi
                                rw [sAt_getE hx, ← ecells_get e5_len hx j hj, ← htk, List.getElem?_take_of_lt (by omega)]
                                simp
                              clear hW hX19 hb30 hxl hnc hcm hsz htk holt HO28 HB hA HSN h0 h1' h2 lx9 hbase hbg hzx
                              clear q0 q1 q2 q3 q4 q5 q6 p0 p1 p2 p3 p4 p5 p6 p7 lr0 lr1
                              go_loopw [20] (fun i wr => ∃ k : Nat, i = .int .i64 (k : Int) ∧ k ≤ nq ∧ Hid (∃ cur, wr.heap[g]? = some (.cells cur 40) ∧ ∀ i, i < nq → ∀ j, j < 5 → cur[i * 5 + j]? = (e5 (if i < k then wdn wd (sAt L i) else sAt L i))[j]?) ∧ Hid (wr.heap[X19]? = some (.cells #[.int .i64 v, .int .i64 v, .slice (some ⟨g, 0, none⟩) nq c28] 38)) ∧ Hid (Below w27.heap.size w30 wr)) (fun i _ => nq - (intOf i).toNat)
                              case atStart => exact ⟨0, rfl, Nat.zero_le _, Lib.hid ⟨cur, hg, fun i hi j hj => by rw [if_neg (Nat.not_lt_zero _)]; exact hcur i hi j hj⟩, Lib.hid k19, Lib.hid (Below.refl _ _)⟩
                              case round =>
                                obtain ⟨k, rfl, hk, hC, hA, hB4⟩ := hrel
                                have k0 : (0 : Int) ≤ (k : Int) := by omega
                                have HB := Lib.hid (HB30.out.trans (hB4.out.mono h27))
                                clear hg hcur
                                have kg : wr.heap[w.heap.size]? = some (.cells #[.int .i64 fx, .int .i64 fy, .int .i64 fz, .int .i64 st, .int .i64 gx, .int .i64 gy, .int .i64 gz] 24) := blk_below kG HB.out
                                have ka : wr.heap[w.heap.size + 1]? = some (.cells #[.int .i64 cx, .int .i64 cy, .int .i64 cz, .int .i64 uu, .int .i64 ax, .int .i64 v, .int .i64 B, .int .i64 wd] 26) := blk_below kA HB.out
                                have q0 := blk_cell kg (i := 0) rfl
                                have q1 := blk_cell kg (i := 1) rfl
                                have q2 := blk_cell kg (i := 2) rfl
                                have q3 := blk_cell kg (i := 3) rfl
                                have q4 := blk_cell kg (i := 4) rfl
                                have q5 := blk_cell kg (i := 5) rfl
                                have q6 := blk_cell kg (i := 6) rfl
                                have p0 := blk_cell ka (i := 0) rfl
                                have p1 := blk_cell ka (i := 1) rfl
                                have p2 := blk_cell ka (i := 2) rfl
                                have p3 := blk_cell ka (i := 3) rfl
                                have p4 := blk_cell ka (i := 4) rfl
                                have p5 := blk_cell ka (i := 5) rfl
                                have p6 := blk_cell ka (i := 6) rfl
                                have p7 := blk_cell ka (i := 7) rfl
                                have lr0 := blk_lt kg
                                have lr1 := blk_lt ka
                                clear kg ka
                                have h0 := blk_cell hA.out (i := 0) rfl
                                have h1' := blk_cell hA.out (i := 1) rfl
                                have h2 := blk_cell hA.out (i := 2) rfl
                                have lx9 := blk_lt hA.out
                                by_cases hlt : k < nq
                                · have k1 : (k : Int) < (nq : Int) := by omega
                                  obtain ⟨cur, hg, hcur⟩ := hC.out
                                  obtain ⟨⟨u1, u2, u3, lo, hi⟩, hsk⟩ : ∃ s, s = sAt L k := ⟨_, rfl⟩
                                  have hbd := (HAB.out k (by rw [HLN.out]; exact hlt)).2
                                  have hck := hcur k hlt
                                  rw [if_neg (Nat.lt_irrefl k), ← hsk] at hck
                                  rw [← hsk] at hbd
                                  simp only at hbd
                                  obtain ⟨l0, l1, l2⟩ := hbd
                                  have r3 := blk_cell hg (hck 3 (by omega))
                                  have r4 := blk_cell hg (hck 4 (by omega))
                                  have r3f := blk_fz hg (k * 5 + 3)
                                  have r4f := blk_fz hg (k * 5 + 4)
                                  have lg := blk_lt hg
                                  have hgX1 : g ≠ X19 := by omega
                                  have hgX2 : X19 ≠ g := by omega
                                  have w1 : IntKind.i64.wrap (lo - wd) = lo - wd := by rw [IntKind.wrap_i64]; omega
                                  have w2 : IntKind.i64.wrap (hi + wd) = hi + wd := by rw [IntKind.wrap_i64]; omega
                                  have hg0 : g ≠ w.heap.size + 1 := by have := blk_lt kA; omega
                                  have HG := Lib.hid hg
                                  have HCU := Lib.hid hcur
                                  have HSK := Lib.hid hsk
                                  clear hg hcur hck hsk
                                  go_wp2_with fail
                                  refine drew_of_eq 17 (by kernel_rfl) (by kernel_rfl) ?_; simp only [List.take_succ_cons, List.take_zero, List.drop_succ_cons, List.drop_zero]; repeat go_big_quiet_step (fail)
                                  refine wpQuiet_nil ?_; intro m30
                                  have r3 : (wr.drewN m30).cell? ⟨g, k * 5 + 3, none⟩ = _ := r3
                                  have r3f : (wr.drewN m30).frozen? ⟨g, k * 5 + 3, none⟩ = false := r3f
                                  go_wp2_with fail
                                  obtain ⟨wA, hWA⟩ : ∃ wA, wA = (wr.drewN m30).setCell ⟨g, k * 5 + 3, none⟩ (.int .i64 (max 0 (lo - wd))) := ⟨_, rfl⟩
                                  rw [← hWA]
                                  have hgA : wA.heap[g]? = some (.cells (cur.setIfInBounds (k * 5 + 3) (.int .i64 (max 0 (lo - wd)))) 40) := by rw [hWA]; exact blk_set (show (wr.drewN m30).heap[g]? = _ from HG.out) _ _
                                  have r4 : wA.cell? ⟨g, k * 5 + 4, none⟩ = some (.int .i64 hi) := by
                                    refine blk_cell hgA ?_
                                    rw [Array.getElem?_setIfInBounds_ne (by omega)]
                                    have := HCU.out k hlt 4 (by omega)
                                    rw [if_neg (Nat.lt_irrefl k), ← HSK.out] at this
                                    exact this
                                  have r4f := blk_fz hgA (k * 5 + 4)
                                  have lg := blk_lt hgA
                                  have hbA : Below w27.heap.size wr wA := by rw [hWA]; exact Below.setCell ((Below.refl _ _).drewN m30) (show w27.heap.size ≤ g from hgb) _
                                  have hA := Lib.hid (show wA.heap[X19]? = some (.cells #[.int .i64 v, .int .i64 v, .slice (some ⟨g, 0, none⟩) nq c28] 38) by rw [hWA]; exact (heap_set_neL hgX2).trans hA.out)
                                  have hB4 := Lib.hid (hB4.out.trans hbA)
                                  replace HB := Lib.hid (HB.out.trans (hbA.mono h27))
                                  have HGA := Lib.hid hgA
                                  clear hWA hgA hbA r3 r3f m30 w1 h0 h1' h2 lx9
                                  clear q0 q1 q2 q3 q4 q5 q6 p0 p1 p2 p3 p4 p5 p6 p7 lr0 lr1
                                  have kg : wA.heap[w.heap.size]? = some (.cells #[.int .i64 fx, .int .i64 fy, .int .i64 fz, .int .i64 st, .int .i64 gx, .int .i64 gy, .int .i64 gz] 24) := blk_below kG HB.out
                                  have ka : wA.heap[w.heap.size + 1]? = some (.cells #[.int .i64 cx, .int .i64 cy, .int .i64 cz, .int .i64 uu, .int .i64 ax, .int .i64 v, .int .i64 B, .int .i64 wd] 26) := blk_below kA HB.out
                                  have q0 := blk_cell kg (i := 0) rfl
                                  have q1 := blk_cell kg (i := 1) rfl
                                  have q2 := blk_cell kg (i := 2) rfl
                                  have q3 := blk_cell kg (i := 3) rfl
                                  have q4 := blk_cell kg (i := 4) rfl
                                  have q5 := blk_cell kg (i := 5) rfl
                                  have q6 := blk_cell kg (i := 6) rfl
                                  have p0 := blk_cell ka (i := 0) rfl
                                  have p1 := blk_cell ka (i := 1) rfl
                                  have p2 := blk_cell ka (i := 2) rfl
                                  have p3 := blk_cell ka (i := 3) rfl
                                  have p4 := blk_cell ka (i := 4) rfl
                                  have p5 := blk_cell ka (i := 5) rfl
                                  have p6 := blk_cell ka (i := 6) rfl
                                  have p7 := blk_cell ka (i := 7) rfl
                                  have lr0 := blk_lt kg
                                  have lr1 := blk_lt ka
                                  clear kg ka
                                  have h0 := blk_cell hA.out (i := 0) rfl
                                  have h1' := blk_cell hA.out (i := 1) rfl
                                  have h2 := blk_cell hA.out (i := 2) rfl
                                  have lx9 := blk_lt hA.out
                                  go_wp2_with fail
                                  refine drew_of_eq 16 (by kernel_rfl) (by kernel_rfl) ?_; simp only [List.take_succ_cons, List.take_zero, List.drop_succ_cons, List.drop_zero]; repeat go_big_quiet_step (fail)
                                  refine wpQuiet_nil ?_; intro m31
                                  have r4 : (wA.drewN m31).cell? ⟨g, k * 5 + 4, none⟩ = _ := r4
                                  have r4f : (wA.drewN m31).frozen? ⟨g, k * 5 + 4, none⟩ = false := r4f
                                  go_wp2_with fail
                                  go_roundw
                                  case rel => exact ⟨k + 1, by go_num, by omega, Lib.hid ⟨_, blk_set (show (wA.drewN m31).heap[g]? = _ from HGA.out) _ _, wid_step HCU.out hlt HSK.out.symm⟩, Lib.hid ((heap_set_neL hgX2).trans hA.out), Lib.hid (Below.setCell (hB4.out.drewN m31) (show w27.heap.size ≤ g from hgb) _)⟩
                                  case measure => simp [intOf]; omega
                                · obtain rfl : nq = k := by omega
                                  obtain ⟨cur, hg, hcur⟩ := hC.out
                                  have w1 : IntKind.i64.wrap (v - wd) = v - wd := by rw [IntKind.wrap_i64]; omega
                                  have w2 : IntKind.i64.wrap (v + wd) = v + wd := by rw [IntKind.wrap_i64]; omega
                                  have k0f := blk_fz hA.out 0
                                  have k1f := blk_fz hA.out 1
                                  have hX4 : w4.heap.size ≤ X19 := by omega
                                  have hgX1 : g ≠ X19 := by omega
                                  have HGW := Lib.hid hg
                                  have HCW := Lib.hid hcur
                                  clear hg hcur hC HAB
                                  go_wp2_with fail
                                  obtain ⟨wS, hW⟩ : ∃ wS, wS = (wr.setCell ⟨X19, 0, none⟩ (.int .i64 (max 1 (v - wd)))).setCell ⟨X19, 1, none⟩ (.int .i64 (v + wd)) := ⟨_, rfl⟩
                                  rw [← hW]
                                  have hgS : wS.heap[g]? = some (.cells cur 40) := by rw [hW]; exact (heap_set_neL hgX1).trans ((heap_set_neL hgX1).trans HGW.out)
                                  have hAS : wS.heap[X19]? = some (.cells #[.int .i64 (max 1 (v - wd)), .int .i64 (v + wd), .slice (some ⟨g, 0, none⟩) nq c28] 38) := by rw [hW]; exact blk_set (blk_set hA.out 0 _) 1 _
                                  have hbS : Below w27.heap.size wr wS := by rw [hW]; exact Below.setCell (Below.setCell (Below.refl _ _) (show w27.heap.size ≤ X19 by omega) _) (show w27.heap.size ≤ X19 by omega) _
                                  have HSW := Lib.hid (sen_of_blk hgS HLN.out (by omega) HCW.out)
                                  have hA := Lib.hid hAS
                                  replace HB := Lib.hid (HB.out.trans (hbS.mono h27))
                                  have HAW := Lib.hid (fun (W : World) (h : SenR W (some ⟨g, 0, none⟩) nq (L.map (wdn wd))) => HAE.out ⟨max 1 (v - wd), v + wd, L.map (wdn wd)⟩ (some ⟨g, 0, none⟩) nq c28 W h)
                                  have HTW := Lib.hid (fun (W : World) (h : SenR W (some ⟨g, 0, none⟩) nq (L.map (wdn wd))) => HAA.out ⟨max 1 (v - wd), v + wd, L.map (wdn wd)⟩ (some ⟨g, 0, none⟩) nq c28 W h)
                                  simp only at HAW HTW
                                  obtain ⟨D3, hD3⟩ : ∃ D, D = (arrE ⟨max 1 (v - wd), v + wd, L.map (wdn wd)⟩).2 := ⟨_, rfl⟩
                                  have HFX := Lib.hid (fun (h : D3 = 0) => HFW.out (by rw [← hD3]; exact h))
                                  rw [← hD3] at HAW
                                  clear hW hgS hAS hbS w1 w2 k0f k1f hgX1 HGW HCW hD3 HFW h0 h1' h2 lx9 hB4
                                  generalize L.map (wdn wd) = LW at *
                                  generalize max 1 (v - wd) = M1 at *
                                  generalize v + wd = M2 at *
                                  clear q0 q1 q2 q3 q4 q5 q6 p0 p1 p2 p3 p4 p5 p6 p7 lr0 lr1
                                  have kg : wS.heap[w.heap.size]? = some (.cells #[.int .i64 fx, .int .i64 fy, .int .i64 fz, .int .i64 st, .int .i64 gx, .int .i64 gy, .int .i64 gz] 24) := blk_below kG HB.out
                                  have ka : wS.heap[w.heap.size + 1]? = some (.cells #[.int .i64 cx, .int .i64 cy, .int .i64 cz, .int .i64 uu, .int .i64 ax, .int .i64 v, .int .i64 B, .int .i64 wd] 26) := blk_below kA HB.out
                                  have q0 := blk_cell kg (i := 0) rfl
                                  have q1 := blk_cell kg (i := 1) rfl
                                  have q2 := blk_cell kg (i := 2) rfl
                                  have q3 := blk_cell kg (i := 3) rfl
                                  have q4 := blk_cell kg (i := 4) rfl
                                  have q5 := blk_cell kg (i := 5) rfl
                                  have q6 := blk_cell kg (i := 6) rfl
                                  have p0 := blk_cell ka (i := 0) rfl
                                  have p1 := blk_cell ka (i := 1) rfl
                                  have p2 := blk_cell ka (i := 2) rfl
                                  have p3 := blk_cell ka (i := 3) rfl
                                  have p4 := blk_cell ka (i := 4) rfl
                                  have p5 := blk_cell ka (i := 5) rfl
                                  have p6 := blk_cell ka (i := 6) rfl
                                  have p7 := blk_cell ka (i := 7) rfl
                                  have lr0 := blk_lt kg
                                  have lr1 := blk_lt ka
                                  clear kg ka
                                  have h0 := blk_cell hA.out (i := 0) rfl
                                  have h1' := blk_cell hA.out (i := 1) rfl
                                  have h2 := blk_cell hA.out (i := 2) rfl
                                  have lx9 := blk_lt hA.out
                                  go_wp2_with fail
                                  refine (HAW.out _ HSW.out).mono ?_
                                  rintro e40 w40 ⟨rfl, hb40⟩
                                  replace HSW := Lib.hid (HSW.out.below hb40)
                                  have hA := Lib.hid (blk_below hA.out hb40)
                                  replace HB := Lib.hid (HB.out.trans (hb40.mono HB.out.size))
                                  clear hb40 h0 h1' h2 lx9 HAW
                                  clear q0 q1 q2 q3 q4 q5 q6 p0 p1 p2 p3 p4 p5 p6 p7 lr0 lr1
                                  have kg : w40.heap[w.heap.size]? = some (.cells #[.int .i64 fx, .int .i64 fy, .int .i64 fz, .int .i64 st, .int .i64 gx, .int .i64 gy, .int .i64 gz] 24) := blk_below kG HB.out
                                  have ka : w40.heap[w.heap.size + 1]? = some (.cells #[.int .i64 cx, .int .i64 cy, .int .i64 cz, .int .i64 uu, .int .i64 ax, .int .i64 v, .int .i64 B, .int .i64 wd] 26) := blk_below kA HB.out
                                  have q0 := blk_cell kg (i := 0) rfl
                                  have q1 := blk_cell kg (i := 1) rfl
                                  have q2 := blk_cell kg (i := 2) rfl
                                  have q3 := blk_cell kg (i := 3) rfl
                                  have q4 := blk_cell kg (i := 4) rfl
                                  have q5 := blk_cell kg (i := 5) rfl
                                  have q6 := blk_cell kg (i := 6) rfl
                                  have p0 := blk_cell ka (i := 0) rfl
                                  have p1 := blk_cell ka (i := 1) rfl
                                  have p2 := blk_cell ka (i := 2) rfl
                                  have p3 := blk_cell ka (i := 3) rfl
                                  have p4 := blk_cell ka (i := 4) rfl
                                  have p5 := blk_cell ka (i := 5) rfl
                                  have p6 := blk_cell ka (i := 6) rfl
                                  have p7 := blk_cell ka (i := 7) rfl
                                  have lr0 := blk_lt kg
                                  have lr1 := blk_lt ka
                                  clear kg ka
                                  have h0 := blk_cell hA.out (i := 0) rfl
                                  have h1' := blk_cell hA.out (i := 1) rfl
                                  have h2 := blk_cell hA.out (i := 2) rfl
                                  have lx9 := blk_lt hA.out
                                  by_cases h40 : D3 = 0
                                  · subst h40
                                    obtain ⟨G1, G2⟩ := HFX.out (by first | rfl | trivial)
                                    rw [G1, if_pos rfl] at HTW
                                    generalize ans G ⟨M1, M2, LW⟩ C = N2 at *
                                    have eN2 : (N2 != 0) = true := by simpa using G2
                                    clear G1 G2 HFX
                                    go_wp2_with fail
                                    refine (HTW.out _ HSW.out).mono ?_
                                    rintro e41 w41 ⟨rfl, hb41⟩
                                    replace HB := Lib.hid (HB.out.trans (hb41.mono HB.out.size))
                                    clear hb41 h0 h1' h2 lx9
                                    clear q0 q1 q2 q3 q4 q5 q6 p0 p1 p2 p3 p4 p5 p6 p7 lr0 lr1
                                    go_wp2_with fail
                                    all_goals go_ret
                                    all_goals exact ⟨by first | rfl | exact ret_bool (by simp), HB4.out.trans (HB.out.mono HB4.out.size)⟩
                                  · have e40 := bne_iff_ne.2 h40
                                    clear h40 HFX
                                    go_wp2_with fail
                                    all_goals go_ret
                                    all_goals exact ⟨by first | rfl | exact ret_bool (by simp), HB4.out.trans (HB.out.mono HB4.out.size)⟩
                          · have e20 := bne_iff_ne.2 h20
                            clear h20
                            go_wp2_with fail
                            all_goals go_ret
                            all_goals exact ⟨by first | rfl | exact ret_bool (by simp), HB4.out.trans (HB.out.mono HB4.out.size)⟩
  · have e1 := bne_iff_ne.2 h1
    clear h1
    go_wp2_with fail
    all_goals go_ret
    all_goals exact ⟨by first | rfl | exact ret_bool (by simp), HB4.out.trans (HB.out.mono HB4.out.size)⟩
end Go.Proofs.YtdklmcicogmeaaaGreat
