import Derived.Test.YtdklmcicogmeaaaGreatMCtd
import Derived.Test.YtdklmcicogmeaaaGreatMDDist
/- A source on a line through the sensors is in the region: in plain words. No program in sight. -/
namespace Go.Proofs.YtdklmcicogmeaaaGreat
set_option linter.unusedVariables false
set_option linter.unusedSimpArgs false

/-- A coordinate along an axis, and a place with another one. -/
def getA (p : T3) (ax : Int) : Int := if ax = 0 then p.x else if ax = 1 then p.y else p.z
def putA (p : T3) (ax v : Int) : T3 := if ax = 0 then ⟨v, p.y, p.z⟩ else if ax = 1 then ⟨p.x, v, p.z⟩ else ⟨p.x, p.y, v⟩
theorem putA_put (p : T3) (ax u v : Int) : putA (putA p ax u) ax v = putA p ax v := by
  unfold putA; split
  · rfl
  · split <;> rfl
/-- The corner of a cell; the source. -/
def crn (g : Gri) (c : T3) : T3 := ⟨g.f.x + c.x * g.st, g.f.y + c.y * g.st, g.f.z + c.z * g.st⟩
/-- A source on an axis: the sensor at a place q with speed v and beginning B; dst its distance. -/
def sS (g : Gri) (c : T3) (ax u : Int) : Int := getA (crn g c) ax + u
def dst (s q : Int) : Int := if q - s < 0 then -(q - s) else q - s
def locS (g : Gri) (c : T3) (ax u v B q : Int) : Sen :=
  ⟨(putA (crn g c) ax q).x, (putA (crn g c) ax q).y, (putA (crn g c) ax q).z, B + dst (sS g c ax u) q / v, B + -((-dst (sS g c ax u) q) / v)⟩
theorem excl_no {lo hi v B di dj tl th nj fi : Int} (hv : 0 < v) (h1 : lo ≤ v) (h2 : v ≤ hi) (hn : nj ≤ dj) (hf : di ≤ fi) (ht : tl ≤ B + di / v) (hh : B + -((-dj) / v) ≤ th) :
    ¬ (nj - fi > max (lo * (th - tl)) (hi * (th - tl))) := by
  have e1 : v * (di / v) ≤ di := Int.mul_ediv_self_le (by omega)
  have e2 : v * ((-dj) / v) ≤ -dj := Int.mul_ediv_self_le (by omega)
  obtain ⟨x, hx⟩ : ∃ x, x = di / v := ⟨_, rfl⟩
  obtain ⟨y, hy⟩ : ∃ y, y = (-dj) / v := ⟨_, rfl⟩
  rw [← hx] at e1 ht
  rw [← hy] at e2 hh
  clear hx hy
  obtain ⟨t, ht'⟩ : ∃ t, t = th - tl := ⟨_, rfl⟩
  rw [← ht']
  have h3 : -y - x ≤ t := by omega
  have h4 : v * (-y - x) ≤ v * t := Int.mul_le_mul_of_nonneg_left h3 (by omega)
  rw [Int.mul_sub, Int.mul_neg] at h4
  have h5 : v * t ≤ max (lo * t) (hi * t) := by
    rcases Int.le_total 0 t with h | h
    · exact Int.le_trans (Int.mul_le_mul_of_nonneg_right h2 h) (Int.le_max_right _ _)
    · exact Int.le_trans (Int.mul_le_mul_of_nonpos_right h1 h) (Int.le_max_left _ _)
  omega
theorem loc_sqlt {a b : Int} (ha : 0 ≤ a) (h : a < b) : a * a < b * b :=
  Int.lt_of_le_of_lt (Int.mul_le_mul_of_nonneg_left (Int.le_of_lt h) ha) (Int.mul_lt_mul_of_pos_right h (by omega))
theorem isq_le {a n : Int} (ha : 0 ≤ a) (hn : n ≤ a * a) (h0 : 0 ≤ n) (h : n < 4398046511104) : isq n ≤ a := by
  obtain ⟨h1, h2, _⟩ := isq_spec h0 h
  rcases Int.lt_or_le a (isq n) with hc | hc
  · exfalso
    have := loc_sqlt ha hc
    omega
  · exact hc
theorem isqUp_ge {b n : Int} (hb : 0 ≤ b) (hn : b * b ≤ n) (h : n < 4398046511104) : b ≤ isqUp n := by
  have h0 : 0 ≤ n := Int.le_trans (Int.mul_nonneg hb hb) hn
  obtain ⟨h1, h2, h3⟩ := isq_spec h0 h
  unfold isqUp
  obtain ⟨r, hr⟩ : ∃ r, r = isq n := ⟨_, rfl⟩
  rw [← hr] at h1 h2 h3 ⊢
  split
  · next hlt =>
    rcases Int.lt_or_le (r + 1) b with hc | hc
    · exfalso
      have := loc_sqlt (by omega) hc
      omega
    · exact hc
  · next hlt =>
    rcases Int.lt_or_le r b with hc | hc
    · exfalso
      have := loc_sqlt (by omega) hc
      omega
    · exact hc
theorem loc_sq {a : Int} (h0 : 0 ≤ a) (h1 : a ≤ 26000) : 0 ≤ a * a ∧ a * a ≤ 676000000 :=
  ⟨Int.mul_nonneg h0 h0, Int.le_trans (Int.mul_le_mul h1 h1 h0 (by decide)) (by decide)⟩
theorem axN_zero {st : Int} (h : 1 ≤ st) : axN 0 st = 0 := by unfold axN; rw [if_neg (by decide), if_neg (by omega)]
theorem axF_zero {st : Int} (h : 1 ≤ st) : axF 0 st = st := by unfold axF; rw [if_pos (by omega)]; omega
/-- The distance range of the cell holds the distance of the source. -/
theorem loc_dist {g : Gri} {c : T3} {ax u q v B : Int} (hg : griE g = 0) (hc : celB g c = true) (ha : ax = 0 ∨ ax = 1 ∨ ax = 2) (hu0 : 0 ≤ u) (hu1 : u ≤ g.st) (hq0 : -10000 ≤ q) (hq1 : q ≤ 10000) :
    (dOf g c (locS g c ax u v B q)).1 ≤ dst (sS g c ax u) q ∧ dst (sS g c ax u) q ≤ (dOf g c (locS g c ax u v B q)).2 := by
  obtain ⟨hf, hst, hcn⟩ := griE_zero hg
  obtain ⟨f1, f2, f3⟩ := plc_iff.1 hf
  obtain ⟨n1, n2, n3⟩ := cnt_iff.1 hcn
  obtain ⟨c1, c2, c3⟩ := celB_iff.1 hc
  have key : ∀ f x : Int, -10000 ≤ f → f ≤ 10000 → 0 ≤ x → x ≤ 5 → -10000 ≤ f + x * g.st ∧ f + x * g.st ≤ 15000 := by
    intro f x h1 h2 h3 h4
    have e1 : 0 ≤ x * g.st := Int.mul_nonneg h3 (by omega)
    have e2 : x * g.st ≤ 5 * 1000 := Int.mul_le_mul h4 hst.2 (by omega) (by decide)
    omega
  have main : ∀ L : Int, -10000 ≤ L → L ≤ 15000 → ∀ n F : Int, n = axN (L - q) g.st * axN (L - q) g.st → F = axF (L - q) g.st * axF (L - q) g.st + g.st * g.st + g.st * g.st →
      isq n ≤ dst (L + u) q ∧ dst (L + u) q ≤ isqUp F := by
    intro L h1 h2 n F hn hF
    obtain ⟨a0, a1⟩ := axN_bd (lo := L - q) (st := g.st) (by omega) (by omega) hst.1 hst.2
    obtain ⟨b0, b1⟩ := axF_bd (lo := L - q) (st := g.st) (by omega) (by omega) hst.1 hst.2
    have hA : axN (L - q) g.st ≤ dst (L + u) q := by unfold axN dst; split <;> split <;> (try split) <;> omega
    have hB : dst (L + u) q ≤ axF (L - q) g.st := by unfold axF dst; split <;> split <;> omega
    have s1 := loc_sq a0 (Int.le_trans a1 (by decide))
    have s2 := loc_sq b0 b1
    have s3 := loc_sq (a := g.st) (by omega) (by omega)
    refine ⟨Int.le_trans (isq_le a0 (Int.le_of_eq hn) (by omega) (by omega)) hA, Int.le_trans hB (isqUp_ge b0 (by omega) (by omega))⟩
  have z : ∀ x : Int, x - x = 0 := fun x => by omega
  rcases ha with rfl | rfl | rfl
  · obtain ⟨k1, k2⟩ := key g.f.x c.x f1.1 f1.2 c1.1 (by omega)
    refine main _ k1 k2 _ _ ?_ ?_
    · simp [nea, dOf, dist, locS, putA, crn, z, axN_zero hst.1]
    · simp [faa, dOf, dist, locS, putA, crn, z, axF_zero hst.1]
  · obtain ⟨k1, k2⟩ := key g.f.y c.y f2.1 f2.2 c2.1 (by omega)
    refine main _ k1 k2 _ _ ?_ ?_
    · simp [nea, dOf, dist, locS, putA, crn, z, axN_zero hst.1]
    · simp [faa, dOf, dist, locS, putA, crn, z, axF_zero hst.1]; omega
  · obtain ⟨k1, k2⟩ := key g.f.z c.z f3.1 f3.2 c3.1 (by omega)
    refine main _ k1 k2 _ _ ?_ ?_
    · simp [nea, dOf, dist, locS, putA, crn, z, axN_zero hst.1]
    · simp [faa, dOf, dist, locS, putA, crn, z, axF_zero hst.1]; omega
/-- A cell that no pair excludes has an answer. -/
theorem ans_pos {g : Gri} {A : Arr} {c : T3} (h : ∀ i j, i < A.l.length → j < A.l.length → i ≠ j → excl g A c i j = false) : ans g A c ≠ 0 := by
  unfold ans
  rw [if_pos (allP_iff.2 fun i j hi hj hne => by rw [h i j hi hj hne]; rfl)]
  split <;> decide
/-- Sensors whose places are those of the source's line, with ranges of times and speeds that hold those of the source. -/
theorem loc_ans {g : Gri} {c : T3} {ax u v B : Int} {qs : List Int} {A : Arr} (hg : griE g = 0) (hc : celB g c = true) (ha : ax = 0 ∨ ax = 1 ∨ ax = 2) (hu0 : 0 ≤ u) (hu1 : u ≤ g.st) (hv : 1 ≤ v)
    (hq : ∀ q ∈ qs, -10000 ≤ q ∧ q ≤ 10000) (hl : A.l.length = qs.length) (h1 : A.lo ≤ v) (h2 : v ≤ A.hi)
    (hp : ∀ k, k < qs.length → ∀ q, q = qs.getD k 0 → ((sAt A.l k).x = (locS g c ax u v B q).x ∧ (sAt A.l k).y = (locS g c ax u v B q).y ∧ (sAt A.l k).z = (locS g c ax u v B q).z) ∧ (sAt A.l k).lo ≤ (locS g c ax u v B q).lo ∧ (locS g c ax u v B q).hi ≤ (sAt A.l k).hi) :
    ans g A c ≠ 0 := by
  have hqk : ∀ k, k < qs.length → -10000 ≤ qs.getD k 0 ∧ qs.getD k 0 ≤ 10000 := fun k hk => hq _ (by rw [List.getD_eq_getElem?_getD, List.getElem?_eq_getElem hk]; exact List.getElem_mem hk)
  have hd : ∀ k, k < qs.length → (dAt g c A.l k).1 ≤ dst (sS g c ax u) (qs.getD k 0) ∧ dst (sS g c ax u) (qs.getD k 0) ≤ (dAt g c A.l k).2 := by
    intro k hk
    obtain ⟨⟨e1, e2, e3⟩, _⟩ := hp k hk _ rfl
    have : dAt g c A.l k = dOf g c (locS g c ax u v B (qs.getD k 0)) := by unfold dAt dOf; rw [e1, e2, e3]
    rw [this]
    exact loc_dist hg hc ha hu0 hu1 (hqk k hk).1 (hqk k hk).2
  refine ans_pos fun i j hi hj hne => ?_
  rw [hl] at hi hj
  unfold excl lat
  rw [decide_eq_false_iff_not]
  exact excl_no (B := B) (by omega) h1 h2 (hd j hj).1 (hd i hi).2 (hp i hi _ rfl).2.1 (hp j hj _ rfl).2.2
theorem cell_mem {g : Gri} {c : T3} (hg : griE g = 0) (hc : celB g c = true) : c ∈ gCells g := by
  obtain ⟨hf, hst, hcn⟩ := griE_zero hg
  obtain ⟨c1, c2, c3⟩ := celB_iff.1 hc
  unfold gCells
  refine cellsX_mem.2 ⟨c.x.toNat, c.y.toNat, c.z.toNat, by omega, by omega, by omega, ?_⟩
  cases c
  simp only [T3.mk.injEq] at *
  omega
/-- Its cell is in the region, with its answer; nothing is contradicted. -/
theorem reg_has {g : Gri} {A : Arr} {c : T3} (h0 : hE g A = 0) (hc : celB g c = true) (ha : ans g A c ≠ 0) : (⟨c, ans g A c⟩ : Cel) ∈ regV g A ∧ ctrV g A = ([], 12) := by
  have hm : (⟨c, ans g A c⟩ : Cel) ∈ regV g A := by
    rw [regV_ok h0]
    unfold regC
    exact List.mem_filterMap.2 ⟨c, cell_mem (hE_zero h0).1 hc, by rw [if_neg ha]⟩
  exact ⟨hm, ctrV_no h0 (fun h => by rw [h] at hm; simp at hm)⟩
end Go.Proofs.YtdklmcicogmeaaaGreat
