import Derived.Test.YtbjgklifmillgaaMRp
import Derived.Test.YtbjgklifmillgaaMVq
/- The worst gap and the envelope, plainly. No program in sight. -/
namespace Go.Proofs.Ytbjgklifmillgaa
open Go.RowKit
set_option linter.unusedVariables false

/-- The first index below k of the greatest value (0 for k = 0). -/
def wst (x : Nat → Int) : Nat → Nat
  | 0 => 0
  | k + 1 => if x (wst x k) < x k then k else wst x k
theorem wst_lt (x : Nat → Int) : ∀ {k : Nat}, 0 < k → wst x k < k
  | 1, _ => by simp [wst]
  | k + 2, _ => by
    have := wst_lt x (k := k + 1) (by omega)
    rw [wst]
    split <;> omega
theorem wst_one (x : Nat → Int) : wst x 1 = 0 := by simp [wst]
theorem wst_next {x : Nat → Int} {k W : Nat} (hW : wst x k = W) : wst x (k + 1) = if x W < x k then k else W := by rw [wst, hW]
/-- The stress of a gap, as a numerator. -/
def gpN (s e : List Int) (L i : Nat) : Int := nu s e L i - nu s e L (i + 1)
theorem Lad.gpN_bd {s e : List Int} {g : Bool} {n L : Nat} (h : Lad s e g n L) (i : Nat) : 0 ≤ gpN s e L i ∧ gpN s e L i ≤ dd s e L L := by
  have h1 := h.nu_fall i
  have h2 := h.nu_bd i
  have h3 := h.nu_bd (i + 1)
  unfold gpN; omega
theorem Lad.dd_bd {s e : List Int} {g : Bool} {n L : Nat} (h : Lad s e g n L) : 0 < dd s e L L ∧ dd s e L L ≤ 4096000000000000 :=
  ⟨h.D, (dd_bd6 s e L (fun x hx => by have := h.bs x hx; omega) h.be L (by have := h.Ln; have := h.n6; omega)).2⟩
/-- The stress of a gap as a fraction. -/
def wF (s e : List Int) (n L : Nat) : Int × Int := low (gpN s e L (wst (gpN s e L) n)) (dd s e L L)
/-- Both results, of the program and of the reference. -/
def wOk (s e : List Int) (n L : Nat) : Bool := !((initOf s e n L).any (fun f => !smallF f)) && smallF (wF s e n L)
def wI (s e : List Int) (n L : Nat) : Int := if wOk s e n L = true then (wst (gpN s e L) n : Int) else 0
def wE (s e : List Int) (n L : Nat) : Int := if wOk s e n L = true then 0 else 8
def wP (s e : List Int) (n L : Nat) : Int := if wOk s e n L = true then (wF s e n L).1 else 0
def wQ (s e : List Int) (n L : Nat) : Int := if wOk s e n L = true then (wF s e n L).2 else 0
/-- A comparison of two gaps as quotients. -/
theorem Lad.cmp_gap {s e : List Int} {g : Bool} {n L : Nat} (h : Lad s e g n L) (i j : Nat) : (0 < ((vq s e L i - vq s e L (i + 1)).num * ((vq s e L j - vq s e L (j + 1)).den : Int) - (vq s e L j - vq s e L (j + 1)).num * ((vq s e L i - vq s e L (i + 1)).den : Int)).sign) ↔ gpN s e L j < gpN s e L i := by
  rw [(cmp_sign _ _).2.1, vq_sub, vq_sub]
  have hD : (0 : Rat) < ((dd s e L L : Int) : Rat) := by have := h.D; exact_mod_cast this
  show _ ↔ nu s e L j - nu s e L (j + 1) < nu s e L i - nu s e L (i + 1)
  rw [← Rat.intCast_lt_intCast (a := nu s e L j - nu s e L (j + 1))]
  constructor
  · intro hh
    have := Rat.mul_lt_mul_of_pos_right hh hD
    rwa [Rat.div_mul_cancel (by grind), Rat.div_mul_cancel (by grind)] at this
  · intro hh
    rw [Rat.div_def, Rat.div_def]
    exact Rat.mul_lt_mul_of_pos_right hh (Rat.inv_pos.2 hD)
/-- The envelope of a node: numerator and denominator, from the parts of both voltages. -/
def envN (vn vd un ud : Int) : Int := vn * ud + sz (vn * ud - un * vd)
def envF (v u : Int × Int) : Int × Int := low (envN v.1 v.2 u.1 u.2) (v.2 * u.2)
def absR (q : Rat) : Rat := if q < 0 then 0 - q else q
theorem env_eq {vn vd un ud : Int} (hv : 0 < vd) (hu : 0 < ud) : fq (Rat.divInt vn vd + absR (Rat.divInt vn vd - Rat.divInt un ud)) = envF (vn, vd) (un, ud) := by
  unfold envF
  have hp : 0 < vd * ud := Int.mul_pos hv hu
  have hv' : (vd : Rat) ≠ 0 := by have : vd ≠ 0 := by omega
                                  exact_mod_cast this
  have hu' : (ud : Rat) ≠ 0 := by have : ud ≠ 0 := by omega
                                  exact_mod_cast this
  have hp' : (0 : Rat) < ((vd * ud : Int) : Rat) := by exact_mod_cast hp
  have e1 : Rat.divInt vn vd - Rat.divInt un ud = ((vn * ud - un * vd : Int) : Rat) / ((vd * ud : Int) : Rat) := by
    rw [Rat.divInt_eq_div, Rat.divInt_eq_div, Rat.intCast_sub, Rat.intCast_mul, Rat.intCast_mul, Rat.intCast_mul]
    grind
  have e2 : absR (Rat.divInt vn vd - Rat.divInt un ud) = ((sz (vn * ud - un * vd) : Int) : Rat) / ((vd * ud : Int) : Rat) := by
    rw [e1]
    generalize vn * ud - un * vd = d
    generalize vd * ud = D at *
    unfold absR sz
    by_cases hd : d < 0
    · have hneg : ((d : Rat) / (D : Rat)) < 0 := by
        have h1 : (d : Rat) < 0 := by exact_mod_cast hd
        have h2 := Rat.mul_lt_mul_of_pos_right h1 (Rat.inv_pos.2 hp')
        rw [← Rat.div_def, Rat.zero_mul] at h2
        exact h2
      rw [if_pos hneg, show max d (-d) = -d by omega, Rat.intCast_neg]
      grind
    · have hneg : ¬ ((d : Rat) / (D : Rat)) < 0 := by
        have h1 : (0 : Rat) ≤ (d : Rat) := by have : 0 ≤ d := by omega
                                              exact_mod_cast this
        have h2 := Rat.mul_nonneg h1 (Rat.le_of_lt (Rat.inv_pos.2 hp'))
        rw [← Rat.div_def] at h2
        exact Rat.not_lt.2 h2
      rw [if_neg hneg, show max d (-d) = d by omega]
  rw [e2, ← fq_low _ _ hp]
  congr 1
  unfold envN
  rw [Rat.divInt_eq_div, Rat.intCast_add, Rat.intCast_mul vn ud, Rat.intCast_mul vd ud]
  grind
/-- The envelope of all nodes, and whether it is refused. -/
def envAt (s e t : List Int) (n L : Nat) (g : Bool) (j : Nat) : Int × Int := envF (gp (finO t n g) j) (gp (initOf s e n L) j)
def envL (s e t : List Int) (n L : Nat) (g : Bool) : List (Int × Int) := (List.range (n + 1)).map (envAt s e t n L g)
def envBad (s e t : List Int) (n L : Nat) (g : Bool) : Bool := (initOf s e n L).any (fun f => !smallF f) || (envL s e t n L g).any (fun f => !smallF f)
theorem envL_len (s e t : List Int) (n L : Nat) (g : Bool) : (envL s e t n L g).length = n + 1 := by simp [envL]
theorem envL_succ (s e t : List Int) (n L : Nat) (g : Bool) (j : Nat) (hj : j < n + 1) : (envL s e t n L g).take (j + 1) = (envL s e t n L g).take j ++ [envAt s e t n L g j] := by
  rw [List.take_add_one, List.getElem?_eq_getElem (by rw [envL_len]; exact hj)]
  have : (envL s e t n L g)[j]'(by rw [envL_len]; exact hj) = envAt s e t n L g j := by simp [envL]
  rw [this]; rfl
theorem envL_bad {s e t : List Int} {n L : Nat} {g : Bool} {j : Nat} (hj : j < n + 1) (h : smallF (envAt s e t n L g j) = false) : envBad s e t n L g = true := by
  unfold envBad
  rw [Bool.or_eq_true]
  refine .inr (List.any_eq_true.2 ⟨envAt s e t n L g j, ?_, by rw [h]; rfl⟩)
  exact List.mem_map.2 ⟨j, by simpa using hj, rfl⟩
theorem envL_good {s e t : List Int} {n L : Nat} {g : Bool} (h0 : (initOf s e n L).any (fun f => !smallF f) = false) (h : ∀ j, j < n + 1 → smallF (envAt s e t n L g j) = true) : envBad s e t n L g = false := by
  unfold envBad
  rw [h0, Bool.false_or, List.any_eq_false]
  intro x hx
  obtain ⟨j, hj, rfl⟩ := List.mem_map.1 hx
  rw [h j (by simpa using hj)]; simp
/-- Fractions handed out, or refused. -/
def EPost (bad : Bool) (l : List (Int × Int)) (n : Nat) (e' : Ending) (w' : World) : Prop :=
  (bad = true ∧ e' = .returned (.tuple #[.slice none 0 0, .int .i64 8])) ∨ (bad = false ∧ ∃ a' c', e' = .returned (.tuple #[.slice a' n c', .int .i64 0]) ∧ PairsR w' a' n l)
theorem env_bd {vn vd un ud : Int} (h1 : 0 ≤ vn ∧ vn ≤ 6000) (h2 : 1 ≤ vd ∧ vd ≤ 6000) (h3 : -1000000000 ≤ un ∧ un ≤ 1000000000) (h4 : 1 ≤ ud ∧ ud ≤ 1000000000) :
    (0 ≤ vn * ud ∧ vn * ud ≤ 6000000000000) ∧ (1 ≤ vd * ud ∧ vd * ud ≤ 6000000000000) ∧ (-6000000000000 ≤ un * vd ∧ un * vd ≤ 6000000000000) := by
  have a1 := mulb (a := vn) (b := ud) 6000 1000000000 6000000000000 (by omega) (by omega) (by omega) (by omega) (by omega)
  have a2 := mulb (a := vd) (b := ud) 6000 1000000000 6000000000000 (by omega) (by omega) (by omega) (by omega) (by omega)
  have a3 := mulb (a := un) (b := vd) 1000000000 6000 6000000000000 (by omega) (by omega) (by omega) (by omega) (by omega)
  have a4 : 0 ≤ vn * ud := Int.mul_nonneg (by omega) (by omega)
  have a5 : 0 < vd * ud := Int.mul_pos (by omega) (by omega)
  omega
theorem fin_parts {t : List Int} {n : Nat} (g : Bool) (h : ∀ x ∈ t, 1 ≤ x ∧ x ≤ 1000) (hn : n ≤ t.length) (h0 : 0 < n) (h6 : n ≤ 6) {j : Nat} (hj : j < n + 1) :
    (0 ≤ (gp (finO t n g) j).1 ∧ (gp (finO t n g) j).1 ≤ 6000) ∧ 1 ≤ (gp (finO t n g) j).2 ∧ (gp (finO t n g) j).2 ≤ 6000 := by
  have hb := tsum_bd h n hn
  have hv := finV_bd g h hn (show j ≤ n by omega)
  have e : gp (finO t n g) j = low (finV t n g j) (tsum t n) := finO_get t n g j hj
  rw [e]
  have := low_le_parts hv.1 (show 0 < tsum t n by omega)
  omega
/-- The envelope of a node as a quotient. -/
def finQ (t : List Int) (n : Nat) (g : Bool) (j : Nat) : Rat := Rat.divInt (gp (finO t n g) j).1 (gp (finO t n g) j).2
def envQ (s e t : List Int) (n L : Nat) (g : Bool) (j : Nat) : Rat := finQ t n g j + absR (finQ t n g j - vq s e L j)
theorem Lad.env_fqs {s e t : List Int} {g : Bool} {n L : Nat} (h : Lad s e g n L) (bt : ∀ x ∈ t, 1 ≤ x ∧ x ≤ 1000) (hn : n ≤ t.length) : Go.Proofs.Ytbjgklifmillgaa.fqs (envQ s e t n L g) (n + 1) = envL s e t n L g := by
  unfold Go.Proofs.Ytbjgklifmillgaa.fqs envL
  refine List.map_congr_left (fun j hj => ?_)
  have hj' : j < n + 1 := by simpa using hj
  have h1 := fin_parts g bt hn h.n0 h.n6 hj'
  have h2 := h.fqv j
  rw [← init_gp (s := s) (e := e) (n := n) hj'] at h2
  have h3 : 0 < (gp (initOf s e n L) j).2 := by rw [init_gp hj']; have := low_den' (a := nu s e L j) h.D; omega
  unfold envQ envAt finQ
  rw [fq_eq h2]
  exact env_eq (by omega) h3
theorem Lad.env_bad {s e t : List Int} {g : Bool} {n L : Nat} (h : Lad s e g n L) (h0 : (initOf s e n L).any (fun f => !smallF f) = false) : envBad s e t n L g = (envL s e t n L g).any (fun f => !smallF f) := by
  unfold envBad; rw [h0, Bool.false_or]
theorem absR_neg {q : Rat} (h : q.num.sign < 0) : absR q = 0 - q := by unfold absR; rw [if_pos ((sign_num q).2.2.1 h)]
theorem absR_pos {q : Rat} (h : ¬ q.num.sign < 0) : absR q = q := by unfold absR; rw [if_neg (fun e => h ((sign_num q).2.2.2 e))]
theorem sz_absR {K : Nat} {q : Rat} (h : Sz K q) : Sz (1 + K + 1) (absR q) := by
  unfold absR
  split
  · exact sz_sub (by have := sz_int (n := 0) (by omega) (by omega); simpa using this) h
  · exact h.mono (by omega)
end Go.Proofs.Ytbjgklifmillgaa
