import Derived.Test.YtbjgklifmillgaaGreatFrac
import Derived.Test.YtbjgklifmillgaaGreatMLaw
import Derived.Test.YtbjgklifmillgaaGreatMSol
import Derived.Test.YtbjgklifmillgaaGreatRat3
/- Quotients as pairs of numbers, and lists of them in memory. -/
namespace Go.Proofs.YtbjgklifmillgaaGreat
open Go.RowKit
set_option linter.unusedVariables false

/-- The parts of a quotient. -/
def fq (q : Rat) : Int × Int := (q.num, (q.den : Int))
theorem fq_low (a b : Int) (hb : 0 < b) : fq ((a : Rat) / (b : Rat)) = low a b := by
  have hd : gc a b ∣ a := by unfold gc; exact Int.gcd_dvd_left ..
  rw [← Rat.divInt_eq_div]
  unfold fq low
  rw [rat_num hb, rat_den hb]
  have e : a / ((Int.gcd a b : Nat) : Int) = a.tdiv (gc a b) := by
    rw [Int.tdiv_eq_ediv_of_dvd hd]; rfl
  rw [e]; rfl
theorem small_fq (q : Rat) : smallF (fq q) = smallQ q := by
  have := den_pos q
  unfold smallF fq smallQ
  simp only
  congr 1
  unfold wi
  have e : decide ((1 : Int) ≤ (q.den : Int)) = true := by simp; omega
  simp [e]
theorem fq_one : fq 1 = (1, 1) := rfl
theorem fq_zero : fq 0 = (0, 1) := rfl
theorem fq_inj {p q : Rat} (h : fq p = fq q) : p = q := by
  have h1 : p.num = q.num := congrArg Prod.fst h
  have h2 : (p.den : Int) = (q.den : Int) := congrArg Prod.snd h
  exact Rat.ext h1 (by omega)
/-- A quotient whose parts have no common divisor. -/
theorem fq_div {p q : Int} (hq : 0 < q) (hg : gc p q = 1) : fq (Rat.divInt p q) = (p, q) := by
  unfold fq
  rw [rat_num hq, rat_den hq]
  have : ((Int.gcd p q : Nat) : Int) = 1 := hg
  rw [this, Int.ediv_one, Int.ediv_one]
theorem fq_eq {q : Rat} {a b : Int} (h : fq q = (a, b)) : q = Rat.divInt a b := by
  have h1 : q.num = a := congrArg Prod.fst h
  have h2 : (q.den : Int) = b := congrArg Prod.snd h
  rw [← h1, ← h2]
  exact (Rat.num_divInt_den q).symm
/-- The parts of many quotients. -/
def fqs (x : Nat → Rat) (n : Nat) : List (Int × Int) := (List.range n).map (fun i => fq (x i))
theorem fqs_len (x : Nat → Rat) (n : Nat) : (fqs x n).length = n := by simp [fqs]
theorem fqs_succ (x : Nat → Rat) (n : Nat) : fqs x (n + 1) = fqs x n ++ [fq (x n)] := by simp [fqs, List.range_succ]
theorem fqs_any (x : Nat → Rat) (n : Nat) : (fqs x n).any (fun f => !smallF f) = (List.range n).any (fun i => !smallQ (x i)) := by
  unfold fqs
  rw [List.any_map]
  congr 1
  funext i
  show (!smallF (fq (x i))) = _
  rw [small_fq]
theorem fqs_bad {x : Nat → Rat} {n k : Nat} (hk : k < n) (h : smallQ (x k) = false) : (fqs x n).any (fun f => !smallF f) = true := by
  rw [fqs_any, List.any_eq_true]
  exact ⟨k, by simpa using hk, by simp [h]⟩
theorem fqs_good {x : Nat → Rat} {n : Nat} (h : ∀ k, k < n → smallQ (x k) = true) : (fqs x n).any (fun f => !smallF f) = false := by
  rw [fqs_any, List.any_eq_false]
  intro k hk
  rw [h k (by simpa using hk)]; simp
theorem fqs_get (x : Nat → Rat) (n k : Nat) (h : k < n) : (fqs x n).getD k (0, 0) = fq (x k) := by simp [fqs, List.getD, h]
theorem fqs_congr {x y : Nat → Rat} {n : Nat} (h : ∀ k, k < n → x k = y k) : fqs x n = fqs y n := by
  unfold fqs
  refine List.map_congr_left (fun i hi => ?_)
  rw [h i (by simpa using hi)]
/-- The initial distribution, as quotients and as fractions. -/
theorem Lad.fqs {s e : List Int} {g : Bool} {n L : Nat} (h : Lad s e g n L) : fqs (fun k => ((nu s e L k : Int) : Rat) / ((dd s e L L : Int) : Rat)) (n + 1) = initOf s e n L := by
  unfold Go.Proofs.YtbjgklifmillgaaGreat.fqs initOf numsOf
  rw [List.map_map]
  refine List.map_congr_left (fun j hj => ?_)
  rw [fq_low _ _ h.D]; rfl
/-- The sum of the turns of the first sections. -/
def tsum (t : List Int) : Nat → Int
  | 0 => 0
  | j + 1 => tsum t j + t.getD j 0
theorem tsum_bd {t : List Int} (h : ∀ x ∈ t, 1 ≤ x ∧ x ≤ 1000) : ∀ j, j ≤ t.length → (j : Int) ≤ tsum t j ∧ tsum t j ≤ 1000 * j
  | 0, _ => by simp [tsum]
  | j + 1, hj => by
    have h1 := tsum_bd h j (by omega)
    have h2 := h _ (getD_mem (show j < t.length by omega))
    simp only [tsum]; omega
theorem tsum_le {t : List Int} (h : ∀ x ∈ t, 1 ≤ x ∧ x ≤ 1000) {j : Nat} : ∀ n, j ≤ n → n ≤ t.length → tsum t j ≤ tsum t n
  | 0, hj, _ => by obtain rfl : j = 0 := by omega
                   exact Int.le_refl _
  | n + 1, hj, hn => by
    by_cases hjn : j = n + 1
    · subst hjn; exact Int.le_refl _
    · have h1 := tsum_le h n (show j ≤ n by omega) (by omega)
      have h2 := h _ (getD_mem (show n < t.length by omega))
      simp only [tsum]; omega
/-- The final voltages: numerators, and fractions. -/
def finV (t : List Int) (n : Nat) (g : Bool) (j : Nat) : Int := if g = true then tsum t n - tsum t j else tsum t n
def finN (t : List Int) (n : Nat) (g : Bool) : List Int := (List.range (n + 1)).map (finV t n g)
def finO (t : List Int) (n : Nat) (g : Bool) : List (Int × Int) := (finN t n g).map (low · (tsum t n))
theorem finN_len (t : List Int) (n : Nat) (g : Bool) : (finN t n g).length = n + 1 := by simp [finN]
theorem finO_len (t : List Int) (n : Nat) (g : Bool) : (finO t n g).length = n + 1 := by simp [finO, finN]
theorem finV_bd {t : List Int} {n : Nat} (g : Bool) (h : ∀ x ∈ t, 1 ≤ x ∧ x ≤ 1000) (hn : n ≤ t.length) {j : Nat} (hj : j ≤ n) : 0 ≤ finV t n g j ∧ finV t n g j ≤ tsum t n := by
  have h1 := tsum_le h n hj hn
  have h2 := tsum_bd h j (by omega)
  have h3 := tsum_bd h n hn
  unfold finV; split <;> omega
theorem finO_get (t : List Int) (n : Nat) (g : Bool) (j : Nat) (hj : j < n + 1) : (finO t n g).getD j (0, 0) = low (finV t n g j) (tsum t n) := by
  simp [finO, finN, List.getD, hj]
theorem low_le_parts {a b : Int} (ha : 0 ≤ a) (hb : 0 < b) : 0 ≤ (low a b).1 ∧ (low a b).1 ≤ a ∧ 1 ≤ (low a b).2 ∧ (low a b).2 ≤ b := by
  have hg := gc_pos (a := a) hb
  refine ⟨low_nn ha hb, ?_, low_den' hb, ?_⟩
  · show a.tdiv (gc a b) ≤ a
    rw [Int.tdiv_eq_ediv_of_nonneg ha]
    exact Int.ediv_le_self _ ha
  · show b / gc a b ≤ b
    exact Int.ediv_le_self _ (by omega)
theorem finO_small {t : List Int} {n : Nat} (g : Bool) (h : ∀ x ∈ t, 1 ≤ x ∧ x ≤ 1000) (hn : n ≤ t.length) (h0 : 0 < n) (h6 : n ≤ 6) : (finO t n g).any (fun f => !smallF f) = false := by
  rw [List.any_eq_false]
  intro f hf
  unfold finO finN at hf
  rw [List.map_map] at hf
  obtain ⟨j, hj, rfl⟩ := List.mem_map.1 hf
  have hj' : j < n + 1 := by simpa using hj
  have h3 := tsum_bd h n hn
  have h1 := finV_bd g h hn (show j ≤ n by omega)
  have h2 := low_le_parts h1.1 (show 0 < tsum t n by omega)
  show ¬ ((!smallF (low (finV t n g j) (tsum t n))) = true)
  have : smallF (low (finV t n g j) (tsum t n)) = true := by
    unfold smallF
    rw [Bool.and_eq_true, decide_eq_true_eq]
    exact ⟨wi_iff.2 (by omega), by omega⟩
  rw [this]; simp
end Go.Proofs.YtbjgklifmillgaaGreat

/- The parts of many ratios: Fracs of the reference. -/
namespace Go.Proofs.YtbjgklifmillgaaGreat
open Go.RowKit
set_option linter.unusedVariables false

set_option maxHeartbeats 1000000 in
set_option maxRecDepth 100000 in
theorem rfracs_any (x : Nat → Rat) (ys : List Value) (a : Option Addr) (n c : Nat) (w : World) (hs : SlR w a n 4 ys) (he : ∀ k, k < n → EntL (fun b => b < w.heap.size) w ys k (x k)) (hn : n ≤ 1000) :
    Calls Tryz.prog 42 #[.slice a n c] w fun e' w' => Below w.heap.size w w' ∧
      (((fqs x n).any (fun f => !smallF f) = true ∧ e' = .returned (.tuple #[.slice none 0 0, .bool false])) ∨
       ((fqs x n).any (fun f => !smallF f) = false ∧ ∃ a' c', e' = .returned (.tuple #[.slice a' n c', .bool true]) ∧ PairsR w' a' n (fqs x n))) := by
  have HS := Lib.hid hs
  have HE := Lib.hid he
  clear hs he
  go_enter Tryz.func42, Tryz.ntmps42
  go_wp2
  go_loopw [4, 5] (fun v i wr => ∃ k : Nat, i = .int .i64 k ∧ k ≤ n ∧ (∃ av cv, v = .slice av k cv ∧ Hid (wr.ownsRow w.heap.size 28 2 (.slice av k cv) k (pcells (fqs x k)))) ∧ Hid (∀ i, i < k → smallQ (x i) = true) ∧ Hid (Below w.heap.size w wr)) (fun _ i _ => n - (intOf i).toNat)
  case atStart => exact ⟨0, rfl, Nat.zero_le _, ⟨none, 0, rfl, Lib.hid (World.ownsRow_nil _ _ _ _)⟩, Lib.hid (fun i h => absurd h (by omega)), Lib.hid (Below.refl _ _)⟩
  case round =>
    obtain ⟨k, rfl, hk, ⟨av, cv, rfl, hO⟩, hS, hB⟩ := hrel
    obtain ⟨w1, rfl⟩ : ∃ w', w' = wr := ⟨wr, rfl⟩
    have hz1 := hB.out.size
    by_cases hlt : k < n
    · obtain ⟨b, o, rfl, hb, hc⟩ := HS.out.addr (by omega)
      obtain ⟨s, aa, m, d, t, a2, m2, d2, e0, e1, e2, e3, hr⟩ := HE.out k hlt
      have g0 : w1.cell? ⟨b, o + k * 4, none⟩ = some (.int .i64 s) := by rw [cellB hB.out _ _ hb, Nat.mul_comm k 4]; exact hc _ _ e0
      have g1 : w1.cell? ⟨b, o + k * 4 + 1, none⟩ = some (.slice aa m d) := by rw [cellB hB.out _ _ hb, Nat.mul_comm k 4]; exact hc _ _ e1
      have g2 : w1.cell? ⟨b, o + k * 4 + 2, none⟩ = some (.int .i64 t) := by rw [cellB hB.out _ _ hb, Nat.mul_comm k 4]; exact hc _ _ e2
      have g3 : w1.cell? ⟨b, o + k * 4 + 3, none⟩ = some (.slice a2 m2 d2) := by rw [cellB hB.out _ _ hb, Nat.mul_comm k 4]; exact hc _ _ e3
      have HF := Lib.hid (fun (w' : World) (hw : Below w1.heap.size w1 w') => ratioFrac_any _ _ (x k) w' ((hr.below hB.out).below hw))
      have HB1 := Lib.hid hB.out
      have HO1 := Lib.hid hO.out
      have HS1 := Lib.hid hS.out
      have k0 : (0 : Int) ≤ (k : Int) := by omega
      have k1 : (k : Int) < (n : Int) := by omega
      have lb : b < w1.heap.size := by omega
      clear hc e0 e1 e2 e3 hr hO hS hB
      cases hsm : smallQ (x k)
      · simp only [hsm, Bool.false_eq_true, if_false] at HF
        have HBAD := Lib.hid (fqs_bad hlt hsm)
        clear hsm
        go_wp2_with fail
        refine (HF.out _ (Below.refl _ _)).mono ?_
        rintro e5 w5 ⟨rfl, hb5⟩
        have HB5 := Lib.hid (HB1.out.trans (hb5.mono hz1))
        have hz5 := hb5.size
        clear hb5
        go_wp2
        go_ret2
        exact ⟨by have := HB5.out; (repeat' (first | (with_reducible exact Below.refl _ _) | (with_reducible assumption) | (with_reducible refine Below.drewN ?_ _) | (with_reducible refine Below.alloc ?_ ?_ _) | (with_reducible refine Below.drew ?_) | (with_reducible refine Below.setCell ?_ ?_ _) | (with_reducible refine Below.step (by assumption) ?_ ?_) | (with_reducible exact And.left (by assumption)) | go_size)), .inl ⟨HBAD.out, rfl⟩⟩
      · simp only [hsm, if_true] at HF
        have HSN := Lib.hid (show ∀ i, i < k + 1 → smallQ (x i) = true from fun i hi => by
          by_cases h : i = k
          · rw [h]; exact hsm
          · exact HS1.out i (by omega))
        have HT := Lib.hid (show pcells (fqs x (k + 1)) = pcells (fqs x k) ++ [.int .i64 (x k).num, .int .i64 ((x k).den : Int)] by
          rw [fqs_succ, pcells_append]; rfl)
        obtain ⟨p, hp⟩ : ∃ p, p = (x k).num := ⟨_, rfl⟩
        obtain ⟨q, hq⟩ : ∃ q : Int, q = ((x k).den : Int) := ⟨_, rfl⟩
        rw [← hp, ← hq] at HF HT
        clear hsm hp hq
        go_wp2_with fail
        refine (HF.out _ (Below.refl _ _)).mono ?_
        rintro e5 w5 ⟨rfl, hb5⟩
        have HB5 := Lib.hid (HB1.out.trans (hb5.mono hz1))
        have HO5 := Lib.hid (owns_below HO1.out hb5 (fun q hq => (HO1.out.lt q hq).2))
        have hz5 := hb5.size
        clear hb5 HF g0 g1 g2 g3
        go_wp2_with (at_builtin; refine wpList_append_sl _ rfl _ _ 33 rfl w.heap.size 28 _ 2 16 Tryz.underlying33 infoFrac rfl (by omega) (.slice av k cv) k (pcells (fqs x k)) rfl (by have := HO5.out; (repeat' (first | (with_reducible assumption) | ((with_reducible refine owns_lit ?_ ?_ ?_ ?_) <;> first | (simp; done) | (simp; omega) | omega) | (with_reducible refine World.ownsRow.alloc ?_ _) | (with_reducible refine World.ownsRow.drew ?_) | (with_reducible refine owns_drewN ?_ _) | (with_reducible refine ownsRow_setCell_below ?_ ?_ _) | (simp; done) | (simp; omega) | omega))) _ 1 1 [.int .i64 p, .int .i64 q] rfl (SlR.lit _ _ _ _ _ 1 2 (by rfl) (by simp) rfl (by omega)) (by simp [Value.oneCell']) (by omega) (by omega) (by simp; omega) ?_)
        intro v2 w8 hown8 _ hb8
        obtain ⟨av2, cv2, rfl, _, _⟩ := owns_slice hown8
        have HO8 := Lib.hid (show w8.ownsRow w.heap.size 28 2 (.slice av2 (k + 1) cv2) (k + 1) (pcells (fqs x (k + 1))) by rw [HT.out]; exact hown8)
        have HB8 := Lib.hid (show Below w.heap.size w w8 from Below.trans (by have := HB5.out; (repeat' (first | (with_reducible exact Below.refl _ _) | (with_reducible assumption) | (with_reducible refine Below.drewN ?_ _) | (with_reducible refine Below.alloc ?_ ?_ _) | (with_reducible refine Below.drew ?_) | (with_reducible refine Below.setCell ?_ ?_ _) | (with_reducible refine Below.step (by assumption) ?_ ?_) | (with_reducible exact And.left (by assumption)) | go_size))) hb8)
        clear hown8 hb8
        go_wp2
        go_roundw
        case rel => exact ⟨k + 1, by go_num, by omega, ⟨av2, cv2, rfl, HO8⟩, HSN, HB8⟩
        case measure => simp [intOf]; omega
    · obtain rfl : k = n := by omega
      have HB1 := Lib.hid hB.out
      have HO1 := Lib.hid hO.out
      have HS1 := Lib.hid hS.out
      clear hB hO hS
      go_wp2
      go_ret2
      exact ⟨HB1.out, .inr ⟨fqs_good HS1.out, av, cv, rfl, SlR.of_owns HO1.out⟩⟩
end Go.Proofs.YtbjgklifmillgaaGreat
