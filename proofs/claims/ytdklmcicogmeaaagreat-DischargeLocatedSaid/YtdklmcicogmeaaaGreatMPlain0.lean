import Derived.Deep.CutRange
import Derived.Test.YtdklmcicogmeaaaGreatProg
import Derived.LoopNIn
import Derived.LoopIn
import Derived.Shelf.RegionOpen
import Derived.Test.YtdklmcicogmeaaaGreatMQTail
/- Plain facts on integers and lists. No program in sight. -/
namespace Go.Proofs.YtdklmcicogmeaaaGreat

/-- The first error that is not 0. -/
def firstErr : List Int → Int
  | [] => 0
  | x :: r => if x = 0 then firstErr r else x

/-- An error unless a condition holds. -/
def unl (b : Bool) (e : Int) : Int := if b then 0 else e

/-- n is from lo to hi. -/
def wi (n lo hi : Int) : Bool := decide (lo ≤ n) && decide (n ≤ hi)
theorem wi_iff {n lo hi : Int} : wi n lo hi = true ↔ lo ≤ n ∧ n ≤ hi := by simp [wi]
theorem wi_false {n lo hi : Int} : wi n lo hi = false ↔ ¬ (lo ≤ n ∧ n ≤ hi) := by rw [← wi_iff]; simp

/-- The size of a number, the greatest common divisor, a fraction in lowest terms. -/
def sz (n : Int) : Int := max n (-n)
def gc (a b : Int) : Int := (Int.gcd a b : Nat)
theorem sz_natAbs (n : Int) : sz n = n.natAbs := by unfold sz; omega
theorem gc_zero (a : Int) : gc a 0 = sz a := by unfold gc; rw [sz_natAbs]; simp
theorem gcd_tmod (a b : Int) : Int.gcd b (a.tmod b) = Int.gcd a b := by
  simp only [Int.gcd]
  rw [Int.natAbs_tmod, Nat.gcd_comm, ← Nat.gcd_rec, Nat.gcd_comm]
theorem tmod_lt (a b : Int) (h : b ≠ 0) : (a.tmod b).natAbs < b.natAbs := by
  rw [Int.natAbs_tmod]; exact Nat.mod_lt _ (by omega)
theorem tdiv_le (a b : Int) : (a.tdiv b).natAbs ≤ a.natAbs := by
  rw [Int.natAbs_tdiv]; exact Nat.div_le_self _ _
theorem tdiv_bd (a b m : Int) (h1 : -m ≤ a) (h2 : a ≤ m) : -m ≤ a.tdiv b ∧ a.tdiv b ≤ m := by
  have := tdiv_le a b; omega

theorem gc_pos {a b : Int} (h : 0 < b) : 1 ≤ gc a b := by
  unfold gc
  have : Int.gcd a b ≠ 0 := by intro h; rw [Int.gcd_eq_zero_iff] at h; omega
  omega
theorem gc_le {a b : Int} (h : 0 < b) : gc a b ≤ b := by
  unfold gc
  have h1 : Int.gcd a b ∣ b.natAbs := Int.gcd_dvd_natAbs_right a b
  have := Nat.le_of_dvd (by omega) h1
  omega
theorem drop_at {α : Type} (l : List α) (k : Nat) (d : α) (h : k < l.length) : l.drop k = l.getD k d :: l.drop (k + 1) := by
  rw [List.drop_eq_getElem_cons h]; simp [List.getD, h]
theorem drop_end {α : Type} (l : List α) (k : Nat) (h : l.length ≤ k) : l.drop k = [] := List.drop_eq_nil_of_le h

/-- The error of a line's admittances. -/
def lineErr (l : List Int) : Int := firstErr [unl (decide (0 < l.length)) 10, unl (decide ((l.length : Int) ≤ 10)) 8, unl (!l.any (fun x => !wi x 1 20)) 2]

/-- The errors of a line and a state. -/
def stErr (y f b : List Int) : Int := firstErr [lineErr y, unl (decide (f.length = y.length) && decide (b.length = y.length)) 10, unl (!(f ++ b).any (fun x => !wi x (-1000000) 1000000)) 2]

/-- The first index, from k on, of an element that meets p; -1: there is none. -/
def idxFrom {α : Type} (p : α → Bool) : List α → Nat → Int
  | [], _ => -1
  | x :: r, k => if p x then k else idxFrom p r (k + 1)
theorem idxFrom_any {α : Type} (p : α → Bool) : ∀ (l : List α) (k : Nat), decide (0 ≤ idxFrom p l k) = l.any p
  | [], k => by simp [idxFrom]
  | x :: r, k => by
    simp only [idxFrom, List.any_cons]
    have ih := idxFrom_any p r (k + 1)
    by_cases h : p x = true
    · simp [h]
    · simp [h, ih]
theorem idxFrom_le {α : Type} (p : α → Bool) : ∀ (l : List α) (k : Nat), -1 ≤ idxFrom p l k ∧ idxFrom p l k ≤ k + l.length
  | [], k => by simp [idxFrom]
  | x :: r, k => by
    have := idxFrom_le p r (k + 1)
    simp only [idxFrom, List.length_cons]
    split <;> omega

theorem lineErr_nil {l : List Int} (h : l.length = 0) : lineErr l = 10 := by
  have : l = [] := List.eq_nil_of_length_eq_zero h
  subst this; decide
theorem lineErr_large {l : List Int} (h : 10 < l.length) : lineErr l = 8 := by
  unfold lineErr
  have h1 : decide (0 < l.length) = true := by simp; omega
  have h2 : decide ((l.length : Int) ≤ 10) = false := by simp; omega
  rw [h1, h2]; simp [firstErr, unl]
theorem lineErr_fit {l : List Int} (h0 : 0 < l.length) (h : l.length ≤ 10) : lineErr l = unl (!l.any (fun x => !wi x 1 20)) 2 := by
  unfold lineErr
  have h1 : decide (0 < l.length) = true := by simpa using h0
  have h2 : decide ((l.length : Int) ≤ 10) = true := by simp; omega
  rw [h1, h2]
  cases l.any (fun x => !wi x 1 20) <;> simp [firstErr, unl]

/-- The error of waves. -/
def wErr (l : List Int) : Int := unl (!l.any (fun x => !wi x (-1000000) 1000000)) 2
theorem stErr_line {y f b : List Int} (h : lineErr y ≠ 0) : stErr y f b = lineErr y := by unfold stErr; simp [firstErr, h]
theorem stErr_shape {y f b : List Int} (h : lineErr y = 0) (h2 : ¬ (f.length = y.length ∧ b.length = y.length)) : stErr y f b = 10 := by
  unfold stErr
  have : (decide (f.length = y.length) && decide (b.length = y.length)) = false := by simpa using h2
  rw [this, h]; simp [firstErr, unl]
theorem stErr_waves {y f b : List Int} (h : lineErr y = 0) (h1 : f.length = y.length) (h2 : b.length = y.length) : stErr y f b = if wErr f ≠ 0 then wErr f else wErr b := by
  unfold stErr wErr
  have : (decide (f.length = y.length) && decide (b.length = y.length)) = true := by simp [h1, h2]
  rw [this, h, List.any_append]
  cases f.any (fun x => !wi x (-1000000) 1000000) <;> cases b.any (fun x => !wi x (-1000000) 1000000) <;> simp [firstErr, unl]

/-- A product is bounded. -/
theorem mulb {a b : Int} (A B C : Int) (h1 : -A ≤ a) (h2 : a ≤ A) (h3 : -B ≤ b) (h4 : b ≤ B) (hC : A * B ≤ C) : -C ≤ a * b ∧ a * b ≤ C := by
  have hA : a.natAbs ≤ A.toNat := by omega
  have hB : b.natAbs ≤ B.toNat := by omega
  have hm : (a * b).natAbs ≤ A.toNat * B.toNat := by rw [Int.natAbs_mul]; exact Nat.mul_le_mul hA hB
  have e : ((A.toNat * B.toNat : Nat) : Int) = A * B := by
    rw [Int.natCast_mul, Int.toNat_of_nonneg (by omega), Int.toNat_of_nonneg (by omega)]
  omega

theorem unl_zero {b : Bool} {e : Int} (he : e ≠ 0) (h : unl b e = 0) : b = true := by
  cases b
  · simp [unl] at h; exact absurd h he
  · rfl
theorem lineErr_zero {l : List Int} (h : lineErr l = 0) : 0 < l.length ∧ l.length ≤ 10 ∧ ∀ x ∈ l, 1 ≤ x ∧ x ≤ 20 := by
  rcases Nat.eq_zero_or_pos l.length with h0 | h0
  · rw [lineErr_nil h0] at h; omega
  · rcases Nat.lt_or_ge 10 l.length with h1 | h1
    · rw [lineErr_large h1] at h; omega
    · refine ⟨h0, h1, ?_⟩
      rw [lineErr_fit h0 h1] at h
      intro x hx
      have h2 := unl_zero (by omega) h
      simp only [Bool.not_eq_true', List.any_eq_false] at h2
      have h3 := h2 x hx
      simpa [wi] using h3
theorem wErr_zero {l : List Int} (h : wErr l = 0) : ∀ x ∈ l, -1000000 ≤ x ∧ x ≤ 1000000 := by
  intro x hx
  have h2 := unl_zero (by omega) h
  simp only [Bool.not_eq_true', List.any_eq_false] at h2
  have h3 := h2 x hx
  simpa [wi] using h3
theorem stErr_zero {y f b : List Int} (h : stErr y f b = 0) : lineErr y = 0 ∧ f.length = y.length ∧ b.length = y.length ∧ (∀ x ∈ f, -1000000 ≤ x ∧ x ≤ 1000000) ∧ (∀ x ∈ b, -1000000 ≤ x ∧ x ≤ 1000000) := by
  by_cases h0 : lineErr y = 0
  · by_cases h1 : f.length = y.length ∧ b.length = y.length
    · rw [stErr_waves h0 h1.1 h1.2] at h
      have hf : wErr f = 0 := by
        by_cases hw : wErr f = 0
        · exact hw
        · rw [if_pos hw] at h; exact h
      rw [hf] at h
      simp at h
      exact ⟨h0, h1.1, h1.2, wErr_zero hf, wErr_zero h⟩
    · rw [stErr_shape h0 h1] at h; omega
  · rw [stErr_line h0] at h; exact absurd h h0
theorem getD_mem {l : List Int} {k : Nat} (h : k < l.length) : l.getD k 0 ∈ l := by
  simp [List.getD, h]

theorem mul_self_nonneg' (a : Int) : 0 ≤ a * a := by
  rcases Int.le_total 0 a with h | h
  · exact Int.mul_nonneg h h
  · exact Int.mul_nonneg_of_nonpos_of_nonpos h h

/-- The energy of the first k sections. -/
def enUpto (y f b : List Int) : Nat → Int
  | 0 => 0
  | k + 1 => enUpto y f b k + y.getD k 0 * (f.getD k 0 * f.getD k 0 + b.getD k 0 * b.getD k 0)
end Go.Proofs.YtdklmcicogmeaaaGreat

/- The iterator over all ordered pairs of different sensors. -/
namespace Go.Proofs.YtdklmcicogmeaaaGreat
open Go.RowKit Go.Shelf
set_option linter.unusedVariables false
attribute [local go_sem] Oper.semAt_some

/-- Cells from B on are kept. -/
def KeepF (B : Nat) (A A' : World) : Prop := ∀ k c t z, B ≤ k → A.heap[k]? = some (.cells c t z) → A'.heap[k]? = some (.cells c t z)
set_option maxHeartbeats 4000000 in
set_option maxRecDepth 100000 in
theorem pairs_calls (v0 v1 v2 v3 v4 v5 v6 v7 v8 : Value) (a : Option Addr) (n c lr : Nat) (J : Nat → World → Prop) (Jx : World → Prop) (W : World) (hn : n ≤ 1000)
    (hJ : ∀ k A B, J k A → Below A.heap.size A B → J k B)
    (hskip : ∀ i A, i < n → J (i * n + i) A → J (i * n + i + 1) A)
    (hY : ∀ i j A, i < n → j < n → i ≠ j → J (i * n + j) A → YieldAt Fence.wide 1 Tryz.prog lr #[.int .i64 i, .int .i64 j] A (fun e B => (e = .returned (.bool true) ∧ J (i * n + j + 1) B ∧ KeepF W.heap.size A B) ∨ (e = .returned (.bool false) ∧ Jx B)))
    (h0 : J 0 W) :
    Calls Tryz.prog 112 #[.agg #[v0, v1, v2, v3, v4, v5, v6, v7, v8, .slice a n c], .func (.yield lr) #[] #[]] W (fun e B => (∃ v, e = .returned v) ∧ (J (n * n) B ∨ Jx B)) := by
  have HJ := Lib.hid hJ
  have HY := Lib.hid hY
  have HSK := Lib.hid hskip
  clear hJ hY hskip
  go_enter Tryz.func112, Tryz.ntmps112
  go_wp2_with fail
  generalize hW : World.alloc _ _ = w8
  have hx8 : w8.heap[W.heap.size]? = some (.cells #[v0, v1, v2, v3, v4, v5, v6, v7, v8, .slice a n c] 125) := by rw [← hW]; exact heap_alloc_new _ _
  have hb8 : Below W.heap.size W w8 := by rw [← hW]; (repeat' (first | (with_reducible exact Below.refl _ _) | (with_reducible assumption) | (with_reducible refine Below.drewN ?_ _) | (with_reducible refine Below.alloc ?_ ?_ _) | (with_reducible refine Below.drew ?_) | (with_reducible refine Below.setCell ?_ ?_ _) | (with_reducible refine Below.step (by assumption) ?_ ?_) | (with_reducible exact And.left (by assumption)) | go_size))
  have hJ8 := HJ.out _ _ _ h0 hb8
  clear hW hb8 h0
  obtain ⟨XB, hXB⟩ : ∃ X, X = W.heap.size := ⟨_, rfl⟩
  rw [← hXB] at hx8 HY
  simp only [← hXB]
  clear hXB
  go_loopw [10] (fun x wr => ∃ i : Nat, x = .int .i64 i ∧ i ≤ n ∧ J (i * n) wr ∧ wr.heap[XB]? = some (.cells #[v0, v1, v2, v3, v4, v5, v6, v7, v8, .slice a n c] 125)) (fun x _ => n - (intOf x).toNat)
  case atStart => exact ⟨0, rfl, Nat.zero_le _, by rw [Nat.zero_mul]; exact hJ8, hx8⟩
  case round =>
    clear hJ8 hx8
    obtain ⟨i, rfl, hi, hJi, hx⟩ := hrel
    have i0 : (0 : Int) ≤ (i : Int) := by omega
    rcases Nat.lt_or_ge i n with hlt | hge
    · have cx := cell_of_row _ _ 9 _ _ _ hx
      simp only [List.getElem?_toArray, List.getElem?_cons_zero, List.getElem?_cons_succ] at cx
      have i1 : (i : Int) < (n : Int) := by omega
      go_wp2_with fail
      clear cx
      go_loopw [17] (fun x wr => ∃ j : Nat, x = .int .i64 j ∧ j ≤ n ∧ J (i * n + j) wr ∧ wr.heap[XB]? = some (.cells #[v0, v1, v2, v3, v4, v5, v6, v7, v8, .slice a n c] 125)) (fun x _ => n - (intOf x).toNat)
      case atStart => exact ⟨0, rfl, Nat.zero_le _, hJi, hx⟩
      case round =>
        clear hJi hx
        obtain ⟨j, rfl, hj, hJj, hx⟩ := hrel
        have j0 : (0 : Int) ≤ (j : Int) := by omega
        rcases Nat.lt_or_ge j n with hltj | hgej
        · have j1 : (j : Int) < (n : Int) := by omega
          by_cases hij : i = j
          · subst hij
            have hs := HSK.out i _ hlt hJj
            have hne : ((i : Int) != (i : Int)) = false := by simp
            go_wp2
            go_roundw
            case rel => exact ⟨i + 1, by go_num, by omega, hs, hx⟩
            case measure => simp [intOf]; omega
          · have hne : ((i : Int) != (j : Int)) = true := by simp; omega
            obtain ⟨fn, tmps, assign, body, hy, hR⟩ := HY.out i j _ hlt hltj hij hJj
            go_upto_region 7 with (fail)
            go_cut [29] from 20 to 29 (fun v29 wx => (v29 = .bool false ∧ J (i * n + j + 1) wx ∧ wx.heap[XB]? = some (.cells #[v0, v1, v2, v3, v4, v5, v6, v7, v8, .slice a n c] 125)) ∨ (v29 = .bool true ∧ Jx wx))
            case first =>
              refine (wpIn_wide (n := 2)).1 ?_
              gi_wp2
              refine hR.mono ?_
              rintro e W' (⟨rfl, hJ2, hK2⟩ | ⟨rfl, hJx⟩)
              · gi_wp2
                go_meet
                exact .inl ⟨rfl, hJ2, hK2 XB _ _ _ (Nat.le_refl _) hx⟩
              · gi_wp2
                go_meet
                exact .inr ⟨rfl, hJx⟩
            case rest =>
              rcases hcut with ⟨rfl, hJ2, hx2⟩ | ⟨rfl, hJ2⟩
              · go_wp2
                go_roundw
                case rel => exact ⟨j + 1, by go_num, by omega, hJ2, hx2⟩
                case measure => simp [intOf]; omega
              · go_wp2
                refine bodyPost_ret (results_none rfl _ _ _) rfl ?_
                exact ⟨⟨_, rfl⟩, .inr hJ2⟩
        · obtain rfl : j = n := by omega
          go_wp2
          go_roundw
          case rel => exact ⟨i + 1, by go_num, by omega, by rw [Nat.succ_mul]; exact hJj, hx⟩
          case measure => simp [intOf]; omega
    · obtain rfl : i = n := by omega
      go_wp2
      go_end0
      exact ⟨⟨_, rfl⟩, .inl hJi⟩
end Go.Proofs.YtdklmcicogmeaaaGreat
