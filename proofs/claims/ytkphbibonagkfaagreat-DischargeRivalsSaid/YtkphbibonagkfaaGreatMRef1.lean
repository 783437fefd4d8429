import Derived.Test.YtkphbibonagkfaaGreatMLib
import Derived.Test.YtkphbibonagkfaaGreatMSmall
import Derived.Test.YtkphbibonagkfaaGreatQTail
/- Small functions of the references and the laws. -/
namespace Go.Proofs.YtkphbibonagkfaaGreat
open Go.RowKit
set_option linter.unusedVariables false

set_option maxRecDepth 100000 in
theorem copyInts_any (l : List Int) (a : Option Addr) (n c : Nat) (w : World) (h : IntsR w a n l) (hn : n ≤ 100000) :
    Calls Tryz.prog 36 #[.slice a n c] w fun e' w' => ∃ a' c', e' = .returned (.slice a' n c') ∧ Below w.heap.size w w' ∧ w'.ownsRow w.heap.size 3 1 (.slice a' n c') n (icells l) := by
  have H := Lib.hid h
  clear h
  go_enter Tryz.func36, Tryz.ntmps36
  go_wp2_with (at_builtin; refine wpList_append_sl _ rfl _ _ 42 rfl w.heap.size 3 _ 1 8 Tryz.underlying42 infoInt rfl (by omega) _ _ _ rfl (World.ownsRow_made w #[] 0 (by omega) (by simp [maxLen]) rfl) a n c (icells l) rfl (H.out.below (by (repeat' (first | (with_reducible exact Below.refl _ _) | (with_reducible assumption) | (with_reducible refine Below.drewN ?_ _) | (with_reducible refine Below.alloc ?_ ?_ _) | (with_reducible refine Below.drew ?_) | (with_reducible refine Below.setCell ?_ ?_ _) | (with_reducible refine Below.step (by assumption) ?_ ?_) | (with_reducible exact And.left (by assumption)) | go_size)))) (icells_one _) (by omega) (by omega) (by simp) ?_)
  intro v2 w2 hown2 _ hb2
  try simp only [Nat.zero_add, List.nil_append] at hown2
  obtain ⟨a', c', rfl, _, _⟩ := owns_slice hown2
  have HO := Lib.hid hown2
  have HB := Lib.hid hb2
  clear hown2 hb2
  go_wp2
  go_ret
  exact ⟨a', c', rfl, Below.trans (by (repeat' (first | (with_reducible exact Below.refl _ _) | (with_reducible assumption) | (with_reducible refine Below.drewN ?_ _) | (with_reducible refine Below.alloc ?_ ?_ _) | (with_reducible refine Below.drew ?_) | (with_reducible refine Below.setCell ?_ ?_ _) | (with_reducible refine Below.step (by assumption) ?_ ?_) | (with_reducible exact And.left (by assumption)) | go_size))) HB.out, HO.out⟩

theorem drop_any {p : Int → Bool} (l : List Int) (k : Nat) (h : k < l.length) : (l.drop k).any p = (p (l.getD k 0) || (l.drop (k + 1)).any p) := by
  rw [drop_at l k 0 h]; rfl

set_option maxRecDepth 100000 in
theorem ints_any (l1 l2 : List Int) (a1 a2 : Option Addr) (n1 c1 n2 c2 : Nat) (w : World) (h1 : IntsR w a1 n1 l1) (h2 : IntsR w a2 n2 l2) :
    Calls Tryz.prog 54 #[.slice a1 n1 c1, .slice a2 n2 c2] w fun e' w' => e' = .returned (.bool (decide (l1 = l2))) ∧ ∃ m, w' = w.drewN m := by
  have H1 := Lib.hid h1
  have H2 := Lib.hid h2
  have hn1 := h1.small
  have hn2 := h2.small
  clear h1 h2
  by_cases hne : n1 = n2
  · subst hne
    have hbb : ((n1 : Int) != (n1 : Int)) = false := by simp
    go_enter Tryz.func54, Tryz.ntmps54
    go_wp2
    go_loopw [5] (fun i wr => ∃ k : Nat, i = .int .i64 k ∧ k ≤ n1 ∧ Hid (decide (l1.drop k = l2.drop k) = decide (l1 = l2)) ∧ ∃ m, wr = w.drewN m) (fun i _ => n1 - (intOf i).toNat)
    case atStart => exact ⟨0, rfl, Nat.zero_le _, rfl, 0, rfl⟩
    case round =>
      obtain ⟨k, rfl, hk, hF, m, rfl⟩ := hrel
      by_cases hlt : k < n1
      · obtain ⟨b1, o1, rfl, hb1, hc1⟩ := H1.out.addr (by omega)
        obtain ⟨b2, o2, rfl, hb2, hc2⟩ := H2.out.addr (by omega)
        have hck1 := hc1 k hlt
        have hck2 := hc2 k hlt
        clear hc1 hc2
        have hF' := hF.out
        rw [drop_at l1 k 0 (by rw [H1.out.len]; exact hlt), drop_at l2 k 0 (by rw [H2.out.len]; exact hlt)] at hF'
        obtain ⟨x, hx⟩ : ∃ x, x = l1.getD k 0 := ⟨_, rfl⟩
        obtain ⟨y, hy⟩ : ∃ y, y = l2.getD k 0 := ⟨_, rfl⟩
        rw [← hx] at hck1 hF'
        rw [← hy] at hck2 hF'
        have HF := Lib.hid hF'
        have hk0 : (0 : Int) ≤ (k : Int) := by omega
        have hk1 : (k : Int) < (n1 : Int) := by omega
        clear hx hy hF' hF
        by_cases hxy : x = y
        · subst hxy
          have hbx : (x != x) = false := by simp
          go_wp2
          go_quiet (fail)
          go_wp2
          go_roundw
          case rel => exact ⟨k + 1, by go_num, by omega, Lib.hid (by simpa using HF.out), _, rfl⟩
          case measure => simp [intOf]; omega
        · have hbx : (x != y) = true := by simpa using hxy
          go_wp2
          go_quiet (fail)
          go_wp2
          go_ret
          exact ⟨ret_bool (by rw [← HF.out]; simp [hxy]), _, World.drewN_drewN _ _ _⟩
      · go_wp2
        go_ret
        exact ⟨ret_bool (by rw [← hF.out, drop_end l1 k (by rw [H1.out.len]; omega), drop_end l2 k (by rw [H2.out.len]; omega)]; rfl), m, rfl⟩
  · have hbb : ((n1 : Int) != (n2 : Int)) = true := by simp; omega
    go_enter Tryz.func54, Tryz.ntmps54
    go_wp2
    go_ret
    refine ⟨ret_bool ?_, 0, rfl⟩
    have : ¬ l1 = l2 := by intro h; apply hne; rw [← H1.out.len, ← H2.out.len, h]
    simp [this]

theorem floor_pos (x y : Int) (w : World) (hx0 : -9000000000000000000 ≤ x) (hx1 : x ≤ 9000000000000000000) (hy : 0 < y) (hy1 : y ≤ 9000000000000000000) :
    Calls Tryz.prog 132 #[.int .i64 x, .int .i64 y] w fun e' w' => e' = .returned (.int .i64 (x / y)) ∧ w = w' := by
  have hyn : (y == 0) = false := by simp; omega
  have hq := tdiv_bd x y 9000000000000000000 (by omega) (by omega)
  by_cases h0 : 0 ≤ x
  · have e1 : 0 ≤ x / y := Int.ediv_nonneg h0 (by omega)
    have e2 : x.tdiv y = x / y := Int.tdiv_eq_ediv_of_nonneg h0
    rw [e2] at hq
    have e3 : 0 ≤ x % y := Int.emod_nonneg _ (by omega)
    clear e2
    go_enter Tryz.func132, Tryz.ntmps132
    go_wp2
    go_ret
    exact ⟨rfl, rfl⟩
  · have h0' : x < 0 := by omega
    have hE := Lib.hid (Int.tdiv_eq_ediv (a := x) (b := y))
    have hM := Lib.hid (Int.tmod_eq_emod (a := x) (b := y))
    by_cases hd : x % y = 0
    · have ht : x.tmod y = 0 := by rw [hM.out]; simp [Int.dvd_of_emod_eq_zero hd]; exact hd
      have ht' : decide (x.tmod y < 0) = false := by simp [ht]
      have HT := Lib.hid ht
      clear ht
      go_enter Tryz.func132, Tryz.ntmps132
      go_wp2
      go_ret
      exact ⟨ret_int (by rw [hE.out]; simp [Int.dvd_of_emod_eq_zero hd]), rfl⟩
    · have hnd : ¬ (0 ≤ x ∨ y ∣ x) := by
        rintro (h | h)
        · omega
        · exact hd (Int.emod_eq_zero_of_dvd h)
      have ht : x.tmod y < 0 := by
        rw [hM.out, if_neg hnd]
        have := Int.emod_lt_of_pos x hy
        omega
      have he : x.tdiv y - 1 = x / y := by
        rw [hE.out, if_neg hnd]
        have : y.sign = 1 := Int.sign_eq_one_of_pos hy
        omega
      have HE := Lib.hid he
      clear he
      go_enter Tryz.func132, Tryz.ntmps132
      go_wp2
      go_ret
      exact ⟨ret_int HE.out, rfl⟩

end Go.Proofs.YtkphbibonagkfaaGreat

/- Slices of records in memory: a list, and how one element lies in cells. No program in sight. -/
namespace Go.Proofs.YtkphbibonagkfaaGreat
open Go.RowKit
set_option linter.unusedVariables false

/-- The cells of a list of records; every record takes k cells. -/
def ecells {α : Type} (enc : α → List Value) (l : List α) : List Value := l.flatMap enc
section
variable {α : Type} {enc : α → List Value} {k : Nat}
theorem ecells_len (hk : ∀ x, (enc x).length = k) : ∀ l : List α, (ecells enc l).length = l.length * k
  | [] => by simp [ecells]
  | x :: r => by
    have := ecells_len hk r
    simp only [ecells, List.flatMap_cons, List.length_append, List.length_cons] at *
    rw [this, hk, Nat.succ_mul]; omega
theorem ecells_append (a b : List α) : ecells enc (a ++ b) = ecells enc a ++ ecells enc b := by simp [ecells]
theorem ecells_one (x : α) : ecells enc [x] = enc x := by simp [ecells]
theorem ecells_get (hk : ∀ x, (enc x).length = k) : ∀ {l : List α} {i : Nat} {x : α}, l[i]? = some x → ∀ j, j < k → (ecells enc l)[i * k + j]? = (enc x)[j]?
  | [], i, x, h, j, hj => by simp at h
  | y :: r, 0, x, h, j, hj => by
    simp only [List.getElem?_cons_zero, Option.some.injEq] at h
    subst h
    simp only [ecells, List.flatMap_cons, Nat.zero_mul, Nat.zero_add]
    rw [List.getElem?_append_left (by rw [hk]; exact hj)]
  | y :: r, i + 1, x, h, j, hj => by
    simp only [List.getElem?_cons_succ] at h
    have := ecells_get hk h j hj
    simp only [ecells, List.flatMap_cons] at *
    rw [List.getElem?_append_right (by rw [hk, Nat.succ_mul]; omega), hk, show (i + 1) * k + j - k = i * k + j by rw [Nat.succ_mul]; omega]
    exact this
/-- A slice of records. -/
def ER (enc : α → List Value) (k : Nat) (w : World) (a : Option Addr) (n : Nat) (l : List α) : Prop := l.length = n ∧ SlR w a n k (ecells enc l)
theorem ER.len {w : World} {a : Option Addr} {n : Nat} {l : List α} (h : ER enc k w a n l) : l.length = n := h.1
theorem ER.below {w w' : World} {a : Option Addr} {n : Nat} {l : List α} (h : ER enc k w a n l) (hb : Below w.heap.size w w') : ER enc k w' a n l := ⟨h.1, h.2.below hb⟩
theorem ER.small {w : World} {a : Option Addr} {n : Nat} {l : List α} (h : ER enc k w a n l) : n ≤ 9223372036854775807 := h.2.small
theorem ER.nil (w : World) (a : Option Addr) : ER enc k w a 0 [] := ⟨rfl, SlR.nil w a k⟩
theorem ER.of_owns {w : World} {base : Nat} {e : TypeId} {n c : Nat} {a : Option Addr} {l : List α} (hl : l.length = n) (h : w.ownsRow base e k (.slice a n c) n (ecells enc l)) : ER enc k w a n l := ⟨hl, SlR.of_owns h⟩
theorem ER.addr (hk : ∀ x, (enc x).length = k) {w : World} {a : Option Addr} {n : Nat} {l : List α} (h : ER enc k w a n l) (hn : 0 < n) :
    ∃ b o, a = some ⟨b, o, none⟩ ∧ b < w.heap.size ∧ ∀ i x, l[i]? = some x → ∀ j, j < k → w.cell? ⟨b, o + (i * k + j), none⟩ = (enc x)[j]? := by
  obtain ⟨b, o, ha, hlt, hc⟩ := h.2.2.2 hn
  refine ⟨b, o, ha, hlt, fun i x hx j hj => ?_⟩
  have h1 := ecells_get hk hx j hj
  have h2 : j < (enc x).length := by rw [hk]; exact hj
  rw [List.getElem?_eq_getElem h2] at h1 ⊢
  exact hc _ _ h1
theorem take_last {l : List α} {i : Nat} {x : α} (h : l[i]? = some x) : l.take (i + 1) = l.take i ++ [x] := by
  rw [List.take_add_one, h]; rfl
theorem get_of_lt {l : List α} {i n : Nat} (hl : l.length = n) (h : i < n) : ∃ x, l[i]? = some x := ⟨l[i]'(by omega), List.getElem?_eq_getElem (by omega)⟩
theorem ER.get {w : World} {a : Option Addr} {n : Nat} {l : List α} (h : ER enc k w a n l) {i : Nat} (hi : i < n) : ∃ x, l[i]? = some x := get_of_lt h.1 hi
theorem ecells_ones (h1 : ∀ x, ∀ u ∈ enc x, u.oneCell' = true) (l : List α) : ∀ u ∈ ecells enc l, u.oneCell' = true := fun u hu => by
  obtain ⟨x, _, hx⟩ := List.mem_flatMap.1 hu
  exact h1 x u hx
/-- An element is built, a literal of one record. -/
theorem ER.take_full {l : List α} {n : Nat} (hl : l.length = n) : l.take n = l := List.take_of_length_le (by omega)
/-- What a slice of the call's own says of every element. -/
theorem ecells_inj {enc : α → List Value} {k : Nat} (hk : ∀ x, (enc x).length = k) (hinj : ∀ x y, enc x = enc y → x = y) (hk0 : 0 < k) : ∀ {a b : List α}, ecells enc a = ecells enc b → a = b
  | [], [], _ => rfl
  | [], y :: r, h => by
    have h1 : (ecells enc ([] : List α)).length = (ecells enc (y :: r)).length := by rw [h]
    rw [ecells_len hk, ecells_len hk, List.length_cons, Nat.succ_mul] at h1
    simp at h1; omega
  | y :: r, [], h => by
    have h1 : (ecells enc (y :: r)).length = (ecells enc ([] : List α)).length := by rw [h]
    rw [ecells_len hk, ecells_len hk, List.length_cons, Nat.succ_mul] at h1
    simp at h1; omega
  | x :: a, y :: b, h => by
    simp only [ecells, List.flatMap_cons] at h
    have h1 := List.append_inj h (by rw [hk, hk])
    rw [hinj x y h1.1]
    have h2 : ecells enc a = ecells enc b := h1.2
    rw [ecells_inj hk hinj hk0 h2]
end
end Go.Proofs.YtkphbibonagkfaaGreat

/- Records of three integers (pulses, sections, changes), and of five (sensors), in memory. No program in sight. -/
namespace Go.Proofs.YtkphbibonagkfaaGreat
open Go.RowKit
set_option linter.unusedVariables false

structure T3 where
  x : Int
  y : Int
  z : Int
  deriving DecidableEq
def e3 (p : T3) : List Value := [.int .i64 p.x, .int .i64 p.y, .int .i64 p.z]
theorem e3_len (p : T3) : (e3 p).length = 3 := rfl
theorem e3_one (p : T3) : ∀ u ∈ e3 p, u.oneCell' = true := fun u hu => by
  simp only [e3, List.mem_cons, List.not_mem_nil, or_false] at hu
  rcases hu with rfl | rfl | rfl <;> rfl
def T3R (w : World) (a : Option Addr) (n : Nat) (l : List T3) : Prop := ER e3 3 w a n l
theorem T3R.below {w w' : World} {a : Option Addr} {n : Nat} {l : List T3} (h : T3R w a n l) (hb : Below w.heap.size w w') : T3R w' a n l := ER.below h hb
theorem T3R.len {w : World} {a : Option Addr} {n : Nat} {l : List T3} (h : T3R w a n l) : l.length = n := h.1
theorem T3R.small {w : World} {a : Option Addr} {n : Nat} {l : List T3} (h : T3R w a n l) : n ≤ 9223372036854775807 := ER.small h
theorem T3R.addr {w : World} {a : Option Addr} {n : Nat} {l : List T3} (h : T3R w a n l) (hn : 0 < n) :
    ∃ b o, a = some ⟨b, o, none⟩ ∧ b < w.heap.size ∧ ∀ i p, l[i]? = some p → w.cell? ⟨b, o + i * 3, none⟩ = some (.int .i64 p.x) ∧ w.cell? ⟨b, o + i * 3 + 1, none⟩ = some (.int .i64 p.y) ∧ w.cell? ⟨b, o + i * 3 + 2, none⟩ = some (.int .i64 p.z) := by
  obtain ⟨b, o, ha, hb, hc⟩ := ER.addr e3_len h hn
  refine ⟨b, o, ha, hb, fun i p hp => ?_⟩
  have h0 := hc i p hp 0 (by omega)
  have h1 := hc i p hp 1 (by omega)
  have h2 := hc i p hp 2 (by omega)
  simp only [← Nat.add_assoc, Nat.add_zero] at h0 h1 h2
  exact ⟨h0, h1, h2⟩
theorem e3_inj (p q : T3) (h : e3 p = e3 q) : p = q := by
  obtain ⟨a, b, c⟩ := p
  obtain ⟨d, e, f⟩ := q
  simp [e3] at h
  obtain ⟨rfl, rfl, rfl⟩ := h
  rfl
/-- A sensor: its position, the range of its times. -/
structure Sen where
  x : Int
  y : Int
  z : Int
  lo : Int
  hi : Int
  deriving DecidableEq
def e5 (p : Sen) : List Value := [.int .i64 p.x, .int .i64 p.y, .int .i64 p.z, .int .i64 p.lo, .int .i64 p.hi]
theorem e5_len (p : Sen) : (e5 p).length = 5 := rfl
theorem e5_one (p : Sen) : ∀ u ∈ e5 p, u.oneCell' = true := fun u hu => by
  simp only [e5, List.mem_cons, List.not_mem_nil, or_false] at hu
  rcases hu with rfl | rfl | rfl | rfl | rfl <;> rfl
def SenR (w : World) (a : Option Addr) (n : Nat) (l : List Sen) : Prop := ER e5 5 w a n l
theorem SenR.below {w w' : World} {a : Option Addr} {n : Nat} {l : List Sen} (h : SenR w a n l) (hb : Below w.heap.size w w') : SenR w' a n l := ER.below h hb
theorem SenR.len {w : World} {a : Option Addr} {n : Nat} {l : List Sen} (h : SenR w a n l) : l.length = n := h.1
theorem SenR.small {w : World} {a : Option Addr} {n : Nat} {l : List Sen} (h : SenR w a n l) : n ≤ 9223372036854775807 := ER.small h
theorem SenR.addr {w : World} {a : Option Addr} {n : Nat} {l : List Sen} (h : SenR w a n l) (hn : 0 < n) :
    ∃ b o, a = some ⟨b, o, none⟩ ∧ b < w.heap.size ∧ ∀ i p, l[i]? = some p → w.cell? ⟨b, o + i * 5, none⟩ = some (.int .i64 p.x) ∧ w.cell? ⟨b, o + i * 5 + 1, none⟩ = some (.int .i64 p.y) ∧ w.cell? ⟨b, o + i * 5 + 2, none⟩ = some (.int .i64 p.z) ∧ w.cell? ⟨b, o + i * 5 + 3, none⟩ = some (.int .i64 p.lo) ∧ w.cell? ⟨b, o + i * 5 + 4, none⟩ = some (.int .i64 p.hi) := by
  obtain ⟨b, o, ha, hb, hc⟩ := ER.addr e5_len h hn
  refine ⟨b, o, ha, hb, fun i p hp => ?_⟩
  have h0 := hc i p hp 0 (by omega)
  have h1 := hc i p hp 1 (by omega)
  have h2 := hc i p hp 2 (by omega)
  have h3 := hc i p hp 3 (by omega)
  have h4 := hc i p hp 4 (by omega)
  simp only [← Nat.add_assoc, Nat.add_zero] at h0 h1 h2 h3 h4
  exact ⟨h0, h1, h2, h3, h4⟩
theorem e5_inj (p q : Sen) (h : e5 p = e5 q) : p = q := by
  obtain ⟨a, b, c, d, e⟩ := p
  obtain ⟨a', b', c', d', e'⟩ := q
  simp [e5] at h
  obtain ⟨rfl, rfl, rfl, rfl, rfl⟩ := h
  rfl
/-- A literal block of records. -/
theorem ER.lit {α : Type} {enc : α → List Value} {k : Nat} (hk : ∀ x, (enc x).length = k) (w0 w : World) (l : List α) (cs : List Value) (t B n : Nat) (hw : w.heap = (w0.alloc (.cells cs.toArray t)).heap) (hB : B = w0.heap.size) (hcs : cs = ecells enc l) (hl : l.length = n) (hn : n ≤ 1000) : ER enc k w (some ⟨B, 0, none⟩) n l :=
  ⟨hl, hcs ▸ SlR.lit w0 w cs t B n k hw hB (by rw [hcs, ecells_len hk, hl]) hn⟩
theorem drop_cons' {α : Type} {l : List α} {k : Nat} {x : α} (h : l[k]? = some x) : l.drop k = x :: l.drop (k + 1) := by
  obtain ⟨h1, h2⟩ := List.getElem?_eq_some_iff.1 h
  rw [List.drop_eq_getElem_cons h1, h2]
end Go.Proofs.YtkphbibonagkfaaGreat
