import Derived.Lib.ConvBytes
import Derived.Test.YtbjgklifmillgaaMLb
import Derived.Test.YtbjgklifmillgaaMSch
import Derived.Test.YtbjgklifmillgaaSmall
/- Which strings are names, in the program and in the reference. -/
namespace Go.Proofs.Ytbjgklifmillgaa
open Go.RowKit
set_option linter.unusedVariables false

/-- A byte of a string as a number. -/
def byt (s : ByteArray) (i : Nat) : Int := ((s.data.toList.getD i 0).toNat : Int)
theorem byt_bd (s : ByteArray) (i : Nat) : 0 ≤ byt s i ∧ byt s i ≤ 255 := by
  have := (s.data.toList.getD i 0).toNat_lt
  unfold byt; omega
theorem byt_get (s : ByteArray) (i : Nat) (h : i < s.size) : ((s[i]'h).toNat : Int) = byt s i := by
  unfold byt
  have e : s.data.toList.getD i 0 = s[i]'h := by
    have h' : i < s.data.toList.length := by simpa using h
    rw [List.getD_eq_getElem?_getD, List.getElem?_eq_getElem h', Option.getD_some]
    simp [ByteArray.getElem_eq_getElem_data]
  rw [e]
/-- A character of a name at a place. -/
def isLet (x : Int) : Bool := (decide (97 ≤ x) && decide (x ≤ 122)) || (decide (65 ≤ x) && decide (x ≤ 90))
def okCh (x : Int) (i : Nat) : Bool := isLet x || (decide (i ≠ 0) && (decide (x = 45) || (decide (48 ≤ x) && decide (x ≤ 57))))
def nmUpto (s : ByteArray) : Nat → Bool
  | 0 => true
  | k + 1 => nmUpto s k && okCh (byt s k) k
def nameOk (s : ByteArray) : Bool := nmUpto s s.size && wi s.size 1 12
theorem nm_false (s : ByteArray) : ∀ (m k : Nat), nmUpto s k = false → nmUpto s (k + m) = false
  | 0, k, h => h
  | m + 1, k, h => by
    show (nmUpto s (k + m) && _) = false
    rw [nm_false s m k h]; rfl
theorem nm_stop {s : ByteArray} {k : Nat} (hk : k < s.size) (h : okCh (byt s k) k = false) : nameOk s = false := by
  have h1 : nmUpto s (k + 1) = false := by
    show (nmUpto s k && okCh (byt s k) k) = false
    rw [h, Bool.and_false]
  have h2 := nm_false s (s.size - (k + 1)) (k + 1) h1
  rw [show k + 1 + (s.size - (k + 1)) = s.size by omega] at h2
  unfold nameOk; rw [h2]; rfl
/-- The five ranges of characters. -/
theorem ch_cases (x : Int) : (97 ≤ x ∧ x ≤ 122) ∨ (¬ 97 ≤ x ∧ 65 ≤ x ∧ x ≤ 90) ∨ (¬ 97 ≤ x ∧ ¬ 65 ≤ x) ∨ (¬ 97 ≤ x ∧ 65 ≤ x ∧ ¬ x ≤ 90) ∨ (97 ≤ x ∧ ¬ x ≤ 122 ∧ 65 ≤ x ∧ ¬ x ≤ 90) := by omega
theorem ok_let {x : Int} (k : Nat) (h : (97 ≤ x ∧ x ≤ 122) ∨ (65 ≤ x ∧ x ≤ 90)) : okCh x k = true := by
  unfold okCh isLet
  rcases h with ⟨h1, h2⟩ | ⟨h1, h2⟩ <;> simp [h1, h2]
theorem ok_zero {x : Int} (h : ¬ ((97 ≤ x ∧ x ≤ 122) ∨ (65 ≤ x ∧ x ≤ 90))) : okCh x 0 = false := by
  unfold okCh isLet
  simp only [Bool.or_eq_false_iff, Bool.and_eq_false_iff, decide_eq_false_iff_not]
  omega
theorem ok_pos {x : Int} {k : Nat} (hk : k ≠ 0) (h : x = 45 ∨ (48 ≤ x ∧ x ≤ 57)) : okCh x k = true := by
  unfold okCh
  rcases h with h | ⟨h1, h2⟩
  · simp [h, hk]
  · simp [h1, h2, hk]
theorem ok_neg {x : Int} {k : Nat} (h : ¬ ((97 ≤ x ∧ x ≤ 122) ∨ (65 ≤ x ∧ x ≤ 90))) (h1 : x ≠ 45) (h2 : ¬ (48 ≤ x ∧ x ≤ 57)) : okCh x k = false := by
  unfold okCh isLet
  simp only [Bool.or_eq_false_iff, Bool.and_eq_false_iff, decide_eq_false_iff_not]
  omega
set_option maxHeartbeats 1000000 in
set_option maxRecDepth 100000 in
theorem isName_any (s : ByteArray) (w : World) (hs : s.size ≤ maxLen) :
    Calls Try.prog 131 #[.string s] w fun e' w' => e' = .returned (.bool (nameOk s)) ∧ Below w.heap.size w w' := by
  have hsz : s.size ≤ 9223372036854775807 := by unfold maxLen at hs; omega
  have kc := fun (v : World) => Lib.run_convert_string_bytes (P := Try.prog) v 9 157 5 s Try.underlying9 Try.underlying157 Try.underlying5
  clear hs
  go_enter Try.func131, Try.ntmps131
  go_wp2
  generalize hW : Lib.bytesWorld w _ s = w5
  have hbl : Below w.heap.size w w5 := by
    rw [← hW]
    exact ⟨rfl, rfl, rfl, by rw [Lib.bytesWorld_size]; omega, fun b hb => Lib.bytesWorld_at_old w _ s b hb⟩
  have hce : ∀ j, j < s.size → w5.cell? ⟨w.heap.size, j, none⟩ = some (.int .u8 (byt s j)) := fun j hj => by
    rw [← hW]; exact Lib.bytesWorld_cell w _ s j hj
  have HB := Lib.hid hbl
  have HC := Lib.hid hce
  clear hW hbl hce kc
  go_loop [9] (fun i => ∃ k : Nat, i = .int .i64 k ∧ k ≤ s.size ∧ Hid (nmUpto s k = true)) (fun i => s.size - (intOf i).toNat)
  case atStart => exact ⟨0, rfl, Nat.zero_le _, Lib.hid rfl⟩
  case round =>
    obtain ⟨k, rfl, hk, HN⟩ := hrel
    have k0 : (0 : Int) ≤ (k : Int) := by omega
    rcases Nat.lt_or_ge k s.size with hlt | hge
    · have hc := HC.out k hlt
      have hb := byt_bd s k
      have k1 : (k : Int) < (s.size : Int) := by omega
      obtain ⟨x, hx⟩ : ∃ x, x = byt s k := ⟨_, rfl⟩
      rw [← hx] at hc hb
      have HX := Lib.hid hx
      have HWN := Lib.hid (fun v => within_any x 48 57 v)
      clear hx
      rcases ch_cases x with ⟨h1, h2⟩ | ⟨h1, h2, h3⟩ | ⟨h1, h2⟩ | ⟨h1, h2, h3⟩ | ⟨h1, h2, h3, h4⟩
      · have HOK := Lib.hid (show okCh (byt s k) k = true by rw [← HX.out]; exact ok_let k (by omega))
        go_wp2
        go_round
        case rel => exact ⟨k + 1, by go_num, by omega, Lib.hid (show nmUpto s (k + 1) = true by show (nmUpto s k && okCh (byt s k) k) = true; rw [HN.out, HOK.out]; rfl)⟩
        case measure => simp [intOf]; omega
      · have HOK := Lib.hid (show okCh (byt s k) k = true by rw [← HX.out]; exact ok_let k (by omega))
        go_wp2
        go_round
        case rel => exact ⟨k + 1, by go_num, by omega, Lib.hid (show nmUpto s (k + 1) = true by show (nmUpto s k && okCh (byt s k) k) = true; rw [HN.out, HOK.out]; rfl)⟩
        case measure => simp [intOf]; omega
      all_goals
        by_cases hk0 : k = 0
        · subst hk0
          have HOK := Lib.hid (show okCh (byt s 0) 0 = false by rw [← HX.out]; exact ok_zero (by omega))
          go_wp2
          go_ret
          exact ⟨ret_bool (nm_stop hlt (HOK.out)).symm, HB.out⟩
        · have hk1 : ((k : Int) == 0) = false := by simp; omega
          by_cases h45 : x = 45
          · have h46 : (x != 45) = false := by simpa using h45
            have H45 := Lib.hid h45
            clear h45
            go_wp2
            go_round
            case rel => exact ⟨k + 1, by go_num, by omega, Lib.hid (show nmUpto s (k + 1) = true by show (nmUpto s k && okCh (byt s k) k) = true; rw [HN.out, ok_pos hk0 (.inl (HX.out.symm.trans H45.out))]; rfl)⟩
            case measure => simp [intOf]; omega
          · have h46 : (x != 45) = true := by simpa using h45
            have H45 := Lib.hid h45
            clear h45
            cases hw : wi x 48 57
            · have HWF := Lib.hid (wi_false.1 hw)
              rw [hw] at HWN
              clear hw
              have HOK := Lib.hid (show okCh (byt s k) k = false by rw [← HX.out]; exact ok_neg (by omega) H45.out HWF.out)
              go_wp2_with fail
              refine (HWN.out _).mono ?_
              rintro e9 w9 ⟨rfl, rfl⟩
              go_wp2
              go_ret
              exact ⟨ret_bool (nm_stop hlt (HOK.out)).symm, HB.out⟩
            · have HWT := Lib.hid (wi_iff.1 hw)
              rw [hw] at HWN
              clear hw
              have HOK := Lib.hid (show okCh (byt s k) k = true by rw [← HX.out]; exact ok_pos hk0 (.inr HWT.out))
              go_wp2_with fail
              refine (HWN.out _).mono ?_
              rintro e9 w9 ⟨rfl, rfl⟩
              go_wp2
              go_round
              case rel => exact ⟨k + 1, by go_num, by omega, Lib.hid (show nmUpto s (k + 1) = true by show (nmUpto s k && okCh (byt s k) k) = true; rw [HN.out, HOK.out]; rfl)⟩
              case measure => simp [intOf]; omega
    · obtain rfl : k = s.size := by omega
      go_wp2_with fail
      refine (within_any _ _ _ _).mono ?_
      rintro e9 w9 ⟨rfl, rfl⟩
      go_wp2
      go_ret
      exact ⟨ret_bool (by unfold nameOk; rw [HN.out]; rfl), HB.out⟩
end Go.Proofs.Ytbjgklifmillgaa

/- Slices of records in memory: a list, and how one element lies in cells. No program in sight. -/
namespace Go.Proofs.Ytbjgklifmillgaa
open Go.RowKit
set_option linter.unusedVariables false

/-- The cells of a list of records; every record takes k cells. -/
def ecells {α : Type} (enc : α → List Value) (l : List α) : List Value := l.flatMap enc
section
variable {α : Type} {enc : α → List Value} {k : Nat}
theorem ecells_len (hk : ∀ x, (enc x).length = k) : ∀ l : List α, (ecells enc l).length = l.length * k
  | [] => by simp [ecells]
  | x :: r => by
    have := ecells_len hk r
    simp only [ecells, List.flatMap_cons, List.length_append, List.length_cons] at *
    rw [this, hk, Nat.succ_mul]; omega
theorem ecells_append (a b : List α) : ecells enc (a ++ b) = ecells enc a ++ ecells enc b := by simp [ecells]
theorem ecells_one (x : α) : ecells enc [x] = enc x := by simp [ecells]
theorem ecells_get (hk : ∀ x, (enc x).length = k) : ∀ {l : List α} {i : Nat} {x : α}, l[i]? = some x → ∀ j, j < k → (ecells enc l)[i * k + j]? = (enc x)[j]?
  | [], i, x, h, j, hj => by simp at h
  | y :: r, 0, x, h, j, hj => by
    simp only [List.getElem?_cons_zero, Option.some.injEq] at h
    subst h
    simp only [ecells, List.flatMap_cons, Nat.zero_mul, Nat.zero_add]
    rw [List.getElem?_append_left (by rw [hk]; exact hj)]
  | y :: r, i + 1, x, h, j, hj => by
    simp only [List.getElem?_cons_succ] at h
    have := ecells_get hk h j hj
    simp only [ecells, List.flatMap_cons] at *
    rw [List.getElem?_append_right (by rw [hk, Nat.succ_mul]; omega), hk, show (i + 1) * k + j - k = i * k + j by rw [Nat.succ_mul]; omega]
    exact this
/-- A slice of records. -/
def ER (enc : α → List Value) (k : Nat) (w : World) (a : Option Addr) (n : Nat) (l : List α) : Prop := l.length = n ∧ SlR w a n k (ecells enc l)
theorem ER.len {w : World} {a : Option Addr} {n : Nat} {l : List α} (h : ER enc k w a n l) : l.length = n := h.1
theorem ER.below {w w' : World} {a : Option Addr} {n : Nat} {l : List α} (h : ER enc k w a n l) (hb : Below w.heap.size w w') : ER enc k w' a n l := ⟨h.1, h.2.below hb⟩
theorem ER.small {w : World} {a : Option Addr} {n : Nat} {l : List α} (h : ER enc k w a n l) : n ≤ 9223372036854775807 := h.2.small
theorem ER.nil (w : World) (a : Option Addr) : ER enc k w a 0 [] := ⟨rfl, SlR.nil w a k⟩
theorem ER.of_owns {w : World} {base : Nat} {e : TypeId} {n c : Nat} {a : Option Addr} {l : List α} (hl : l.length = n) (h : w.ownsRow base e k (.slice a n c) n (ecells enc l)) : ER enc k w a n l := ⟨hl, SlR.of_owns h⟩
theorem ER.addr (hk : ∀ x, (enc x).length = k) {w : World} {a : Option Addr} {n : Nat} {l : List α} (h : ER enc k w a n l) (hn : 0 < n) :
    ∃ b o, a = some ⟨b, o, none⟩ ∧ b < w.heap.size ∧ ∀ i x, l[i]? = some x → ∀ j, j < k → w.cell? ⟨b, o + (i * k + j), none⟩ = (enc x)[j]? := by
  obtain ⟨b, o, ha, hlt, hc⟩ := h.2.2.2 hn
  refine ⟨b, o, ha, hlt, fun i x hx j hj => ?_⟩
  have h1 := ecells_get hk hx j hj
  have h2 : j < (enc x).length := by rw [hk]; exact hj
  rw [List.getElem?_eq_getElem h2] at h1 ⊢
  exact hc _ _ h1
theorem take_last {l : List α} {i : Nat} {x : α} (h : l[i]? = some x) : l.take (i + 1) = l.take i ++ [x] := by
  rw [List.take_add_one, h]; rfl
theorem get_of_lt {l : List α} {i n : Nat} (hl : l.length = n) (h : i < n) : ∃ x, l[i]? = some x := ⟨l[i]'(by omega), List.getElem?_eq_getElem (by omega)⟩
theorem ER.get {w : World} {a : Option Addr} {n : Nat} {l : List α} (h : ER enc k w a n l) {i : Nat} (hi : i < n) : ∃ x, l[i]? = some x := get_of_lt h.1 hi
theorem ecells_ones (h1 : ∀ x, ∀ u ∈ enc x, u.oneCell' = true) (l : List α) : ∀ u ∈ ecells enc l, u.oneCell' = true := fun u hu => by
  obtain ⟨x, _, hx⟩ := List.mem_flatMap.1 hu
  exact h1 x u hx
/-- An element is built, a literal of one record. -/
theorem ER.take_full {l : List α} {n : Nat} (hl : l.length = n) : l.take n = l := List.take_of_length_le (by omega)
/-- What a slice of the call's own says of every element. -/
theorem ecells_inj {enc : α → List Value} {k : Nat} (hk : ∀ x, (enc x).length = k) (hinj : ∀ x y, enc x = enc y → x = y) (hk0 : 0 < k) : ∀ {a b : List α}, ecells enc a = ecells enc b → a = b
  | [], [], _ => rfl
  | [], y :: r, h => by
    have h1 : (ecells enc ([] : List α)).length = (ecells enc (y :: r)).length := by rw [h]
    rw [ecells_len hk, ecells_len hk, List.length_cons, Nat.succ_mul] at h1
    simp at h1; omega
  | y :: r, [], h => by
    have h1 : (ecells enc (y :: r)).length = (ecells enc ([] : List α)).length := by rw [h]
    rw [ecells_len hk, ecells_len hk, List.length_cons, Nat.succ_mul] at h1
    simp at h1; omega
  | x :: a, y :: b, h => by
    simp only [ecells, List.flatMap_cons] at h
    have h1 := List.append_inj h (by rw [hk, hk])
    rw [hinj x y h1.1]
    have h2 : ecells enc a = ecells enc b := h1.2
    rw [ecells_inj hk hinj hk0 h2]
end
end Go.Proofs.Ytbjgklifmillgaa

/- The error of a creep path. -/
namespace Go.Proofs.Ytbjgklifmillgaa
open Go.RowKit
set_option linter.unusedVariables false

theorem str_eq {a b : ByteArray} : (a.toList == b.toList) = true ↔ a = b := by
  rw [beq_iff_eq, ByteArray.toList_eq, ByteArray.toList_eq]
  constructor
  · intro h
    have h2 : a.data = b.data := Array.toList_inj.1 h
    cases a; cases b; simp only at h2; rw [h2]
  · intro h; rw [h]
/-- A creep path: its name, its ends, its length, its limit. -/
structure PathV where
  nm : ByteArray
  fr : Int
  to : Int
  ln : Int
  lm : Int
def pEnc (p : PathV) : List Value := [.string p.nm, .int .i64 p.fr, .int .i64 p.to, .int .i64 p.ln, .int .i64 p.lm]
def PathsR (w : World) (a : Option Addr) (n : Nat) (l : List PathV) : Prop := ER pEnc 5 w a n l
theorem pEnc_len (p : PathV) : (pEnc p).length = 5 := rfl
theorem PathsR.below {w w' : World} {a : Option Addr} {n : Nat} {l : List PathV} (h : PathsR w a n l) (hb : Below w.heap.size w w') : PathsR w' a n l := ER.below h hb
theorem PathsR.addr {w : World} {a : Option Addr} {n : Nat} {l : List PathV} (h : PathsR w a n l) (hn : 0 < n) :
    ∃ b o, a = some ⟨b, o, none⟩ ∧ b < w.heap.size ∧ ∀ i p, l[i]? = some p → w.cell? ⟨b, o + i * 5, none⟩ = some (.string p.nm) ∧ w.cell? ⟨b, o + i * 5 + 1, none⟩ = some (.int .i64 p.fr) ∧ w.cell? ⟨b, o + i * 5 + 2, none⟩ = some (.int .i64 p.to) ∧ w.cell? ⟨b, o + i * 5 + 3, none⟩ = some (.int .i64 p.ln) ∧ w.cell? ⟨b, o + i * 5 + 4, none⟩ = some (.int .i64 p.lm) := by
  obtain ⟨b, o, ha, hb, hc⟩ := ER.addr pEnc_len h hn
  refine ⟨b, o, ha, hb, fun i p hp => ?_⟩
  have h0 := hc i p hp 0 (by omega)
  have h1 := hc i p hp 1 (by omega)
  have h2 := hc i p hp 2 (by omega)
  have h3 := hc i p hp 3 (by omega)
  have h4 := hc i p hp 4 (by omega)
  simp only [← Nat.add_assoc, Nat.add_zero] at h0 h1 h2 h3 h4
  exact ⟨h0, h1, h2, h3, h4⟩
set_option maxRecDepth 100000 in
theorem pathErr1_any (s nm : ByteArray) (f t l m : Int) (B : Nat) (w : World) (hB : B < w.heap.size) (hc : w.cell? ⟨B, 0, none⟩ = some (.string nm)) :
    Calls Try.prog 130 #[.agg #[.string s, .int .i64 f, .int .i64 t, .int .i64 l, .int .i64 m], .pointer (some ⟨B, 0, none⟩)] w fun e w' => e = .returned (.bool (s.toList == nm.toList)) ∧ Below w.heap.size w w' := by
  go_enter Try.func130, Try.ntmps130
  go_wp2
  go_ret
  exact ⟨rfl, by (repeat' (first | (with_reducible exact Below.refl _ _) | (with_reducible assumption) | (with_reducible refine Below.drewN ?_ _) | (with_reducible refine Below.alloc ?_ ?_ _) | (with_reducible refine Below.drew ?_) | (with_reducible refine Below.setCell ?_ ?_ _) | (with_reducible refine Below.step (by assumption) ?_ ?_) | (with_reducible exact And.left (by assumption)) | go_size))⟩
theorem cf_pathErr1 (args : Array Value) (w : World) : (callFunc 130 args).run Try.prog w = .ok (.enter 130 args) w := by kernel_rfl
theorem ER_take {α : Type} {enc : α → List Value} {k : Nat} {w : World} {a : Option Addr} {n : Nat} {l : List α} (hk : ∀ x, (enc x).length = k) (h : ER enc k w a n l) {i : Nat} (hi : i ≤ n) : ER enc k w a i (l.take i) := by
  refine ⟨by rw [List.length_take, h.1]; omega, by rw [ecells_len hk, List.length_take, h.1, Nat.min_eq_left hi], Nat.le_trans hi h.2.2.1, fun h0 => ?_⟩
  obtain ⟨b, o, ha, hb, hc⟩ := h.2.2.2 (by omega)
  refine ⟨b, o, ha, hb, fun j u hu => hc j u ?_⟩
  have e : ecells enc l = ecells enc (l.take i) ++ ecells enc (l.drop i) := by rw [← ecells_append, List.take_append_drop]
  rw [e, List.getElem?_append_left (by
    rcases Nat.lt_or_ge j (ecells enc (l.take i)).length with h | h
    · exact h
    · rw [List.getElem?_eq_none h] at hu; cases hu)]
  exact hu
theorem drop_cons {α : Type} {l : List α} {k : Nat} {x : α} (h : l[k]? = some x) : l.drop k = x :: l.drop (k + 1) := by
  obtain ⟨h1, h2⟩ := List.getElem?_eq_some_iff.1 h
  rw [List.drop_eq_getElem_cons h1, h2]
set_option maxHeartbeats 1000000 in
set_option maxRecDepth 100000 in
theorem indexPaths_any (B : Nat) (nm : ByteArray) (l : List PathV) (a : Option Addr) (n c : Nat) (w : World) (hl : PathsR w a n l) (hB : B < w.heap.size) (hc : w.cell? ⟨B, 0, none⟩ = some (.string nm)) :
    Calls Try.prog 156 #[.slice a n c, .func (.func 130) #[] #[.pointer (some ⟨B, 0, none⟩)]] w fun e' w' => e' = .returned (.int .i64 (idxFrom (fun p : PathV => p.nm.toList == nm.toList) l 0)) ∧ Below w.heap.size w w' := by
  have HL := Lib.hid hl
  have HCT := Lib.hid hc
  have hn := ER.small hl
  clear hl hc
  go_enter Try.func156, Try.ntmps156
  go_wp2
  go_loopw [8] (fun i wr => ∃ k : Nat, i = .int .i64 k ∧ k ≤ n ∧ Hid (idxFrom (fun p : PathV => p.nm.toList == nm.toList) (l.drop k) k = idxFrom (fun p : PathV => p.nm.toList == nm.toList) l 0) ∧ Hid (Below w.heap.size w wr)) (fun i _ => n - (intOf i).toNat)
  case atStart => exact ⟨0, rfl, Nat.zero_le _, rfl, Lib.hid (Below.refl _ _)⟩
  case round =>
    obtain ⟨k, rfl, hk, hF, hB'⟩ := hrel
    by_cases hlt : k < n
    · obtain ⟨b, o, rfl, hb, hc⟩ := HL.out.addr (by omega)
      obtain ⟨⟨s, f, t, len, lim⟩, hx⟩ := ER.get HL.out hlt
      obtain ⟨q0, q1, q2, q3, q4⟩ := hc k _ hx
      rw [← cellB hB'.out _ _ hb] at q0 q1 q2 q3 q4
      clear hc
      have hF' := hF.out
      rw [drop_cons hx, idxFrom] at hF'
      have HF := Lib.hid hF'
      clear hF' hF hx
      have i0 : (0 : Int) ≤ (k : Int) := by omega
      have hz := hB'.out.size
      go_wp2_with fail
      refine (pathErr1_any s nm f t len lim B wr (by omega) (by rw [cellB hB'.out _ _ hB]; exact HCT.out)).mono ?_
      rintro e w' ⟨rfl, hb'⟩
      have HB := Lib.hid (hB'.out.trans (hb'.mono hB'.out.size))
      clear hb' hB'
      cases hx : (s.toList == nm.toList)
      rotate_left
      · rw [if_pos hx] at HF
        clear hx
        go_wp2
        go_ret
        exact ⟨ret_int HF.out, HB.out⟩
      · rw [if_neg (by rw [hx]; decide)] at HF
        clear hx
        go_wp2
        go_roundw
        case rel => exact ⟨k + 1, by go_num, by omega, HF, HB⟩
        case measure => simp [intOf]; omega
    · have HE := Lib.hid (show (-1 : Int) = idxFrom (fun p : PathV => p.nm.toList == nm.toList) l 0 by
        rw [← hF.out, drop_end l k (by rw [ER.len HL.out]; omega)]; rfl)
      clear hF
      go_wp2
      go_ret
      exact ⟨ret_int HE.out, hB'.out⟩
theorem idxFrom_any' {α : Type} (p : α → Bool) (l : List α) (k : Nat) : decide (idxFrom p l k ≥ 0) = l.any p := idxFrom_any p l k
set_option maxRecDepth 100000 in
theorem containsPaths_any (B : Nat) (nm : ByteArray) (l : List PathV) (a : Option Addr) (n c : Nat) (w : World) (hl : PathsR w a n l) (hB : B < w.heap.size) (hc : w.cell? ⟨B, 0, none⟩ = some (.string nm)) :
    Calls Try.prog 129 #[.slice a n c, .func (.func 130) #[] #[.pointer (some ⟨B, 0, none⟩)]] w fun e' w' => e' = .returned (.bool (l.any (fun p : PathV => p.nm.toList == nm.toList))) ∧ Below w.heap.size w w' := by
  have HI := Lib.hid (indexPaths_any B nm l a n c w hl hB hc)
  clear hl hc hB
  go_enter Try.func129, Try.ntmps129
  go_wp2_with fail
  refine HI.out.mono ?_
  rintro e w' ⟨rfl, hb⟩
  go_wp2
  go_ret
  exact ⟨ret_bool (idxFrom_any _ l 0), hb⟩
/-- The error of a path after others. -/
def pthErr (p : PathV) (l : List PathV) (m : Int) : Int :=
  firstErr [unl (nameOk p.nm) 4, unl (!(l.any (fun x : PathV => x.nm.toList == p.nm.toList))) 5, unl (wi p.fr 0 (m - 1) && wi p.to 0 (m - 1)) 6, unl (p.fr != p.to) 3, unl (wi p.ln 1 10000 && wi p.lm 0 1000000) 2]
set_option maxHeartbeats 4000000 in
set_option maxRecDepth 100000 in
theorem pathErr_any (s : ByteArray) (fr to ln lm m : Int) (l : List PathV) (a : Option Addr) (n c : Nat) (w : World) (hl : PathsR w a n l) (hs : s.size ≤ maxLen) (hm0 : 0 ≤ m) (hm1 : m ≤ 1000) :
    Calls Try.prog 90 #[.agg #[.string s, .int .i64 fr, .int .i64 to, .int .i64 ln, .int .i64 lm], .slice a n c, .int .i64 m] w fun e' w' => e' = .returned (.int .i64 (pthErr ⟨s, fr, to, ln, lm⟩ l m)) ∧ Below w.heap.size w w' := by
  have HN := Lib.hid (fun w' => isName_any s w' hs)
  have HC := Lib.hid (fun (B : Nat) (w' : World) (hb : Below w.heap.size w w') (hB : B < w'.heap.size) (hc : w'.cell? ⟨B, 0, none⟩ = some (.string s)) => containsPaths_any B s l a n c w' (hl.below hb) hB hc)
  clear hl hs
  go_enter Try.func90, Try.ntmps90
  go_wp2_with fail
  refine (HC.out _ _ (by (repeat' (first | (with_reducible exact Below.refl _ _) | (with_reducible assumption) | (with_reducible refine Below.drewN ?_ _) | (with_reducible refine Below.alloc ?_ ?_ _) | (with_reducible refine Below.drew ?_) | (with_reducible refine Below.setCell ?_ ?_ _) | (with_reducible refine Below.step (by assumption) ?_ ?_) | (with_reducible exact And.left (by assumption)) | go_size))) (by simp) (by simp [go_sem])).mono ?_
  rintro e5 w5 ⟨rfl, hb5⟩
  have hz5 := hb5.size
  simp only [World.size_alloc] at hz5
  have q0 : w5.cell? ⟨w.heap.size, 0, none⟩ = some (.string s) := by { rw [cellB hb5 _ _ (by first | (simp; done) | (simp; omega) | omega)]; all_goals (first | assumption | go_simp) }; have q1 : w5.cell? ⟨w.heap.size, 1, none⟩ = some (.int .i64 fr) := by { rw [cellB hb5 _ _ (by first | (simp; done) | (simp; omega) | omega)]; all_goals (first | assumption | go_simp) }; have q2 : w5.cell? ⟨w.heap.size, 2, none⟩ = some (.int .i64 to) := by { rw [cellB hb5 _ _ (by first | (simp; done) | (simp; omega) | omega)]; all_goals (first | assumption | go_simp) }; have q3 : w5.cell? ⟨w.heap.size, 3, none⟩ = some (.int .i64 ln) := by { rw [cellB hb5 _ _ (by first | (simp; done) | (simp; omega) | omega)]; all_goals (first | assumption | go_simp) }; have q4 : w5.cell? ⟨w.heap.size, 4, none⟩ = some (.int .i64 lm) := by { rw [cellB hb5 _ _ (by first | (simp; done) | (simp; omega) | omega)]; all_goals (first | assumption | go_simp) }; have l0 : w.heap.size < w5.heap.size := by { omega }
  have HB5 := Lib.hid (show Below w.heap.size w w5 from Below.trans (by (repeat' (first | (with_reducible exact Below.refl _ _) | (with_reducible assumption) | (with_reducible refine Below.drewN ?_ _) | (with_reducible refine Below.alloc ?_ ?_ _) | (with_reducible refine Below.drew ?_) | (with_reducible refine Below.setCell ?_ ?_ _) | (with_reducible refine Below.step (by assumption) ?_ ?_) | (with_reducible exact And.left (by assumption)) | go_size))) (hb5.mono (by simp)))
  clear hb5 HC
  obtain ⟨ex, hex⟩ : ∃ ex, ex = l.any (fun x : PathV => x.nm.toList == s.toList) := ⟨_, rfl⟩
  rw [← hex]
  have HP := Lib.hid (show pthErr ⟨s, fr, to, ln, lm⟩ l m = firstErr [unl (nameOk s) 4, unl (!ex) 5, unl (wi fr 0 (m - 1) && wi to 0 (m - 1)) 6, unl (fr != to) 3, unl (wi ln 1 10000 && wi lm 0 1000000) 2] by unfold pthErr; rw [hex])
  clear hex
  obtain ⟨ok, hok⟩ : ∃ ok, ok = nameOk s := ⟨_, rfl⟩
  rw [← hok] at HN HP
  clear hok
  obtain ⟨c1, hc1⟩ : ∃ x, x = wi fr 0 (m - 1) := ⟨_, rfl⟩
  obtain ⟨c2, hc2⟩ : ∃ x, x = wi to 0 (m - 1) := ⟨_, rfl⟩
  obtain ⟨c3, hc3⟩ : ∃ x, x = wi ln 1 10000 := ⟨_, rfl⟩
  obtain ⟨c4, hc4⟩ : ∃ x, x = wi lm 0 1000000 := ⟨_, rfl⟩
  have K1 := Lib.hid (fun w' => (show Calls Try.prog 66 #[.int .i64 fr, .int .i64 0, .int .i64 (m - 1)] w' (fun e' w'' => e' = .returned (.bool c1) ∧ w' = w'') by rw [hc1]; exact within_any _ _ _ _))
  have K2 := Lib.hid (fun w' => (show Calls Try.prog 66 #[.int .i64 to, .int .i64 0, .int .i64 (m - 1)] w' (fun e' w'' => e' = .returned (.bool c2) ∧ w' = w'') by rw [hc2]; exact within_any _ _ _ _))
  have K3 := Lib.hid (fun w' => (show Calls Try.prog 66 #[.int .i64 ln, .int .i64 1, .int .i64 10000] w' (fun e' w'' => e' = .returned (.bool c3) ∧ w' = w'') by rw [hc3]; exact within_any _ _ _ _))
  have K4 := Lib.hid (fun w' => (show Calls Try.prog 66 #[.int .i64 lm, .int .i64 0, .int .i64 1000000] w' (fun e' w'' => e' = .returned (.bool c4) ∧ w' = w'') by rw [hc4]; exact within_any _ _ _ _))
  rw [← hc1, ← hc2, ← hc3, ← hc4] at HP
  clear hc1 hc2 hc3 hc4
  go_wp2_with fail
  cases c1 <;> cases c3
  · skip
    refine wp_region_laterM (B := w5.heap.size) [(true, 0), (true, 1), (true, 4), (true, 5), (true, 7), (true, 8), (true, 9), (true, 10), (true, 20), (true, 21), (true, 22), (true, 23), (true, 24), (true, 26), (true, 27), (false, 2), (false, 3), (false, 6), (false, 11), (true, 12), (true, 13), (true, 14), (true, 15), (true, 16), (false, 17), (true, 18), (false, 19), (false, 25), (false, 28), (true, 29), (true, 30), (true, 31), (false, 32), (true, 33), (false, 34), (false, 35), (false, 36), (true, 37)] (by kernel_rfl) (by kernel_rfl) ?_; simp only [opsOf, List.filterMap_cons, List.filterMap_nil, List.getElem?_toArray, List.getElem?_cons_zero, List.getElem?_cons_succ, Option.map_some]
    repeat (refine mix_head ?_; (show wpQuiet _ _ _ _ (_ :: _) _; go_big_quiet_step (fail)); refine wpQuiet_nil ?_)
    refine mix_tail ?_; go_wp2_with fail
    refine (HN.out _).mono ?_
    rintro e13 w13 ⟨rfl, hb13⟩
    have hb13 := (Below.refl w5.heap.size w5).drew.trans hb13
    have HB13 := Lib.hid hb13
    have hz13 := hb13.size
    have r0 : w13.cell? ⟨w.heap.size, 0, none⟩ = some (.string s) := by { rw [cellB hb13 _ _ (by first | (simp; done) | (simp; omega) | omega)]; all_goals (first | assumption | go_simp) }; have r1 : w13.cell? ⟨w.heap.size, 1, none⟩ = some (.int .i64 fr) := by { rw [cellB hb13 _ _ (by first | (simp; done) | (simp; omega) | omega)]; all_goals (first | assumption | go_simp) }; have r2 : w13.cell? ⟨w.heap.size, 2, none⟩ = some (.int .i64 to) := by { rw [cellB hb13 _ _ (by first | (simp; done) | (simp; omega) | omega)]; all_goals (first | assumption | go_simp) }; have r3 : w13.cell? ⟨w.heap.size, 3, none⟩ = some (.int .i64 ln) := by { rw [cellB hb13 _ _ (by first | (simp; done) | (simp; omega) | omega)]; all_goals (first | assumption | go_simp) }; have r4 : w13.cell? ⟨w.heap.size, 4, none⟩ = some (.int .i64 lm) := by { rw [cellB hb13 _ _ (by first | (simp; done) | (simp; omega) | omega)]; all_goals (first | assumption | go_simp) }; have l1 : w.heap.size < w13.heap.size := by { omega }
    clear hb13
    go_wp2_with fail
    refine tailL_mk HB13.out ?_
    refine mix_tail ?_; go_wp2_with fail
    refine (unless_any _ _ _).mono ?_
    rintro e1 w1 ⟨rfl, rfl⟩
    go_wp2_with fail
    refine tailL_mk HB13.out ?_
    refine mix_tail ?_; go_wp2_with fail
    refine (unless_any _ _ _).mono ?_
    rintro e2 w2 ⟨rfl, rfl⟩
    go_wp2_with fail
    refine tailL_mk HB13.out ?_
    refine mix_tail ?_; go_wp2_with fail
    refine (K1.out _).mono ?_
    rintro e3 w3 ⟨rfl, rfl⟩
    go_wp2_with fail
    refine tailL_mk HB13.out ?_
    repeat (refine mix_head ?_; (show wpQuiet _ _ _ _ (_ :: _) _; go_big_quiet_step (fail)); refine wpQuiet_nil ?_)
    refine mix_tail ?_; go_wp2_with fail
    refine tailL_mk HB13.out ?_
    repeat (refine mix_head ?_; (show wpQuiet _ _ _ _ (_ :: _) _; go_big_quiet_step (fail)); refine wpQuiet_nil ?_)
    refine mix_tail ?_; go_wp2_with fail
    refine (unless_any _ _ _).mono ?_
    rintro e5 v5 ⟨rfl, rfl⟩
    go_wp2_with fail
    refine tailL_mk HB13.out ?_
    refine mix_tail ?_; go_wp2_with fail
    refine (unless_any _ _ _).mono ?_
    rintro e6 v6 ⟨rfl, rfl⟩
    go_wp2_with fail
    refine tailL_mk HB13.out ?_
    refine mix_tail ?_; go_wp2_with fail
    refine (K3.out _).mono ?_
    rintro e7 w7 ⟨rfl, rfl⟩
    go_wp2_with fail
    refine tailL_mk HB13.out ?_
    repeat (refine mix_head ?_; (show wpQuiet _ _ _ _ (_ :: _) _; go_big_quiet_step (fail)); refine wpQuiet_nil ?_)
    refine mix_tail ?_; go_wp2_with fail
    refine tailL_mk HB13.out ?_
    repeat (refine mix_head ?_; (show wpQuiet _ _ _ _ (_ :: _) _; go_big_quiet_step (fail)); refine wpQuiet_nil ?_)
    refine mix_tail ?_; go_wp2_with fail
    refine (unless_any _ _ _).mono ?_
    rintro e9 v9 ⟨rfl, rfl⟩
    go_wp2_with fail
    refine tailL_mk HB13.out ?_
    refine mix_tail ?_; go_wp2_with fail
    refine tailL_mk (Below.alloc HB13.out HB13.out.size _) ?_
    refine mix_tail ?_; go_wp2_with fail
    refine (first5 _ _ _ _ _ _ _ _ _ (by rfl) (by simp)).mono ?_
    rintro eA wA ⟨rfl, hwA⟩
    have HBA := Lib.hid (show Below w5.heap.size w5 wA by rw [← hwA]; exact Below.alloc HB13.out HB13.out.size _)
    clear hwA
    go_wp2_with fail
    refine tailL_mk HBA.out ?_
    repeat (refine mix_head ?_; (show wpQuiet _ _ _ _ (_ :: _) _; go_big_quiet_step (fail)); refine wpQuiet_nil ?_)
    refine mix_nil ?_
    go_wp2_with fail
    go_ret
    exact ⟨ret_int (by rw [HP.out]; rfl), HB5.out.trans (HBA.out.mono HB5.out.size)⟩
  · skip
    refine wp_region_laterM (B := w5.heap.size) [(true, 0), (true, 1), (true, 4), (true, 5), (true, 7), (true, 8), (true, 9), (true, 10), (true, 20), (true, 21), (true, 22), (true, 23), (true, 24), (true, 26), (true, 27), (false, 2), (false, 3), (false, 6), (false, 11), (true, 12), (true, 13), (true, 14), (true, 15), (true, 16), (false, 17), (true, 18), (false, 19), (false, 25), (false, 28), (true, 29), (true, 30), (true, 31), (false, 32), (true, 33), (false, 34), (false, 35), (false, 36), (true, 37)] (by kernel_rfl) (by kernel_rfl) ?_; simp only [opsOf, List.filterMap_cons, List.filterMap_nil, List.getElem?_toArray, List.getElem?_cons_zero, List.getElem?_cons_succ, Option.map_some]
    repeat (refine mix_head ?_; (show wpQuiet _ _ _ _ (_ :: _) _; go_big_quiet_step (fail)); refine wpQuiet_nil ?_)
    refine mix_tail ?_; go_wp2_with fail
    refine (HN.out _).mono ?_
    rintro e13 w13 ⟨rfl, hb13⟩
    have hb13 := (Below.refl w5.heap.size w5).drew.trans hb13
    have HB13 := Lib.hid hb13
    have hz13 := hb13.size
    have r0 : w13.cell? ⟨w.heap.size, 0, none⟩ = some (.string s) := by { rw [cellB hb13 _ _ (by first | (simp; done) | (simp; omega) | omega)]; all_goals (first | assumption | go_simp) }; have r1 : w13.cell? ⟨w.heap.size, 1, none⟩ = some (.int .i64 fr) := by { rw [cellB hb13 _ _ (by first | (simp; done) | (simp; omega) | omega)]; all_goals (first | assumption | go_simp) }; have r2 : w13.cell? ⟨w.heap.size, 2, none⟩ = some (.int .i64 to) := by { rw [cellB hb13 _ _ (by first | (simp; done) | (simp; omega) | omega)]; all_goals (first | assumption | go_simp) }; have r3 : w13.cell? ⟨w.heap.size, 3, none⟩ = some (.int .i64 ln) := by { rw [cellB hb13 _ _ (by first | (simp; done) | (simp; omega) | omega)]; all_goals (first | assumption | go_simp) }; have r4 : w13.cell? ⟨w.heap.size, 4, none⟩ = some (.int .i64 lm) := by { rw [cellB hb13 _ _ (by first | (simp; done) | (simp; omega) | omega)]; all_goals (first | assumption | go_simp) }; have l1 : w.heap.size < w13.heap.size := by { omega }
    clear hb13
    go_wp2_with fail
    refine tailL_mk HB13.out ?_
    refine mix_tail ?_; go_wp2_with fail
    refine (unless_any _ _ _).mono ?_
    rintro e1 w1 ⟨rfl, rfl⟩
    go_wp2_with fail
    refine tailL_mk HB13.out ?_
    refine mix_tail ?_; go_wp2_with fail
    refine (unless_any _ _ _).mono ?_
    rintro e2 w2 ⟨rfl, rfl⟩
    go_wp2_with fail
    refine tailL_mk HB13.out ?_
    refine mix_tail ?_; go_wp2_with fail
    refine (K1.out _).mono ?_
    rintro e3 w3 ⟨rfl, rfl⟩
    go_wp2_with fail
    refine tailL_mk HB13.out ?_
    repeat (refine mix_head ?_; (show wpQuiet _ _ _ _ (_ :: _) _; go_big_quiet_step (fail)); refine wpQuiet_nil ?_)
    refine mix_tail ?_; go_wp2_with fail
    refine tailL_mk HB13.out ?_
    repeat (refine mix_head ?_; (show wpQuiet _ _ _ _ (_ :: _) _; go_big_quiet_step (fail)); refine wpQuiet_nil ?_)
    refine mix_tail ?_; go_wp2_with fail
    refine (unless_any _ _ _).mono ?_
    rintro e5 v5 ⟨rfl, rfl⟩
    go_wp2_with fail
    refine tailL_mk HB13.out ?_
    refine mix_tail ?_; go_wp2_with fail
    refine (unless_any _ _ _).mono ?_
    rintro e6 v6 ⟨rfl, rfl⟩
    go_wp2_with fail
    refine tailL_mk HB13.out ?_
    refine mix_tail ?_; go_wp2_with fail
    refine (K3.out _).mono ?_
    rintro e7 w7 ⟨rfl, rfl⟩
    go_wp2_with fail
    refine tailL_mk HB13.out ?_
    repeat (refine mix_head ?_; (show wpQuiet _ _ _ _ (_ :: _) _; go_big_quiet_step (fail)); refine wpQuiet_nil ?_)
    refine mix_tail ?_; go_wp2_with fail
    refine (K4.out _).mono ?_
    rintro e8 w8 ⟨rfl, rfl⟩
    go_wp2_with fail
    refine tailL_mk HB13.out ?_
    repeat (refine mix_head ?_; (show wpQuiet _ _ _ _ (_ :: _) _; go_big_quiet_step (fail)); refine wpQuiet_nil ?_)
    refine mix_tail ?_; go_wp2_with fail
    refine (unless_any _ _ _).mono ?_
    rintro e9 v9 ⟨rfl, rfl⟩
    go_wp2_with fail
    refine tailL_mk HB13.out ?_
    refine mix_tail ?_; go_wp2_with fail
    refine tailL_mk (Below.alloc HB13.out HB13.out.size _) ?_
    refine mix_tail ?_; go_wp2_with fail
    refine (first5 _ _ _ _ _ _ _ _ _ (by rfl) (by simp)).mono ?_
    rintro eA wA ⟨rfl, hwA⟩
    have HBA := Lib.hid (show Below w5.heap.size w5 wA by rw [← hwA]; exact Below.alloc HB13.out HB13.out.size _)
    clear hwA
    go_wp2_with fail
    refine tailL_mk HBA.out ?_
    repeat (refine mix_head ?_; (show wpQuiet _ _ _ _ (_ :: _) _; go_big_quiet_step (fail)); refine wpQuiet_nil ?_)
    refine mix_nil ?_
    go_wp2_with fail
    go_ret
    exact ⟨ret_int (by rw [HP.out]; rfl), HB5.out.trans (HBA.out.mono HB5.out.size)⟩
  · skip
    refine wp_region_laterM (B := w5.heap.size) [(true, 0), (true, 1), (true, 4), (true, 5), (true, 7), (true, 8), (true, 9), (true, 10), (true, 20), (true, 21), (true, 22), (true, 23), (true, 24), (true, 26), (true, 27), (false, 2), (false, 3), (false, 6), (false, 11), (true, 12), (true, 13), (true, 14), (true, 15), (true, 16), (false, 17), (true, 18), (false, 19), (false, 25), (false, 28), (true, 29), (true, 30), (true, 31), (false, 32), (true, 33), (false, 34), (false, 35), (false, 36), (true, 37)] (by kernel_rfl) (by kernel_rfl) ?_; simp only [opsOf, List.filterMap_cons, List.filterMap_nil, List.getElem?_toArray, List.getElem?_cons_zero, List.getElem?_cons_succ, Option.map_some]
    repeat (refine mix_head ?_; (show wpQuiet _ _ _ _ (_ :: _) _; go_big_quiet_step (fail)); refine wpQuiet_nil ?_)
    refine mix_tail ?_; go_wp2_with fail
    refine (HN.out _).mono ?_
    rintro e13 w13 ⟨rfl, hb13⟩
    have hb13 := (Below.refl w5.heap.size w5).drew.trans hb13
    have HB13 := Lib.hid hb13
    have hz13 := hb13.size
    have r0 : w13.cell? ⟨w.heap.size, 0, none⟩ = some (.string s) := by { rw [cellB hb13 _ _ (by first | (simp; done) | (simp; omega) | omega)]; all_goals (first | assumption | go_simp) }; have r1 : w13.cell? ⟨w.heap.size, 1, none⟩ = some (.int .i64 fr) := by { rw [cellB hb13 _ _ (by first | (simp; done) | (simp; omega) | omega)]; all_goals (first | assumption | go_simp) }; have r2 : w13.cell? ⟨w.heap.size, 2, none⟩ = some (.int .i64 to) := by { rw [cellB hb13 _ _ (by first | (simp; done) | (simp; omega) | omega)]; all_goals (first | assumption | go_simp) }; have r3 : w13.cell? ⟨w.heap.size, 3, none⟩ = some (.int .i64 ln) := by { rw [cellB hb13 _ _ (by first | (simp; done) | (simp; omega) | omega)]; all_goals (first | assumption | go_simp) }; have r4 : w13.cell? ⟨w.heap.size, 4, none⟩ = some (.int .i64 lm) := by { rw [cellB hb13 _ _ (by first | (simp; done) | (simp; omega) | omega)]; all_goals (first | assumption | go_simp) }; have l1 : w.heap.size < w13.heap.size := by { omega }
    clear hb13
    go_wp2_with fail
    refine tailL_mk HB13.out ?_
    refine mix_tail ?_; go_wp2_with fail
    refine (unless_any _ _ _).mono ?_
    rintro e1 w1 ⟨rfl, rfl⟩
    go_wp2_with fail
    refine tailL_mk HB13.out ?_
    refine mix_tail ?_; go_wp2_with fail
    refine (unless_any _ _ _).mono ?_
    rintro e2 w2 ⟨rfl, rfl⟩
    go_wp2_with fail
    refine tailL_mk HB13.out ?_
    refine mix_tail ?_; go_wp2_with fail
    refine (K1.out _).mono ?_
    rintro e3 w3 ⟨rfl, rfl⟩
    go_wp2_with fail
    refine tailL_mk HB13.out ?_
    repeat (refine mix_head ?_; (show wpQuiet _ _ _ _ (_ :: _) _; go_big_quiet_step (fail)); refine wpQuiet_nil ?_)
    refine mix_tail ?_; go_wp2_with fail
    refine (K2.out _).mono ?_
    rintro e4 w4 ⟨rfl, rfl⟩
    go_wp2_with fail
    refine tailL_mk HB13.out ?_
    repeat (refine mix_head ?_; (show wpQuiet _ _ _ _ (_ :: _) _; go_big_quiet_step (fail)); refine wpQuiet_nil ?_)
    refine mix_tail ?_; go_wp2_with fail
    refine (unless_any _ _ _).mono ?_
    rintro e5 v5 ⟨rfl, rfl⟩
    go_wp2_with fail
    refine tailL_mk HB13.out ?_
    refine mix_tail ?_; go_wp2_with fail
    refine (unless_any _ _ _).mono ?_
    rintro e6 v6 ⟨rfl, rfl⟩
    go_wp2_with fail
    refine tailL_mk HB13.out ?_
    refine mix_tail ?_; go_wp2_with fail
    refine (K3.out _).mono ?_
    rintro e7 w7 ⟨rfl, rfl⟩
    go_wp2_with fail
    refine tailL_mk HB13.out ?_
    repeat (refine mix_head ?_; (show wpQuiet _ _ _ _ (_ :: _) _; go_big_quiet_step (fail)); refine wpQuiet_nil ?_)
    refine mix_tail ?_; go_wp2_with fail
    refine tailL_mk HB13.out ?_
    repeat (refine mix_head ?_; (show wpQuiet _ _ _ _ (_ :: _) _; go_big_quiet_step (fail)); refine wpQuiet_nil ?_)
    refine mix_tail ?_; go_wp2_with fail
    refine (unless_any _ _ _).mono ?_
    rintro e9 v9 ⟨rfl, rfl⟩
    go_wp2_with fail
    refine tailL_mk HB13.out ?_
    refine mix_tail ?_; go_wp2_with fail
    refine tailL_mk (Below.alloc HB13.out HB13.out.size _) ?_
    refine mix_tail ?_; go_wp2_with fail
    refine (first5 _ _ _ _ _ _ _ _ _ (by rfl) (by simp)).mono ?_
    rintro eA wA ⟨rfl, hwA⟩
    have HBA := Lib.hid (show Below w5.heap.size w5 wA by rw [← hwA]; exact Below.alloc HB13.out HB13.out.size _)
    clear hwA
    go_wp2_with fail
    refine tailL_mk HBA.out ?_
    repeat (refine mix_head ?_; (show wpQuiet _ _ _ _ (_ :: _) _; go_big_quiet_step (fail)); refine wpQuiet_nil ?_)
    refine mix_nil ?_
    go_wp2_with fail
    go_ret
    exact ⟨ret_int (by rw [HP.out]; rfl), HB5.out.trans (HBA.out.mono HB5.out.size)⟩
  · skip
    refine wp_region_laterM (B := w5.heap.size) [(true, 0), (true, 1), (true, 4), (true, 5), (true, 7), (true, 8), (true, 9), (true, 10), (true, 20), (true, 21), (true, 22), (true, 23), (true, 24), (true, 26), (true, 27), (false, 2), (false, 3), (false, 6), (false, 11), (true, 12), (true, 13), (true, 14), (true, 15), (true, 16), (false, 17), (true, 18), (false, 19), (false, 25), (false, 28), (true, 29), (true, 30), (true, 31), (false, 32), (true, 33), (false, 34), (false, 35), (false, 36), (true, 37)] (by kernel_rfl) (by kernel_rfl) ?_; simp only [opsOf, List.filterMap_cons, List.filterMap_nil, List.getElem?_toArray, List.getElem?_cons_zero, List.getElem?_cons_succ, Option.map_some]
    repeat (refine mix_head ?_; (show wpQuiet _ _ _ _ (_ :: _) _; go_big_quiet_step (fail)); refine wpQuiet_nil ?_)
    refine mix_tail ?_; go_wp2_with fail
    refine (HN.out _).mono ?_
    rintro e13 w13 ⟨rfl, hb13⟩
    have hb13 := (Below.refl w5.heap.size w5).drew.trans hb13
    have HB13 := Lib.hid hb13
    have hz13 := hb13.size
    have r0 : w13.cell? ⟨w.heap.size, 0, none⟩ = some (.string s) := by { rw [cellB hb13 _ _ (by first | (simp; done) | (simp; omega) | omega)]; all_goals (first | assumption | go_simp) }; have r1 : w13.cell? ⟨w.heap.size, 1, none⟩ = some (.int .i64 fr) := by { rw [cellB hb13 _ _ (by first | (simp; done) | (simp; omega) | omega)]; all_goals (first | assumption | go_simp) }; have r2 : w13.cell? ⟨w.heap.size, 2, none⟩ = some (.int .i64 to) := by { rw [cellB hb13 _ _ (by first | (simp; done) | (simp; omega) | omega)]; all_goals (first | assumption | go_simp) }; have r3 : w13.cell? ⟨w.heap.size, 3, none⟩ = some (.int .i64 ln) := by { rw [cellB hb13 _ _ (by first | (simp; done) | (simp; omega) | omega)]; all_goals (first | assumption | go_simp) }; have r4 : w13.cell? ⟨w.heap.size, 4, none⟩ = some (.int .i64 lm) := by { rw [cellB hb13 _ _ (by first | (simp; done) | (simp; omega) | omega)]; all_goals (first | assumption | go_simp) }; have l1 : w.heap.size < w13.heap.size := by { omega }
    clear hb13
    go_wp2_with fail
    refine tailL_mk HB13.out ?_
    refine mix_tail ?_; go_wp2_with fail
    refine (unless_any _ _ _).mono ?_
    rintro e1 w1 ⟨rfl, rfl⟩
    go_wp2_with fail
    refine tailL_mk HB13.out ?_
    refine mix_tail ?_; go_wp2_with fail
    refine (unless_any _ _ _).mono ?_
    rintro e2 w2 ⟨rfl, rfl⟩
    go_wp2_with fail
    refine tailL_mk HB13.out ?_
    refine mix_tail ?_; go_wp2_with fail
    refine (K1.out _).mono ?_
    rintro e3 w3 ⟨rfl, rfl⟩
    go_wp2_with fail
    refine tailL_mk HB13.out ?_
    repeat (refine mix_head ?_; (show wpQuiet _ _ _ _ (_ :: _) _; go_big_quiet_step (fail)); refine wpQuiet_nil ?_)
    refine mix_tail ?_; go_wp2_with fail
    refine (K2.out _).mono ?_
    rintro e4 w4 ⟨rfl, rfl⟩
    go_wp2_with fail
    refine tailL_mk HB13.out ?_
    repeat (refine mix_head ?_; (show wpQuiet _ _ _ _ (_ :: _) _; go_big_quiet_step (fail)); refine wpQuiet_nil ?_)
    refine mix_tail ?_; go_wp2_with fail
    refine (unless_any _ _ _).mono ?_
    rintro e5 v5 ⟨rfl, rfl⟩
    go_wp2_with fail
    refine tailL_mk HB13.out ?_
    refine mix_tail ?_; go_wp2_with fail
    refine (unless_any _ _ _).mono ?_
    rintro e6 v6 ⟨rfl, rfl⟩
    go_wp2_with fail
    refine tailL_mk HB13.out ?_
    refine mix_tail ?_; go_wp2_with fail
    refine (K3.out _).mono ?_
    rintro e7 w7 ⟨rfl, rfl⟩
    go_wp2_with fail
    refine tailL_mk HB13.out ?_
    repeat (refine mix_head ?_; (show wpQuiet _ _ _ _ (_ :: _) _; go_big_quiet_step (fail)); refine wpQuiet_nil ?_)
    refine mix_tail ?_; go_wp2_with fail
    refine (K4.out _).mono ?_
    rintro e8 w8 ⟨rfl, rfl⟩
    go_wp2_with fail
    refine tailL_mk HB13.out ?_
    repeat (refine mix_head ?_; (show wpQuiet _ _ _ _ (_ :: _) _; go_big_quiet_step (fail)); refine wpQuiet_nil ?_)
    refine mix_tail ?_; go_wp2_with fail
    refine (unless_any _ _ _).mono ?_
    rintro e9 v9 ⟨rfl, rfl⟩
    go_wp2_with fail
    refine tailL_mk HB13.out ?_
    refine mix_tail ?_; go_wp2_with fail
    refine tailL_mk (Below.alloc HB13.out HB13.out.size _) ?_
    refine mix_tail ?_; go_wp2_with fail
    refine (first5 _ _ _ _ _ _ _ _ _ (by rfl) (by simp)).mono ?_
    rintro eA wA ⟨rfl, hwA⟩
    have HBA := Lib.hid (show Below w5.heap.size w5 wA by rw [← hwA]; exact Below.alloc HB13.out HB13.out.size _)
    clear hwA
    go_wp2_with fail
    refine tailL_mk HBA.out ?_
    repeat (refine mix_head ?_; (show wpQuiet _ _ _ _ (_ :: _) _; go_big_quiet_step (fail)); refine wpQuiet_nil ?_)
    refine mix_nil ?_
    go_wp2_with fail
    go_ret
    exact ⟨ret_int (by rw [HP.out]; rfl), HB5.out.trans (HBA.out.mono HB5.out.size)⟩
end Go.Proofs.Ytbjgklifmillgaa

/- The error of creep paths, in the reference. -/
namespace Go.Proofs.Ytbjgklifmillgaa
open Go.RowKit
set_option linter.unusedVariables false

/-- The first error of paths. -/
def pthsFrom (l : List PathV) (m : Int) : Nat → Nat → Int
  | _, 0 => 0
  | i, k + 1 => match l[i]? with
    | none => 0
    | some p => if pthErr p (l.take i) m = 0 then pthsFrom l m (i + 1) k else pthErr p (l.take i) m
def pthsErr (l : List PathV) (m : Int) : Int := if 12 < l.length then 8 else pthsFrom l m 0 l.length
theorem pthsFrom_step {l : List PathV} {m : Int} {i k : Nat} {p : PathV} (h : l[i]? = some p) (h0 : pthErr p (l.take i) m = 0) : pthsFrom l m i (k + 1) = pthsFrom l m (i + 1) k := by
  simp only [pthsFrom, h, if_pos h0]
theorem pthsFrom_stop {l : List PathV} {m : Int} {i k : Nat} {p : PathV} (h : l[i]? = some p) (h0 : pthErr p (l.take i) m ≠ 0) : pthsFrom l m i (k + 1) = pthErr p (l.take i) m := by
  simp only [pthsFrom, h, if_neg h0]
theorem first_five (a b c d e : Int) : firstErr [a, b, c, d, e] = if a ≠ 0 then a else if b ≠ 0 then b else if c ≠ 0 then c else if d ≠ 0 then d else e := by
  by_cases ha : a = 0
  · by_cases hb : b = 0
    · by_cases hc : c = 0
      · by_cases hd : d = 0
        · by_cases he : e = 0
          · simp [firstErr, ha, hb, hc, hd, he]
          · simp [firstErr, ha, hb, hc, hd]
            intro h; exact absurd h he
        · simp [firstErr, ha, hb, hc, hd]
      · simp [firstErr, ha, hb, hc]
    · simp [firstErr, ha, hb]
  · simp [firstErr, ha]
/-- A name is among the first ones. -/
def hasUp (l : List PathV) (nm : ByteArray) (j : Nat) : Bool := (l.take j).any (fun x : PathV => x.nm.toList == nm.toList)
theorem hasUp_succ {l : List PathV} {nm : ByteArray} {j : Nat} {p : PathV} (h : l[j]? = some p) : hasUp l nm (j + 1) = (hasUp l nm j || (p.nm.toList == nm.toList)) := by
  unfold hasUp; rw [take_last h, List.any_append]; simp
theorem hasUp_stop {l : List PathV} {nm : ByteArray} {j i : Nat} {p : PathV} (h : l[j]? = some p) (hj : j < i) (hp : (p.nm.toList == nm.toList) = true) : hasUp l nm i = true := by
  unfold hasUp
  rw [List.any_eq_true]
  refine ⟨p, ?_, hp⟩
  have hl := (List.getElem?_eq_some_iff.1 h).1
  rw [List.mem_iff_getElem?]
  exact ⟨j, by rw [List.getElem?_take, if_pos hj]; exact h⟩
theorem pth_name {p : PathV} {l : List PathV} {m : Int} (h : nameOk p.nm = false) : pthErr p l m = 4 := by
  unfold pthErr; rw [first_five, h]; simp [unl]
theorem pth_ex {p : PathV} {l : List PathV} {m : Int} (h : nameOk p.nm = true) (h2 : l.any (fun x : PathV => x.nm.toList == p.nm.toList) = true) : pthErr p l m = 5 := by
  unfold pthErr; rw [first_five, h, h2]; simp [unl]
theorem pth_miss {p : PathV} {l : List PathV} {m : Int} (h : nameOk p.nm = true) (h2 : l.any (fun x : PathV => x.nm.toList == p.nm.toList) = false) (h3 : (wi p.fr 0 (m - 1) && wi p.to 0 (m - 1)) = false) : pthErr p l m = 6 := by
  unfold pthErr; rw [first_five, h, h2, h3]; simp [unl]
theorem pth_form {p : PathV} {l : List PathV} {m : Int} (h : nameOk p.nm = true) (h2 : l.any (fun x : PathV => x.nm.toList == p.nm.toList) = false) (h3 : (wi p.fr 0 (m - 1) && wi p.to 0 (m - 1)) = true) (h4 : p.fr = p.to) : pthErr p l m = 3 := by
  unfold pthErr; rw [first_five, h, h2, h3, h4]; simp [unl]
theorem pth_last {p : PathV} {l : List PathV} {m : Int} (h : nameOk p.nm = true) (h2 : l.any (fun x : PathV => x.nm.toList == p.nm.toList) = false) (h3 : (wi p.fr 0 (m - 1) && wi p.to 0 (m - 1)) = true) (h4 : p.fr ≠ p.to) : pthErr p l m = unl (wi p.ln 1 10000 && wi p.lm 0 1000000) 2 := by
  unfold pthErr; rw [first_five, h, h2, h3]
  have : (p.fr != p.to) = true := by simpa using h4
  rw [this]; simp [unl]
theorem pths_long {l : List PathV} {m : Int} (h : 12 < l.length) : pthsErr l m = 8 := if_pos h
theorem pths_short {l : List PathV} {m : Int} (h : ¬ 12 < l.length) : pthsErr l m = pthsFrom l m 0 l.length := if_neg h
end Go.Proofs.Ytbjgklifmillgaa
