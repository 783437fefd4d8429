import Derived.Test.YtbjgklifmillgaaMRf
import Derived.Test.YtbjgklifmillgaaMStl
import Derived.Test.YtbjgklifmillgaaSched
/- Which ladders are valid. -/
namespace Go.Proofs.Ytbjgklifmillgaa
open Go.RowKit
set_option linter.unusedVariables false

def ok3 (x : Int × Int × Int) : Bool := wi x.1 1 100 && wi x.2.1 0 100 && wi x.2.2 1 1000
def ladAll (s e t : List Int) (k : Nat) : Bool := ((s.drop k).zip ((e.drop k).zip (t.drop k))).all ok3
theorem ladAll_step (s e t : List Int) (k : Nat) (h1 : k < s.length) (h2 : k < e.length) (h3 : k < t.length) :
    ladAll s e t k = (wi (s.getD k 0) 1 100 && wi (e.getD k 0) 0 100 && wi (t.getD k 0) 1 1000 && ladAll s e t (k + 1)) := by
  unfold ladAll
  rw [drop_at s k 0 h1, drop_at e k 0 h2, drop_at t k 0 h3]
  rfl
theorem ladAll_end (s e t : List Int) : ladAll s e t s.length = true := by
  unfold ladAll; simp
/-- The error of a ladder. -/
def ladErr (s e t : List Int) : Int :=
  if 0 < s.length ∧ e.length = s.length ∧ t.length = s.length then (if s.length ≤ 6 then unl (ladAll s e t 0) 2 else 8) else 10

set_option maxRecDepth 100000 in
theorem checkLadder_ok (s e t : List Int) (a a1 a2 : Option Addr) (n c n1 c1 n2 c2 : Nat) (g : Bool) (w : World) (hs : IntsR w a n s) (he : IntsR w a1 n1 e) (ht : IntsR w a2 n2 t)
    (hn : 0 < n) (h1 : n1 = n) (h2 : n2 = n) (h6 : n ≤ 6) :
    Calls Try.prog 85 #[.agg #[.slice a n c, .slice a1 n1 c1, .slice a2 n2 c2, .bool g]] w fun e' w' => e' = .returned (.int .i64 (unl (ladAll s e t 0) 2)) ∧ Below w.heap.size w w' := by
  subst n1 n2
  obtain ⟨b0, o0, rfl, hb0, hc0⟩ := hs.addr hn
  obtain ⟨b1, o1, rfl, hb1, hc1⟩ := he.addr hn
  obtain ⟨b2, o2, rfl, hb2, hc2⟩ := ht.addr hn
  have HC := Lib.hid (And.intro hc0 (And.intro hc1 hc2))
  have HL := Lib.hid (And.intro hs.len (And.intro he.len ht.len))
  have i9 : (0 : Int) < (n : Int) := by omega
  have i8 : (n : Int) ≤ 6 := by omega
  clear hs he ht hc0 hc1 hc2
  go_enter Try.func85, Try.ntmps85
  go_wp2_with fail
  refine (unless_any _ _ _).mono ?_
  rintro e6 w6 ⟨rfl, rfl⟩
  go_wp2_with fail
  refine (unless_any _ _ _).mono ?_
  rintro e6 w6 ⟨rfl, rfl⟩
  go_wp2_with fail
  refine (first2 _ _ _ _ _ _ (by rfl) (by simp)).mono ?_
  rintro e6 w6 ⟨rfl, rfl⟩
  rw [show firstErr [unl true 10, unl true 8] = 0 from rfl]
  generalize hW : (w.alloc (Obj.cells #[Value.slice (some { block := b0, off := o0 }) n c, Value.slice (some { block := b1, off := o1 }) n c1, Value.slice (some { block := b2, off := o2 }) n c2, Value.bool g] 87)).alloc (Obj.cells #[Value.int IntKind.i64 (unl true 10), Value.int IntKind.i64 (unl true 8)] 34) = w5
  have hb5 : Below w.heap.size w w5 := by rw [← hW]; (repeat' (first | (with_reducible exact Below.refl _ _) | (with_reducible assumption) | (with_reducible refine Below.drewN ?_ _) | (with_reducible refine Below.alloc ?_ ?_ _) | (with_reducible refine Below.drew ?_) | (with_reducible refine Below.setCell ?_ ?_ _) | (with_reducible refine Below.step (by assumption) ?_ ?_) | (with_reducible exact And.left (by assumption)) | go_size))
  have q0 : w5.cell? ⟨w.heap.size, 0, none⟩ = some (.slice (some ⟨b0, o0, none⟩) n c) := by { rw [← hW]; clear hW; go_simp }
  have q1 : w5.cell? ⟨w.heap.size, 1, none⟩ = some (.slice (some ⟨b1, o1, none⟩) n c1) := by { rw [← hW]; clear hW; go_simp }
  have q2 : w5.cell? ⟨w.heap.size, 2, none⟩ = some (.slice (some ⟨b2, o2, none⟩) n c2) := by { rw [← hW]; clear hW; go_simp }
  have l0 : w.heap.size < w5.heap.size := by rw [← hW]; simp; omega
  have HB := Lib.hid hb5
  clear hW hb5
  go_wp2
  go_loop [36] (fun i => ∃ k : Nat, i = .int .i64 k ∧ k ≤ n ∧ Hid (ladAll s e t k = ladAll s e t 0)) (fun i => n - (intOf i).toNat)
  case atStart => exact ⟨0, rfl, Nat.zero_le _, rfl⟩
  case round =>
    obtain ⟨k, rfl, hk, hF⟩ := hrel
    by_cases hlt : k < n
    · have hx := HC.out.1 k hlt
      have hy := HC.out.2.1 k hlt
      have hz := HC.out.2.2 k hlt
      have hF' := hF.out
      rw [ladAll_step s e t k (by rw [HL.out.1]; exact hlt) (by rw [HL.out.2.1]; exact hlt) (by rw [HL.out.2.2]; exact hlt)] at hF'
      have HF := Lib.hid hF'; clear hF hF'
      have cx : w5.cell? ⟨b0, o0 + k, none⟩ = some (.int .i64 (s.getD k 0)) := by rw [cellB HB.out _ _ hb0]; exact hx
      have cy : w5.cell? ⟨b1, o1 + k, none⟩ = some (.int .i64 (e.getD k 0)) := by rw [cellB HB.out _ _ hb1]; exact hy
      have cz : w5.cell? ⟨b2, o2 + k, none⟩ = some (.int .i64 (t.getD k 0)) := by rw [cellB HB.out _ _ hb2]; exact hz
      clear hx hy hz
      generalize s.getD k 0 = x at cx HF
      generalize e.getD k 0 = y at cy HF
      generalize t.getD k 0 = z at cz HF
      have i0 : (0 : Int) ≤ (k : Int) := by omega
      have i1 : (k : Int) < (n : Int) := by omega
      go_wp2_with fail
      refine (within_any _ _ _ _).mono ?_
      rintro e6 w6 ⟨rfl, rfl⟩
      generalize hg1 : wi x 1 100 = g1 at HF
      clear hg1
      cases g1
      · go_wp2
        go_ret
        exact ⟨ret_int (by have := HF.out; rw [← this]; rfl), HB.out⟩
      · go_wp2_with fail
        refine (within_any _ _ _ _).mono ?_
        rintro e6 w6 ⟨rfl, rfl⟩
        generalize hg2 : wi y 0 100 = g2 at HF
        clear hg2
        cases g2
        · go_wp2
          go_ret
          exact ⟨ret_int (by have := HF.out; rw [← this]; rfl), HB.out⟩
        · go_wp2_with fail
          refine (within_any _ _ _ _).mono ?_
          rintro e6 w6 ⟨rfl, rfl⟩
          generalize hg3 : wi z 1 1000 = g3 at HF
          clear hg3
          cases g3
          · go_wp2
            go_ret
            exact ⟨ret_int (by have := HF.out; rw [← this]; rfl), HB.out⟩
          · go_wp2
            go_round
            case rel => exact ⟨k + 1, by go_num, by omega, Lib.hid (by have := HF.out; simpa using this)⟩
            case measure => simp [intOf]; omega
    · obtain rfl : k = n := by omega
      go_wp2
      go_ret
      refine ⟨ret_int ?_, HB.out⟩
      rw [← hF.out, ← HL.out.1, ladAll_end]
      rfl

set_option maxRecDepth 100000 in
theorem checkLadder_bad (a a1 a2 : Option Addr) (n c n1 c1 n2 c2 : Nat) (g : Bool) (w : World) (E : Int)
    (h : (0 < n ∧ n1 = n ∧ n2 = n ∧ 6 < n ∧ n ≤ 9223372036854775807 ∧ E = 8) ∨ (¬ (0 < n ∧ n1 = n ∧ n2 = n) ∧ n ≤ 9223372036854775807 ∧ E = 10)) (hs1 : n1 ≤ 9223372036854775807) (hs2 : n2 ≤ 9223372036854775807) :
    Calls Try.prog 85 #[.agg #[.slice a n c, .slice a1 n1 c1, .slice a2 n2 c2, .bool g]] w fun e' w' => e' = .returned (.int .i64 E) ∧ Below w.heap.size w w' := by
  rcases h with ⟨hn, rfl, rfl, h6, h9, rfl⟩ | ⟨hb, h9, rfl⟩
  · have i9 : (0 : Int) < (n2 : Int) := by omega
    have HD := Lib.hid (show decide ((n2 : Int) ≤ 6) = false by simp; omega)
    go_enter Try.func85, Try.ntmps85
    go_wp2_with fail
    refine (unless_any _ _ _).mono ?_
    rintro e6 w6 ⟨rfl, rfl⟩
    go_wp2_with fail
    refine (unless_any _ _ _).mono ?_
    rintro e6 w6 ⟨rfl, rfl⟩
    go_wp2_with fail
    refine (first2 _ _ _ _ _ _ (by rfl) (by simp)).mono ?_
    rintro e6 w6 ⟨rfl, rfl⟩
    rw [HD.out, show firstErr [unl true 10, unl false 8] = 8 from rfl]
    go_wp2
    go_ret
    exact ⟨rfl, by (repeat' (first | (with_reducible exact Below.refl _ _) | (with_reducible assumption) | (with_reducible refine Below.drewN ?_ _) | (with_reducible refine Below.alloc ?_ ?_ _) | (with_reducible refine Below.drew ?_) | (with_reducible refine Below.setCell ?_ ?_ _) | (with_reducible refine Below.step (by assumption) ?_ ?_) | (with_reducible exact And.left (by assumption)) | go_size))⟩
  · generalize hq : unl (decide ((n : Int) ≤ 6)) 8 = q
    have HQ := Lib.hid hq; clear hq
    by_cases h0 : 0 < n
    · by_cases h1 : n1 = n
      · subst n1
        have h2 : ((n2 : Int) == (n : Int)) = false := by simp; omega
        have i9 : (0 : Int) < (n : Int) := by omega
        clear hb
        go_enter Try.func85, Try.ntmps85
        go_wp2_with fail
        refine (unless_any _ _ _).mono ?_
        rintro e6 w6 ⟨rfl, rfl⟩
        go_wp2_with fail
        refine (unless_any _ _ _).mono ?_
        rintro e6 w6 ⟨rfl, rfl⟩
        rw [HQ.out]
        go_wp2_with fail
        refine (first2 _ _ _ _ _ _ (by rfl) (by simp)).mono ?_
        rintro e6 w6 ⟨rfl, rfl⟩
        rw [show firstErr [unl false 10, q] = 10 from rfl]
        go_wp2
        go_ret
        exact ⟨rfl, by (repeat' (first | (with_reducible exact Below.refl _ _) | (with_reducible assumption) | (with_reducible refine Below.drewN ?_ _) | (with_reducible refine Below.alloc ?_ ?_ _) | (with_reducible refine Below.drew ?_) | (with_reducible refine Below.setCell ?_ ?_ _) | (with_reducible refine Below.step (by assumption) ?_ ?_) | (with_reducible exact And.left (by assumption)) | go_size))⟩
      · have h1' : ((n1 : Int) == (n : Int)) = false := by simp; omega
        have i9 : (0 : Int) < (n : Int) := by omega
        clear hb h1
        go_enter Try.func85, Try.ntmps85
        go_wp2_with fail
        refine (unless_any _ _ _).mono ?_
        rintro e6 w6 ⟨rfl, rfl⟩
        go_wp2_with fail
        refine (unless_any _ _ _).mono ?_
        rintro e6 w6 ⟨rfl, rfl⟩
        rw [HQ.out]
        go_wp2_with fail
        refine (first2 _ _ _ _ _ _ (by rfl) (by simp)).mono ?_
        rintro e6 w6 ⟨rfl, rfl⟩
        rw [show firstErr [unl false 10, q] = 10 from rfl]
        go_wp2
        go_ret
        exact ⟨rfl, by (repeat' (first | (with_reducible exact Below.refl _ _) | (with_reducible assumption) | (with_reducible refine Below.drewN ?_ _) | (with_reducible refine Below.alloc ?_ ?_ _) | (with_reducible refine Below.drew ?_) | (with_reducible refine Below.setCell ?_ ?_ _) | (with_reducible refine Below.step (by assumption) ?_ ?_) | (with_reducible exact And.left (by assumption)) | go_size))⟩
    · obtain rfl : n = 0 := by omega
      clear hb h0
      obtain rfl : q = 0 := by rw [← HQ.out]; rfl
      go_enter Try.func85, Try.ntmps85
      go_wp2_with fail
      refine (unless_any _ _ _).mono ?_
      rintro e6 w6 ⟨rfl, rfl⟩
      go_wp2_with fail
      refine (unless_any _ _ _).mono ?_
      rintro e6 w6 ⟨rfl, rfl⟩
      go_wp2_with fail
      refine (first2 _ _ _ _ _ _ (by rfl) (by simp)).mono ?_
      rintro e6 w6 ⟨rfl, rfl⟩
      rw [show firstErr [unl false 10, unl true 8] = 10 from rfl]
      go_wp2
      go_ret
      exact ⟨rfl, by (repeat' (first | (with_reducible exact Below.refl _ _) | (with_reducible assumption) | (with_reducible refine Below.drewN ?_ _) | (with_reducible refine Below.alloc ?_ ?_ _) | (with_reducible refine Below.drew ?_) | (with_reducible refine Below.setCell ?_ ?_ _) | (with_reducible refine Below.step (by assumption) ?_ ?_) | (with_reducible exact And.left (by assumption)) | go_size))⟩

theorem checkLadder_any (s e t : List Int) (a a1 a2 : Option Addr) (n c n1 c1 n2 c2 : Nat) (g : Bool) (w : World) (hs : IntsR w a n s) (he : IntsR w a1 n1 e) (ht : IntsR w a2 n2 t) :
    Calls Try.prog 85 #[.agg #[.slice a n c, .slice a1 n1 c1, .slice a2 n2 c2, .bool g]] w fun e' w' => e' = .returned (.int .i64 (ladErr s e t)) ∧ Below w.heap.size w w' := by
  have l0 := hs.len
  have l1 := he.len
  have l2 := ht.len
  by_cases h : 0 < n ∧ n1 = n ∧ n2 = n
  · by_cases h6 : n ≤ 6
    · have := checkLadder_ok s e t a a1 a2 n c n1 c1 n2 c2 g w hs he ht h.1 h.2.1 h.2.2 h6
      rwa [show unl (ladAll s e t 0) 2 = ladErr s e t by unfold ladErr; rw [if_pos (by omega), if_pos (by omega)]] at this
    · exact checkLadder_bad a a1 a2 n c n1 c1 n2 c2 g w _ (.inl ⟨h.1, h.2.1, h.2.2, by omega, hs.small, by unfold ladErr; rw [if_pos (by omega), if_neg (by omega)]⟩) he.small ht.small
  · exact checkLadder_bad a a1 a2 n c n1 c1 n2 c2 g w _ (.inr ⟨h, hs.small, by unfold ladErr; rw [if_neg (by omega)]⟩) he.small ht.small
end Go.Proofs.Ytbjgklifmillgaa

/- The chain of capacitances: its small functions. -/
namespace Go.Proofs.Ytbjgklifmillgaa
open Go.RowKit
set_option linter.unusedVariables false

set_option maxRecDepth 100000 in
theorem chainOf_any (a a1 a2 : Option Addr) (n c n1 c1 n2 c2 : Nat) (g : Bool) (w : World) :
    Calls Try.prog 87 #[.agg #[.slice a n c, .slice a1 n1 c1, .slice a2 n2 c2, .bool g]] w fun e' w' => e' = .returned (.agg #[.slice a n c, .slice a1 n1 c1, .bool g]) ∧ Below w.heap.size w w' := by
  go_enter Try.func87, Try.ntmps87
  go_wp2
  refine bodyPost_ret (v := .agg #[.slice a n c, .slice a1 n1 c1, .bool g]) (by simp [results, Try.results87, go_sem]) rfl ⟨rfl, by (repeat' (first | (with_reducible exact Below.refl _ _) | (with_reducible assumption) | (with_reducible refine Below.drewN ?_ _) | (with_reducible refine Below.alloc ?_ ?_ _) | (with_reducible refine Below.drew ?_) | (with_reducible refine Below.setCell ?_ ?_ _) | (with_reducible refine Below.step (by assumption) ?_ ?_) | (with_reducible exact And.left (by assumption)) | go_size))⟩

/-- The last node whose voltage is not given. -/
def lastOf (n : Nat) (g : Bool) : Int := if g then (n : Int) - 1 else n
set_option maxRecDepth 100000 in
theorem clast_any (a a1 : Option Addr) (n c n1 c1 : Nat) (g : Bool) (w : World) (hn : n ≤ 1000) :
    Calls Try.prog 124 #[.agg #[.slice a n c, .slice a1 n1 c1, .bool g]] w fun e' w' => e' = .returned (.int .i64 (lastOf n g)) ∧ Below w.heap.size w w' := by
  cases g
  · go_enter Try.func124, Try.ntmps124
    go_wp2
    go_ret
    exact ⟨rfl, by (repeat' (first | (with_reducible exact Below.refl _ _) | (with_reducible assumption) | (with_reducible refine Below.drewN ?_ _) | (with_reducible refine Below.alloc ?_ ?_ _) | (with_reducible refine Below.drew ?_) | (with_reducible refine Below.setCell ?_ ?_ _) | (with_reducible refine Below.step (by assumption) ?_ ?_) | (with_reducible exact And.left (by assumption)) | go_size))⟩
  · go_enter Try.func124, Try.ntmps124
    go_wp2
    go_ret
    exact ⟨rfl, by (repeat' (first | (with_reducible exact Below.refl _ _) | (with_reducible assumption) | (with_reducible refine Below.drewN ?_ _) | (with_reducible refine Below.alloc ?_ ?_ _) | (with_reducible refine Below.drew ?_) | (with_reducible refine Below.setCell ?_ ?_ _) | (with_reducible refine Below.step (by assumption) ?_ ?_) | (with_reducible exact And.left (by assumption)) | go_size))⟩

/-- The sum of a node's capacitances. -/
def ownOf (s e : List Int) (k : Nat) : Int := if k + 1 < s.length then s.getD k 0 + e.getD k 0 + s.getD (k + 1) 0 else s.getD k 0 + e.getD k 0
set_option maxRecDepth 100000 in
theorem own_any (s e : List Int) (a a1 : Option Addr) (n c n1 c1 k : Nat) (g : Bool) (w : World) (hs : IntsR w a n s) (he : IntsR w a1 n1 e) (hn : n1 = n) (hn6 : n ≤ 1000) (hk : k < n)
    (bs : ∀ x ∈ s, 0 ≤ x ∧ x ≤ 1000000) (be : ∀ x ∈ e, 0 ≤ x ∧ x ≤ 1000000) :
    Calls Try.prog 125 #[.agg #[.slice a n c, .slice a1 n1 c1, .bool g], .int .i64 ((k : Int) + 1)] w fun e' w' => e' = .returned (.int .i64 (ownOf s e k)) ∧ Below w.heap.size w w' := by
  subst n1
  obtain ⟨b0, o0, rfl, hb0, hc0⟩ := hs.addr (by omega)
  obtain ⟨b1, o1, rfl, hb1, hc1⟩ := he.addr (by omega)
  have hx := hc0 k hk
  have hy := hc1 k hk
  have bx := bs _ (getD_mem (l := s) (k := k) (by rw [hs.len]; exact hk))
  have by_ := be _ (getD_mem (l := e) (k := k) (by rw [he.len]; exact hk))
  have HL := Lib.hid hs.len
  have i0 : (0 : Int) ≤ (k : Int) := by omega
  have i1 : (k : Int) < (n : Int) := by omega
  by_cases h1 : k + 1 < n
  · have hz := hc0 (k + 1) h1
    have bz := bs _ (getD_mem (l := s) (k := k + 1) (by rw [hs.len]; exact h1))
    have HO := Lib.hid (show ownOf s e k = s.getD k 0 + e.getD k 0 + s.getD (k + 1) 0 by unfold ownOf; rw [if_pos (by rw [hs.len]; exact h1)])
    have i2 : (k : Int) + 1 < (n : Int) := by omega
    clear hs he hc0 hc1 bs be
    generalize s.getD k 0 = x at hx bx HO
    generalize e.getD k 0 = y at hy by_ HO
    generalize s.getD (k + 1) 0 = z at hz bz HO
    rw [HO.out]
    go_enter Try.func125, Try.ntmps125
    go_wp2
    go_quiet (fail)
    go_wp2
    go_ret
    exact ⟨rfl, by (repeat' (first | (with_reducible exact Below.refl _ _) | (with_reducible assumption) | (with_reducible refine Below.drewN ?_ _) | (with_reducible refine Below.alloc ?_ ?_ _) | (with_reducible refine Below.drew ?_) | (with_reducible refine Below.setCell ?_ ?_ _) | (with_reducible refine Below.step (by assumption) ?_ ?_) | (with_reducible exact And.left (by assumption)) | go_size))⟩
  · have HO := Lib.hid (show ownOf s e k = s.getD k 0 + e.getD k 0 by unfold ownOf; rw [if_neg (by rw [hs.len]; exact h1)])
    have i2 : ¬ ((k : Int) + 1 < (n : Int)) := by omega
    clear hs he hc0 hc1 bs be
    generalize s.getD k 0 = x at hx bx HO
    generalize e.getD k 0 = y at hy by_ HO
    rw [HO.out]
    go_enter Try.func125, Try.ntmps125
    go_wp2
    go_quiet (fail)
    go_wp2
    go_ret
    exact ⟨rfl, by (repeat' (first | (with_reducible exact Below.refl _ _) | (with_reducible assumption) | (with_reducible refine Below.drewN ?_ _) | (with_reducible refine Below.alloc ?_ ?_ _) | (with_reducible refine Below.drew ?_) | (with_reducible refine Below.setCell ?_ ?_ _) | (with_reducible refine Below.step (by assumption) ?_ ?_) | (with_reducible exact And.left (by assumption)) | go_size))⟩
end Go.Proofs.Ytbjgklifmillgaa
