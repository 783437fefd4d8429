import Derived.WalkKit
import Derived.WalkLawsBesides
import Derived.WalkSpells
import Derived.Handy
import Derived.Lib.Hide
import Derived.Deep.QuietTactic
import Derived.BigQuiet
import Derived.StillTailTactics
import Derived.Deep.RegionHeld3
import Derived.Lib.AppendZerosOnto
import Derived.Laws.AppendOwnNone
/- Words and lemmas about worlds and slices that the walks of this seat use. No program in sight. -/
namespace Go.Proofs.Ytbjgklifmillgaa
open Go.RowKit

/-- A slice value's address 'a' leads to 'n' elements of 'sz' cells each, which hold 'xs'. -/
def SlR (w : World) (a : Option Addr) (n sz : Nat) (xs : List Value) : Prop :=
  xs.length = n * sz ∧ n ≤ maxLen ∧ (0 < n → ∃ b o, a = some ⟨b, o, none⟩ ∧ b < w.heap.size ∧ ∀ i u, xs[i]? = some u → w.cell? ⟨b, o + i, none⟩ = some u)

theorem SlR.len {w : World} {a : Option Addr} {n sz : Nat} {xs : List Value} (h : SlR w a n sz xs) : xs.length = n * sz := h.1
theorem SlR.small {w : World} {a : Option Addr} {n sz : Nat} {xs : List Value} (h : SlR w a n sz xs) : n ≤ 9223372036854775807 := by
  have := h.2.1; unfold maxLen at this; omega
theorem SlR.addr {w : World} {a : Option Addr} {n sz : Nat} {xs : List Value} (h : SlR w a n sz xs) (hn : 0 < n) :
    ∃ b o, a = some ⟨b, o, none⟩ ∧ b < w.heap.size ∧ ∀ i u, xs[i]? = some u → w.cell? ⟨b, o + i, none⟩ = some u := h.2.2 hn

/-- What holds of a slice holds in every later world that keeps the old blocks. -/
theorem SlR.below {w w' : World} {a : Option Addr} {n sz : Nat} {xs : List Value} (h : SlR w a n sz xs) (hb : Below w.heap.size w w') : SlR w' a n sz xs := by
  refine ⟨h.1, h.2.1, fun hn => ?_⟩
  obtain ⟨b, o, ha, hlt, hc⟩ := h.2.2 hn
  refine ⟨b, o, ha, Nat.lt_of_lt_of_le hlt hb.size, fun i u hu => ?_⟩
  rw [hb.cell (p := ⟨b, o + i, none⟩) hlt]
  exact hc i u hu

theorem SlR.nil (w : World) (a : Option Addr) (sz : Nat) : SlR w a 0 sz [] := ⟨by simp, by simp [maxLen], fun h => absurd h (by omega)⟩

/-- What the call owns is a slice that reads so. -/
theorem SlR.of_owns {w : World} {base : Nat} {e : TypeId} {sz n c : Nat} {a : Option Addr} {xs : List Value} (h : w.ownsRow base e sz (.slice a n c) n xs) : SlR w a n sz xs := by
  refine ⟨h.1, ?_, fun hn => ?_⟩
  · rcases h.2 with ⟨_, h0⟩ | ⟨g, cap, cur, _, _, _, h1, h2, _⟩
    · subst h0; simp [maxLen]
    · exact Nat.le_trans h1 h2
  · rcases h.2 with ⟨_, h0⟩ | ⟨g, cap, cur, hv, _, hg, _⟩
    · omega
    · simp only [Value.slice.injEq] at hv
      obtain ⟨rfl, _, rfl⟩ := hv
      refine ⟨g, 0, rfl, (Array.getElem?_eq_some_iff.1 hg).1, fun i u hu => ?_⟩
      have := h.cells (g := g) (by simp [Value.ownBlock]) i u hu
      rwa [Addr.add_lit] at this

/-- Every owned value is a slice of that length. -/
theorem owns_slice {w : World} {base : Nat} {e : TypeId} {sz n : Nat} {v : Value} {xs : List Value} (h : w.ownsRow base e sz v n xs) : ∃ a c, v = .slice a n c ∧ n ≤ c ∧ c ≤ maxLen := by
  rcases h.2 with ⟨hv, h0⟩ | ⟨g, cap, cur, hv, _, _, h1, h2, _⟩
  · subst h0; exact ⟨_, _, hv, Nat.le_refl _, by simp [maxLen]⟩
  · exact ⟨_, _, hv, h1, h2⟩

/-- A list of integers as cells. -/
def icells (l : List Int) : List Value := l.map (Value.int .i64)
theorem icells_length (l : List Int) : (icells l).length = l.length := by simp [icells]
theorem icells_get {l : List Int} {i : Nat} (h : i < l.length) : (icells l)[i]? = some (.int .i64 (l.getD i 0)) := by
  simp [icells, List.getD, h]
theorem icells_append (a b : List Int) : icells (a ++ b) = icells a ++ icells b := by simp [icells]
theorem icells_inj {a b : List Int} (h : icells a = icells b) : a = b := by
  unfold icells at h
  exact List.map_inj_right (fun x y h => by simpa using h) |>.1 h

/-- A slice of integers. -/
def IntsR (w : World) (a : Option Addr) (n : Nat) (l : List Int) : Prop := SlR w a n 1 (icells l)
theorem IntsR.len {w : World} {a : Option Addr} {n : Nat} {l : List Int} (h : IntsR w a n l) : l.length = n := by
  have := h.1; rw [icells_length] at this; omega
theorem IntsR.below {w w' : World} {a : Option Addr} {n : Nat} {l : List Int} (h : IntsR w a n l) (hb : Below w.heap.size w w') : IntsR w' a n l := SlR.below h hb
theorem IntsR.small {w : World} {a : Option Addr} {n : Nat} {l : List Int} (h : IntsR w a n l) : n ≤ 9223372036854775807 := SlR.small h
theorem IntsR.addr {w : World} {a : Option Addr} {n : Nat} {l : List Int} (h : IntsR w a n l) (hn : 0 < n) :
    ∃ b o, a = some ⟨b, o, none⟩ ∧ b < w.heap.size ∧ ∀ i, i < n → w.cell? ⟨b, o + i, none⟩ = some (.int .i64 (l.getD i 0)) := by
  obtain ⟨b, o, ha, hlt, hc⟩ := h.2.2 hn
  exact ⟨b, o, ha, hlt, fun i hi => hc i _ (icells_get (by rw [h.len]; exact hi))⟩
theorem IntsR.nil (w : World) (a : Option Addr) : IntsR w a 0 [] := SlR.nil w a 1

/-- A literal block read as a slice. -/
theorem SlR.lit (w0 w : World) (cs : List Value) (t B n sz : Nat) (hw : w.heap = (w0.alloc (.cells cs.toArray t)).heap) (hB : B = w0.heap.size) (hl : cs.length = n * sz) (hn : n ≤ 1000) : SlR w (some ⟨B, 0, none⟩) n sz cs := by
  refine ⟨hl, by unfold maxLen; omega, fun _ => ⟨B, 0, rfl, ?_, fun i u hu => ?_⟩⟩
  · rw [hw]; subst hB; simp
  · subst hB
    have h : w.heap[w0.heap.size]? = some (.cells cs.toArray t) := by rw [hw]; exact heap_alloc_new w0 _
    rw [cell_of_row _ _ _ _ _ _ h]; simpa using hu

/-- Rows below B stay owned. -/
theorem owns_below {w w' : World} {base B : Nat} {e : TypeId} {sz n : Nat} {v : Value} {xs : List Value} (h : w.ownsRow base e sz v n xs) (hb : Below B w w') (hB : ∀ k, v.ownBlock = some k → k < B) : w'.ownsRow base e sz v n xs := by
  refine ⟨h.1, ?_⟩
  rcases h.2 with hn | ⟨g, cap, cur, rfl, hbase, hgg, rest⟩
  · exact .inl hn
  · refine .inr ⟨g, cap, cur, rfl, hbase, ?_, rest⟩
    rw [hb.block g (hB g rfl)]
    exact hgg
theorem owns_mono {w : World} {base base' : Nat} {e : TypeId} {sz n : Nat} {v : Value} {xs : List Value} (h : w.ownsRow base e sz v n xs) (hb : base' ≤ base) : w.ownsRow base' e sz v n xs := by
  refine ⟨h.1, ?_⟩
  rcases h.2 with hn | ⟨g, cap, cur, rfl, hbase, r⟩
  · exact .inl hn
  · exact .inr ⟨g, cap, cur, rfl, Nat.le_trans hb hbase, r⟩

theorem owns_lit {w0 : World} {base B n sz : Nat} {e : TypeId} {cs : Array Value} (hB : B = w0.heap.size) (hb : base ≤ B) (hn : n ≤ 1000000) (hl : cs.size = n * sz) : (w0.alloc (.cells cs e)).ownsRow base e sz (.slice (some ⟨B, 0, none⟩) n n) n cs.toList := by
  subst hB; exact World.ownsRow_lit w0 cs n hb (by unfold maxLen; omega) hl
theorem owns_drewN {w : World} {base n sz : Nat} {e : TypeId} {v : Value} {xs : List Value} (h : w.ownsRow base e sz v n xs) (m : Nat) : (w.drewN m).ownsRow base e sz v n xs := h

theorem run_append_zero {P : Program} (w : World) (base : Nat) (t ty e : TypeId) (i : TypeInfo) (size : Nat) (ht : P.underlying t = some (.slice e)) (hi : P.info? e = some i)
    (v : Value) (n : Nat) (xs : List Value) (hown : w.ownsRow base e size v n xs) (ao : Option Addr) (c : Nat) :
    (Builtin.append_ #[t, t] ty #[v, .slice ao 0 c]).run P w = .ok v w := by
  rcases hown.2 with ⟨rfl, rfl⟩ | ⟨g, cap, cur, rfl, _, _, hnc, _⟩
  · cases ao <;> simp [Builtin.append_, run_underlying ht, sizeOf, typeInfo, hi, Builtin.lenOf, Builtin.firstCells, loadCells, loadCellsFrom]
  · cases ao <;> simp [Builtin.append_, run_underlying ht, sizeOf, typeInfo, hi, Builtin.lenOf, Builtin.firstCells, loadCells, loadCellsFrom, hnc, storeCells]

/-- 'append(out, xs...)': out the call's own, xs any slice that can be read. -/
theorem wpList_append_sl {P : Program} (w : World) {ops : Array Oper} {rest : List Oper} {o : Oper} {a : Act} {Q : Exit → Act → World → Prop} (hgd : o.guard = none) (s x : Operand) (t : TypeId)
    (ho : o.op = .call { callee := .builtin .append, args := #[s, x], argTypes := #[t, t] })
    (base : Nat) (e : TypeId) (z : Value) (size bytes : Nat) (ht : P.underlying t = some (.slice e)) (hi : (P.info? e).map (fun i => (i.zero, i.size, i.bytes)) = some (some z, size, bytes))
    (hzs : z.cells.size = size) (hsz : 0 < size)
    (v : Value) (n : Nat) (xs : List Value) (hs : a.eval s = v) (hown : w.ownsRow base e size v n xs)
    (ao : Option Addr) (m c : Nat) (news : List Value) (hx : a.eval x = .slice ao m c) (hsrc : SlR w ao m size news) (h1 : ∀ u ∈ news, u.oneCell' = true)
    (hnm : n + m ≤ 1000000) (hbytes : bytes ≤ 1000) (hbase : base ≤ w.heap.size)
    (h : ∀ v' w', w'.ownsRow base e size v' (n + m) (xs ++ news) → w.grownBy w' v.ownBlock → Below base w w' → wpList P ops Q rest (a.put o.dst v') w') : wpList P ops Q (o :: rest) a w := by
  obtain ⟨i, hi1, hi2, hi3, hi4⟩ := info_parts hi
  by_cases hm : m = 0
  · subst hm
    have hnews : news = [] := List.eq_nil_of_length_eq_zero (by simpa using hsrc.1)
    subst hnews
    refine wpList_plain hgd fun K hK => ?_
    have hrun := run_append_zero (P := P) w base t o.type e i size ht hi1 v n xs hown ao c
    unfold Oper.wp
    simp [execOp, ho, resolve, invoke, builtin, hs, hx, hrun, Result.andThen]
    exact hK _ _ (h v w (by simpa using hown) (World.grownBy.refl _ _) (Below.refl _ _))
  · obtain ⟨b, o', rfl, hb, hc⟩ := hsrc.2.2 (by omega)
    have hmul : (n + m) * bytes ≤ 1000000 * 1000 := Nat.mul_le_mul hnm hbytes
    refine wpList_append_own w hgd s x t ho base e i z size bytes ht hi1 hi2 hi3 hi4 hzs hsz v n xs hs hown ⟨b, o', none⟩ m c news hx hsrc.1 (fun j u hu => by rw [Addr.add_lit]; exact hc j u hu) h1 (by unfold maxLen; omega) (by omega) hbase
      (fun v' w' h2 h3 _ => h v' w' h2 h3 ((Below.refl base w).grown h3 hbase (fun k hk => (hown.lt k hk).1)))

theorem icells_one (l : List Int) : ∀ u ∈ icells l, u.oneCell' = true := ints_oneCell .i64 l

theorem _root_.Go.RowKit.Below.drewN {B : Nat} {a w : World} (h : Below B a w) (n : Nat) : Below B a (w.drewN n) := ⟨h.os, h.tape, h.output, h.size, h.block⟩
theorem _root_.Go.RowKit.Below.step {B : Nat} {a b c : World} (h : Below b.heap.size b c) (hB : B ≤ b.heap.size) (k : Below B a b) : Below B a c := k.trans (h.mono hB)
theorem ret_int {k : IntKind} {a b : Int} (h : a = b) : Ending.returned (.int k a) = .returned (.int k b) := by rw [h]
theorem ret_bool {a b : Bool} (h : a = b) : Ending.returned (.bool a) = .returned (.bool b) := by rw [h]
theorem cellB {w w' : World} {B : Nat} (hb : Below B w w') (b o : Nat) (h : b < B) : w'.cell? ⟨b, o, none⟩ = w.cell? ⟨b, o, none⟩ := hb.cell (p := ⟨b, o, none⟩) h

theorem frozenB {w w' : World} {B : Nat} (hb : Below B w w') (b o : Nat) (h : b < B) : w'.frozen? ⟨b, o, none⟩ = w.frozen? ⟨b, o, none⟩ := hb.frozen (p := ⟨b, o, none⟩) h

end Go.Proofs.Ytbjgklifmillgaa

/- Plain facts on integers and lists. No program in sight. -/
namespace Go.Proofs.Ytbjgklifmillgaa

/-- The first error that is not 0. -/
def firstErr : List Int → Int
  | [] => 0
  | x :: r => if x = 0 then firstErr r else x

/-- An error unless a condition holds. -/
def unl (b : Bool) (e : Int) : Int := if b then 0 else e

/-- n is from lo to hi. -/
def wi (n lo hi : Int) : Bool := decide (lo ≤ n) && decide (n ≤ hi)
theorem wi_iff {n lo hi : Int} : wi n lo hi = true ↔ lo ≤ n ∧ n ≤ hi := by simp [wi]
theorem wi_false {n lo hi : Int} : wi n lo hi = false ↔ ¬ (lo ≤ n ∧ n ≤ hi) := by rw [← wi_iff]; simp

/-- The size of a number, the greatest common divisor, a fraction in lowest terms. -/
def sz (n : Int) : Int := max n (-n)
def gc (a b : Int) : Int := (Int.gcd a b : Nat)
theorem sz_natAbs (n : Int) : sz n = n.natAbs := by unfold sz; omega
theorem gc_zero (a : Int) : gc a 0 = sz a := by unfold gc; rw [sz_natAbs]; simp
theorem gcd_tmod (a b : Int) : Int.gcd b (a.tmod b) = Int.gcd a b := by
  simp only [Int.gcd]
  rw [Int.natAbs_tmod, Nat.gcd_comm, ← Nat.gcd_rec, Nat.gcd_comm]
theorem tmod_lt (a b : Int) (h : b ≠ 0) : (a.tmod b).natAbs < b.natAbs := by
  rw [Int.natAbs_tmod]; exact Nat.mod_lt _ (by omega)
theorem tdiv_le (a b : Int) : (a.tdiv b).natAbs ≤ a.natAbs := by
  rw [Int.natAbs_tdiv]; exact Nat.div_le_self _ _
theorem tdiv_bd (a b m : Int) (h1 : -m ≤ a) (h2 : a ≤ m) : -m ≤ a.tdiv b ∧ a.tdiv b ≤ m := by
  have := tdiv_le a b; omega

theorem gc_pos {a b : Int} (h : 0 < b) : 1 ≤ gc a b := by
  unfold gc
  have : Int.gcd a b ≠ 0 := by intro h; rw [Int.gcd_eq_zero_iff] at h; omega
  omega
theorem gc_le {a b : Int} (h : 0 < b) : gc a b ≤ b := by
  unfold gc
  have h1 : Int.gcd a b ∣ b.natAbs := Int.gcd_dvd_natAbs_right a b
  have := Nat.le_of_dvd (by omega) h1
  omega
theorem drop_at {α : Type} (l : List α) (k : Nat) (d : α) (h : k < l.length) : l.drop k = l.getD k d :: l.drop (k + 1) := by
  rw [List.drop_eq_getElem_cons h]; simp [List.getD, h]
theorem drop_end {α : Type} (l : List α) (k : Nat) (h : l.length ≤ k) : l.drop k = [] := List.drop_eq_nil_of_le h

/-- The error of a line's admittances. -/
def lineErr (l : List Int) : Int := firstErr [unl (decide (0 < l.length)) 10, unl (decide ((l.length : Int) ≤ 10)) 8, unl (!l.any (fun x => !wi x 1 20)) 2]

/-- The errors of a line and a state. -/
def stErr (y f b : List Int) : Int := firstErr [lineErr y, unl (decide (f.length = y.length) && decide (b.length = y.length)) 10, unl (!(f ++ b).any (fun x => !wi x (-1000000) 1000000)) 2]

/-- The first index, from k on, of an element that meets p; -1: there is none. -/
def idxFrom {α : Type} (p : α → Bool) : List α → Nat → Int
  | [], _ => -1
  | x :: r, k => if p x then k else idxFrom p r (k + 1)
theorem idxFrom_any {α : Type} (p : α → Bool) : ∀ (l : List α) (k : Nat), decide (0 ≤ idxFrom p l k) = l.any p
  | [], k => by simp [idxFrom]
  | x :: r, k => by
    simp only [idxFrom, List.any_cons]
    have ih := idxFrom_any p r (k + 1)
    by_cases h : p x = true
    · simp [h]
    · simp [h, ih]
theorem idxFrom_le {α : Type} (p : α → Bool) : ∀ (l : List α) (k : Nat), -1 ≤ idxFrom p l k ∧ idxFrom p l k ≤ k + l.length
  | [], k => by simp [idxFrom]
  | x :: r, k => by
    have := idxFrom_le p r (k + 1)
    simp only [idxFrom, List.length_cons]
    split <;> omega

theorem lineErr_nil {l : List Int} (h : l.length = 0) : lineErr l = 10 := by
  have : l = [] := List.eq_nil_of_length_eq_zero h
  subst this; decide
theorem lineErr_large {l : List Int} (h : 10 < l.length) : lineErr l = 8 := by
  unfold lineErr
  have h1 : decide (0 < l.length) = true := by simp; omega
  have h2 : decide ((l.length : Int) ≤ 10) = false := by simp; omega
  rw [h1, h2]; simp [firstErr, unl]
theorem lineErr_fit {l : List Int} (h0 : 0 < l.length) (h : l.length ≤ 10) : lineErr l = unl (!l.any (fun x => !wi x 1 20)) 2 := by
  unfold lineErr
  have h1 : decide (0 < l.length) = true := by simpa using h0
  have h2 : decide ((l.length : Int) ≤ 10) = true := by simp; omega
  rw [h1, h2]
  cases l.any (fun x => !wi x 1 20) <;> simp [firstErr, unl]

/-- The error of waves. -/
def wErr (l : List Int) : Int := unl (!l.any (fun x => !wi x (-1000000) 1000000)) 2
theorem stErr_line {y f b : List Int} (h : lineErr y ≠ 0) : stErr y f b = lineErr y := by unfold stErr; simp [firstErr, h]
theorem stErr_shape {y f b : List Int} (h : lineErr y = 0) (h2 : ¬ (f.length = y.length ∧ b.length = y.length)) : stErr y f b = 10 := by
  unfold stErr
  have : (decide (f.length = y.length) && decide (b.length = y.length)) = false := by simpa using h2
  rw [this, h]; simp [firstErr, unl]
theorem stErr_waves {y f b : List Int} (h : lineErr y = 0) (h1 : f.length = y.length) (h2 : b.length = y.length) : stErr y f b = if wErr f ≠ 0 then wErr f else wErr b := by
  unfold stErr wErr
  have : (decide (f.length = y.length) && decide (b.length = y.length)) = true := by simp [h1, h2]
  rw [this, h, List.any_append]
  cases f.any (fun x => !wi x (-1000000) 1000000) <;> cases b.any (fun x => !wi x (-1000000) 1000000) <;> simp [firstErr, unl]

/-- A product is bounded. -/
theorem mulb {a b : Int} (A B C : Int) (h1 : -A ≤ a) (h2 : a ≤ A) (h3 : -B ≤ b) (h4 : b ≤ B) (hC : A * B ≤ C) : -C ≤ a * b ∧ a * b ≤ C := by
  have hA : a.natAbs ≤ A.toNat := by omega
  have hB : b.natAbs ≤ B.toNat := by omega
  have hm : (a * b).natAbs ≤ A.toNat * B.toNat := by rw [Int.natAbs_mul]; exact Nat.mul_le_mul hA hB
  have e : ((A.toNat * B.toNat : Nat) : Int) = A * B := by
    rw [Int.natCast_mul, Int.toNat_of_nonneg (by omega), Int.toNat_of_nonneg (by omega)]
  omega

theorem unl_zero {b : Bool} {e : Int} (he : e ≠ 0) (h : unl b e = 0) : b = true := by
  cases b
  · simp [unl] at h; exact absurd h he
  · rfl
theorem lineErr_zero {l : List Int} (h : lineErr l = 0) : 0 < l.length ∧ l.length ≤ 10 ∧ ∀ x ∈ l, 1 ≤ x ∧ x ≤ 20 := by
  rcases Nat.eq_zero_or_pos l.length with h0 | h0
  · rw [lineErr_nil h0] at h; omega
  · rcases Nat.lt_or_ge 10 l.length with h1 | h1
    · rw [lineErr_large h1] at h; omega
    · refine ⟨h0, h1, ?_⟩
      rw [lineErr_fit h0 h1] at h
      intro x hx
      have h2 := unl_zero (by omega) h
      simp only [Bool.not_eq_true', List.any_eq_false] at h2
      have h3 := h2 x hx
      simpa [wi] using h3
theorem wErr_zero {l : List Int} (h : wErr l = 0) : ∀ x ∈ l, -1000000 ≤ x ∧ x ≤ 1000000 := by
  intro x hx
  have h2 := unl_zero (by omega) h
  simp only [Bool.not_eq_true', List.any_eq_false] at h2
  have h3 := h2 x hx
  simpa [wi] using h3
theorem stErr_zero {y f b : List Int} (h : stErr y f b = 0) : lineErr y = 0 ∧ f.length = y.length ∧ b.length = y.length ∧ (∀ x ∈ f, -1000000 ≤ x ∧ x ≤ 1000000) ∧ (∀ x ∈ b, -1000000 ≤ x ∧ x ≤ 1000000) := by
  by_cases h0 : lineErr y = 0
  · by_cases h1 : f.length = y.length ∧ b.length = y.length
    · rw [stErr_waves h0 h1.1 h1.2] at h
      have hf : wErr f = 0 := by
        by_cases hw : wErr f = 0
        · exact hw
        · rw [if_pos hw] at h; exact h
      rw [hf] at h
      simp at h
      exact ⟨h0, h1.1, h1.2, wErr_zero hf, wErr_zero h⟩
    · rw [stErr_shape h0 h1] at h; omega
  · rw [stErr_line h0] at h; exact absurd h h0
theorem getD_mem {l : List Int} {k : Nat} (h : k < l.length) : l.getD k 0 ∈ l := by
  simp [List.getD, h]

theorem mul_self_nonneg' (a : Int) : 0 ≤ a * a := by
  rcases Int.le_total 0 a with h | h
  · exact Int.mul_nonneg h h
  · exact Int.mul_nonneg_of_nonpos_of_nonpos h h

/-- The energy of the first k sections. -/
def enUpto (y f b : List Int) : Nat → Int
  | 0 => 0
  | k + 1 => enUpto y f b k + y.getD k 0 * (f.getD k 0 * f.getD k 0 + b.getD k 0 * b.getD k 0)
end Go.Proofs.Ytbjgklifmillgaa
