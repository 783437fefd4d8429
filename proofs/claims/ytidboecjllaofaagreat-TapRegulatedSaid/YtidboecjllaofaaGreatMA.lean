import Derived.WalkKit
import Derived.WalkLawsBesides
import Derived.WalkSpells
import Derived.Handy
import Derived.Lib.Hide
import Derived.Deep.QuietTactic
import Derived.BigQuiet
import Derived.StillTailTactics
import Derived.Deep.RegionHeld3
import Derived.Lib.AppendZerosOnto
import Derived.Laws.AppendOwnNone
import Derived.Test.YtidboecjllaofaaGreatProg
import Derived.Lib.ConvBytes
/- Words and lemmas about worlds and slices that the walks of this seat use. No program in sight. -/
namespace Go.Proofs.YtidboecjllaofaaGreat
open Go.RowKit

/-- A slice value's address 'a' leads to 'n' elements of 'sz' cells each, which hold 'xs'. -/
def SlR (w : World) (a : Option Addr) (n sz : Nat) (xs : List Value) : Prop :=
  xs.length = n * sz ∧ n ≤ maxLen ∧ (0 < n → ∃ b o, a = some ⟨b, o, none⟩ ∧ b < w.heap.size ∧ ∀ i u, xs[i]? = some u → w.cell? ⟨b, o + i, none⟩ = some u)

theorem SlR.len {w : World} {a : Option Addr} {n sz : Nat} {xs : List Value} (h : SlR w a n sz xs) : xs.length = n * sz := h.1
theorem SlR.small {w : World} {a : Option Addr} {n sz : Nat} {xs : List Value} (h : SlR w a n sz xs) : n ≤ 9223372036854775807 := by
  have := h.2.1; unfold maxLen at this; omega
theorem SlR.addr {w : World} {a : Option Addr} {n sz : Nat} {xs : List Value} (h : SlR w a n sz xs) (hn : 0 < n) :
    ∃ b o, a = some ⟨b, o, none⟩ ∧ b < w.heap.size ∧ ∀ i u, xs[i]? = some u → w.cell? ⟨b, o + i, none⟩ = some u := h.2.2 hn

/-- What holds of a slice holds in every later world that keeps the old blocks. -/
theorem SlR.below {w w' : World} {a : Option Addr} {n sz : Nat} {xs : List Value} (h : SlR w a n sz xs) (hb : Below w.heap.size w w') : SlR w' a n sz xs := by
  refine ⟨h.1, h.2.1, fun hn => ?_⟩
  obtain ⟨b, o, ha, hlt, hc⟩ := h.2.2 hn
  refine ⟨b, o, ha, Nat.lt_of_lt_of_le hlt hb.size, fun i u hu => ?_⟩
  rw [hb.cell (p := ⟨b, o + i, none⟩) hlt]
  exact hc i u hu

theorem SlR.nil (w : World) (a : Option Addr) (sz : Nat) : SlR w a 0 sz [] := ⟨by simp, by simp [maxLen], fun h => absurd h (by omega)⟩

/-- What the call owns is a slice that reads so. -/
theorem SlR.of_owns {w : World} {base : Nat} {e : TypeId} {sz n c : Nat} {a : Option Addr} {xs : List Value} (h : w.ownsRow base e sz (.slice a n c) n xs) : SlR w a n sz xs := by
  refine ⟨h.1, ?_, fun hn => ?_⟩
  · rcases h.2 with ⟨_, h0⟩ | ⟨g, cap, cur, _, _, _, h1, h2, _⟩
    · subst h0; simp [maxLen]
    · exact Nat.le_trans h1 h2
  · rcases h.2 with ⟨_, h0⟩ | ⟨g, cap, cur, hv, _, hg, _⟩
    · omega
    · simp only [Value.slice.injEq] at hv
      obtain ⟨rfl, _, rfl⟩ := hv
      refine ⟨g, 0, rfl, (Array.getElem?_eq_some_iff.1 hg).1, fun i u hu => ?_⟩
      have := h.cells (g := g) (by simp [Value.ownBlock]) i u hu
      rwa [Addr.add_lit] at this

/-- Every owned value is a slice of that length. -/
theorem owns_slice {w : World} {base : Nat} {e : TypeId} {sz n : Nat} {v : Value} {xs : List Value} (h : w.ownsRow base e sz v n xs) : ∃ a c, v = .slice a n c ∧ n ≤ c ∧ c ≤ maxLen := by
  rcases h.2 with ⟨hv, h0⟩ | ⟨g, cap, cur, hv, _, _, h1, h2, _⟩
  · subst h0; exact ⟨_, _, hv, Nat.le_refl _, by simp [maxLen]⟩
  · exact ⟨_, _, hv, h1, h2⟩

/-- A list of integers as cells. -/
def icells (l : List Int) : List Value := l.map (Value.int .i64)
theorem icells_length (l : List Int) : (icells l).length = l.length := by simp [icells]
theorem icells_get {l : List Int} {i : Nat} (h : i < l.length) : (icells l)[i]? = some (.int .i64 (l.getD i 0)) := by
  simp [icells, List.getD, h]
theorem icells_append (a b : List Int) : icells (a ++ b) = icells a ++ icells b := by simp [icells]
theorem icells_inj {a b : List Int} (h : icells a = icells b) : a = b := by
  unfold icells at h
  exact List.map_inj_right (fun x y h => by simpa using h) |>.1 h

/-- A slice of integers. -/
def IntsR (w : World) (a : Option Addr) (n : Nat) (l : List Int) : Prop := SlR w a n 1 (icells l)
theorem IntsR.len {w : World} {a : Option Addr} {n : Nat} {l : List Int} (h : IntsR w a n l) : l.length = n := by
  have := h.1; rw [icells_length] at this; omega
theorem IntsR.below {w w' : World} {a : Option Addr} {n : Nat} {l : List Int} (h : IntsR w a n l) (hb : Below w.heap.size w w') : IntsR w' a n l := SlR.below h hb
theorem IntsR.small {w : World} {a : Option Addr} {n : Nat} {l : List Int} (h : IntsR w a n l) : n ≤ 9223372036854775807 := SlR.small h
theorem IntsR.addr {w : World} {a : Option Addr} {n : Nat} {l : List Int} (h : IntsR w a n l) (hn : 0 < n) :
    ∃ b o, a = some ⟨b, o, none⟩ ∧ b < w.heap.size ∧ ∀ i, i < n → w.cell? ⟨b, o + i, none⟩ = some (.int .i64 (l.getD i 0)) := by
  obtain ⟨b, o, ha, hlt, hc⟩ := h.2.2 hn
  exact ⟨b, o, ha, hlt, fun i hi => hc i _ (icells_get (by rw [h.len]; exact hi))⟩
theorem IntsR.nil (w : World) (a : Option Addr) : IntsR w a 0 [] := SlR.nil w a 1

/-- A literal block read as a slice. -/
theorem SlR.lit (w0 w : World) (cs : List Value) (t B n sz : Nat) (hw : w.heap = (w0.alloc (.cells cs.toArray t)).heap) (hB : B = w0.heap.size) (hl : cs.length = n * sz) (hn : n ≤ 1000) : SlR w (some ⟨B, 0, none⟩) n sz cs := by
  refine ⟨hl, by unfold maxLen; omega, fun _ => ⟨B, 0, rfl, ?_, fun i u hu => ?_⟩⟩
  · rw [hw]; subst hB; simp
  · subst hB
    have h : w.heap[w0.heap.size]? = some (.cells cs.toArray t) := by rw [hw]; exact heap_alloc_new w0 _
    rw [cell_of_row _ _ _ _ _ _ h]; simpa using hu

/-- Rows below B stay owned. -/
theorem owns_below {w w' : World} {base B : Nat} {e : TypeId} {sz n : Nat} {v : Value} {xs : List Value} (h : w.ownsRow base e sz v n xs) (hb : Below B w w') (hB : ∀ k, v.ownBlock = some k → k < B) : w'.ownsRow base e sz v n xs := by
  refine ⟨h.1, ?_⟩
  rcases h.2 with hn | ⟨g, cap, cur, rfl, hbase, hgg, rest⟩
  · exact .inl hn
  · refine .inr ⟨g, cap, cur, rfl, hbase, ?_, rest⟩
    rw [hb.block g (hB g rfl)]
    exact hgg
theorem owns_mono {w : World} {base base' : Nat} {e : TypeId} {sz n : Nat} {v : Value} {xs : List Value} (h : w.ownsRow base e sz v n xs) (hb : base' ≤ base) : w.ownsRow base' e sz v n xs := by
  refine ⟨h.1, ?_⟩
  rcases h.2 with hn | ⟨g, cap, cur, rfl, hbase, r⟩
  · exact .inl hn
  · exact .inr ⟨g, cap, cur, rfl, Nat.le_trans hb hbase, r⟩

theorem owns_lit {w0 : World} {base B n sz : Nat} {e : TypeId} {cs : Array Value} (hB : B = w0.heap.size) (hb : base ≤ B) (hn : n ≤ 1000000) (hl : cs.size = n * sz) : (w0.alloc (.cells cs e)).ownsRow base e sz (.slice (some ⟨B, 0, none⟩) n n) n cs.toList := by
  subst hB; exact World.ownsRow_lit w0 cs n hb (by unfold maxLen; omega) hl
theorem owns_drewN {w : World} {base n sz : Nat} {e : TypeId} {v : Value} {xs : List Value} (h : w.ownsRow base e sz v n xs) (m : Nat) : (w.drewN m).ownsRow base e sz v n xs := h

theorem run_append_zero {P : Program} (w : World) (base : Nat) (t ty e : TypeId) (i : TypeInfo) (size : Nat) (ht : P.underlying t = some (.slice e)) (hi : P.info? e = some i)
    (v : Value) (n : Nat) (xs : List Value) (hown : w.ownsRow base e size v n xs) (ao : Option Addr) (c : Nat) :
    (Builtin.append_ #[t, t] ty #[v, .slice ao 0 c]).run P w = .ok v w := by
  rcases hown.2 with ⟨rfl, rfl⟩ | ⟨g, cap, cur, rfl, _, _, hnc, _⟩
  · cases ao <;> simp [Builtin.append_, run_underlying ht, sizeOf, typeInfo, hi, Builtin.lenOf, Builtin.firstCells, loadCells, loadCellsFrom]
  · cases ao <;> simp [Builtin.append_, run_underlying ht, sizeOf, typeInfo, hi, Builtin.lenOf, Builtin.firstCells, loadCells, loadCellsFrom, hnc, storeCells]

/-- 'append(out, xs...)': out the call's own, xs any slice that can be read. -/
theorem wpList_append_sl {P : Program} (w : World) {ops : Array Oper} {rest : List Oper} {o : Oper} {a : Act} {Q : Exit → Act → World → Prop} (hgd : o.guard = none) (s x : Operand) (t : TypeId)
    (ho : o.op = .call { callee := .builtin .append, args := #[s, x], argTypes := #[t, t] })
    (base : Nat) (e : TypeId) (z : Value) (size bytes : Nat) (ht : P.underlying t = some (.slice e)) (hi : (P.info? e).map (fun i => (i.zero, i.size, i.bytes)) = some (some z, size, bytes))
    (hzs : z.cells.size = size) (hsz : 0 < size)
    (v : Value) (n : Nat) (xs : List Value) (hs : a.eval s = v) (hown : w.ownsRow base e size v n xs)
    (ao : Option Addr) (m c : Nat) (news : List Value) (hx : a.eval x = .slice ao m c) (hsrc : SlR w ao m size news) (h1 : ∀ u ∈ news, u.oneCell' = true)
    (hnm : n + m ≤ 1000000) (hbytes : bytes ≤ 1000) (hbase : base ≤ w.heap.size)
    (h : ∀ v' w', w'.ownsRow base e size v' (n + m) (xs ++ news) → w.grownBy w' v.ownBlock → Below base w w' → wpList P ops Q rest (a.put o.dst v') w') : wpList P ops Q (o :: rest) a w := by
  obtain ⟨i, hi1, hi2, hi3, hi4⟩ := info_parts hi
  by_cases hm : m = 0
  · subst hm
    have hnews : news = [] := List.eq_nil_of_length_eq_zero (by simpa using hsrc.1)
    subst hnews
    refine wpList_plain hgd fun K hK => ?_
    have hrun := run_append_zero (P := P) w base t o.type e i size ht hi1 v n xs hown ao c
    unfold Oper.wp
    simp [execOp, ho, resolve, invoke, builtin, hs, hx, hrun, Result.andThen]
    exact hK _ _ (h v w (by simpa using hown) (World.grownBy.refl _ _) (Below.refl _ _))
  · obtain ⟨b, o', rfl, hb, hc⟩ := hsrc.2.2 (by omega)
    have hmul : (n + m) * bytes ≤ 1000000 * 1000 := Nat.mul_le_mul hnm hbytes
    refine wpList_append_own w hgd s x t ho base e i z size bytes ht hi1 hi2 hi3 hi4 hzs hsz v n xs hs hown ⟨b, o', none⟩ m c news hx hsrc.1 (fun j u hu => by rw [Addr.add_lit]; exact hc j u hu) h1 (by unfold maxLen; omega) (by omega) hbase
      (fun v' w' h2 h3 _ => h v' w' h2 h3 ((Below.refl base w).grown h3 hbase (fun k hk => (hown.lt k hk).1)))

theorem icells_one (l : List Int) : ∀ u ∈ icells l, u.oneCell' = true := ints_oneCell .i64 l

theorem _root_.Go.RowKit.Below.drewN {B : Nat} {a w : World} (h : Below B a w) (n : Nat) : Below B a (w.drewN n) := ⟨h.os, h.tape, h.output, h.size, h.block⟩
theorem _root_.Go.RowKit.Below.step {B : Nat} {a b c : World} (h : Below b.heap.size b c) (hB : B ≤ b.heap.size) (k : Below B a b) : Below B a c := k.trans (h.mono hB)
theorem ret_int {k : IntKind} {a b : Int} (h : a = b) : Ending.returned (.int k a) = .returned (.int k b) := by rw [h]
theorem ret_bool {a b : Bool} (h : a = b) : Ending.returned (.bool a) = .returned (.bool b) := by rw [h]
theorem cellB {w w' : World} {B : Nat} (hb : Below B w w') (b o : Nat) (h : b < B) : w'.cell? ⟨b, o, none⟩ = w.cell? ⟨b, o, none⟩ := hb.cell (p := ⟨b, o, none⟩) h

theorem frozenB {w w' : World} {B : Nat} (hb : Below B w w') (b o : Nat) (h : b < B) : w'.frozen? ⟨b, o, none⟩ = w.frozen? ⟨b, o, none⟩ := hb.frozen (p := ⟨b, o, none⟩) h

end Go.Proofs.YtidboecjllaofaaGreat

/- Plain facts on integers and lists. No program in sight. -/
namespace Go.Proofs.YtidboecjllaofaaGreat

/-- The first error that is not 0. -/
def firstErr : List Int → Int
  | [] => 0
  | x :: r => if x = 0 then firstErr r else x

/-- An error unless a condition holds. -/
def unl (b : Bool) (e : Int) : Int := if b then 0 else e

/-- n is from lo to hi. -/
def wi (n lo hi : Int) : Bool := decide (lo ≤ n) && decide (n ≤ hi)
theorem wi_iff {n lo hi : Int} : wi n lo hi = true ↔ lo ≤ n ∧ n ≤ hi := by simp [wi]
theorem wi_false {n lo hi : Int} : wi n lo hi = false ↔ ¬ (lo ≤ n ∧ n ≤ hi) := by rw [← wi_iff]; simp

/-- The size of a number, the greatest common divisor, a fraction in lowest terms. -/
def sz (n : Int) : Int := max n (-n)
def gc (a b : Int) : Int := (Int.gcd a b : Nat)
theorem sz_natAbs (n : Int) : sz n = n.natAbs := by unfold sz; omega
theorem gc_zero (a : Int) : gc a 0 = sz a := by unfold gc; rw [sz_natAbs]; simp
theorem gcd_tmod (a b : Int) : Int.gcd b (a.tmod b) = Int.gcd a b := by
  simp only [Int.gcd]
  rw [Int.natAbs_tmod, Nat.gcd_comm, ← Nat.gcd_rec, Nat.gcd_comm]
theorem tmod_lt (a b : Int) (h : b ≠ 0) : (a.tmod b).natAbs < b.natAbs := by
  rw [Int.natAbs_tmod]; exact Nat.mod_lt _ (by omega)
theorem tdiv_le (a b : Int) : (a.tdiv b).natAbs ≤ a.natAbs := by
  rw [Int.natAbs_tdiv]; exact Nat.div_le_self _ _
theorem tdiv_bd (a b m : Int) (h1 : -m ≤ a) (h2 : a ≤ m) : -m ≤ a.tdiv b ∧ a.tdiv b ≤ m := by
  have := tdiv_le a b; omega

theorem gc_pos {a b : Int} (h : 0 < b) : 1 ≤ gc a b := by
  unfold gc
  have : Int.gcd a b ≠ 0 := by intro h; rw [Int.gcd_eq_zero_iff] at h; omega
  omega
theorem gc_le {a b : Int} (h : 0 < b) : gc a b ≤ b := by
  unfold gc
  have h1 : Int.gcd a b ∣ b.natAbs := Int.gcd_dvd_natAbs_right a b
  have := Nat.le_of_dvd (by omega) h1
  omega
theorem drop_at {α : Type} (l : List α) (k : Nat) (d : α) (h : k < l.length) : l.drop k = l.getD k d :: l.drop (k + 1) := by
  rw [List.drop_eq_getElem_cons h]; simp [List.getD, h]
theorem drop_end {α : Type} (l : List α) (k : Nat) (h : l.length ≤ k) : l.drop k = [] := List.drop_eq_nil_of_le h

/-- The error of a line's admittances. -/
def lineErr (l : List Int) : Int := firstErr [unl (decide (0 < l.length)) 10, unl (decide ((l.length : Int) ≤ 10)) 8, unl (!l.any (fun x => !wi x 1 20)) 2]

/-- The errors of a line and a state. -/
def stErr (y f b : List Int) : Int := firstErr [lineErr y, unl (decide (f.length = y.length) && decide (b.length = y.length)) 10, unl (!(f ++ b).any (fun x => !wi x (-1000000) 1000000)) 2]

/-- The first index, from k on, of an element that meets p; -1: there is none. -/
def idxFrom {α : Type} (p : α → Bool) : List α → Nat → Int
  | [], _ => -1
  | x :: r, k => if p x then k else idxFrom p r (k + 1)
theorem idxFrom_any {α : Type} (p : α → Bool) : ∀ (l : List α) (k : Nat), decide (0 ≤ idxFrom p l k) = l.any p
  | [], k => by simp [idxFrom]
  | x :: r, k => by
    simp only [idxFrom, List.any_cons]
    have ih := idxFrom_any p r (k + 1)
    by_cases h : p x = true
    · simp [h]
    · simp [h, ih]
theorem idxFrom_le {α : Type} (p : α → Bool) : ∀ (l : List α) (k : Nat), -1 ≤ idxFrom p l k ∧ idxFrom p l k ≤ k + l.length
  | [], k => by simp [idxFrom]
  | x :: r, k => by
    have := idxFrom_le p r (k + 1)
    simp only [idxFrom, List.length_cons]
    split <;> omega

theorem lineErr_nil {l : List Int} (h : l.length = 0) : lineErr l = 10 := by
  have : l = [] := List.eq_nil_of_length_eq_zero h
  subst this; decide
theorem lineErr_large {l : List Int} (h : 10 < l.length) : lineErr l = 8 := by
  unfold lineErr
  have h1 : decide (0 < l.length) = true := by simp; omega
  have h2 : decide ((l.length : Int) ≤ 10) = false := by simp; omega
  rw [h1, h2]; simp [firstErr, unl]
theorem lineErr_fit {l : List Int} (h0 : 0 < l.length) (h : l.length ≤ 10) : lineErr l = unl (!l.any (fun x => !wi x 1 20)) 2 := by
  unfold lineErr
  have h1 : decide (0 < l.length) = true := by simpa using h0
  have h2 : decide ((l.length : Int) ≤ 10) = true := by simp; omega
  rw [h1, h2]
  cases l.any (fun x => !wi x 1 20) <;> simp [firstErr, unl]

/-- The error of waves. -/
def wErr (l : List Int) : Int := unl (!l.any (fun x => !wi x (-1000000) 1000000)) 2
theorem stErr_line {y f b : List Int} (h : lineErr y ≠ 0) : stErr y f b = lineErr y := by unfold stErr; simp [firstErr, h]
theorem stErr_shape {y f b : List Int} (h : lineErr y = 0) (h2 : ¬ (f.length = y.length ∧ b.length = y.length)) : stErr y f b = 10 := by
  unfold stErr
  have : (decide (f.length = y.length) && decide (b.length = y.length)) = false := by simpa using h2
  rw [this, h]; simp [firstErr, unl]
theorem stErr_waves {y f b : List Int} (h : lineErr y = 0) (h1 : f.length = y.length) (h2 : b.length = y.length) : stErr y f b = if wErr f ≠ 0 then wErr f else wErr b := by
  unfold stErr wErr
  have : (decide (f.length = y.length) && decide (b.length = y.length)) = true := by simp [h1, h2]
  rw [this, h, List.any_append]
  cases f.any (fun x => !wi x (-1000000) 1000000) <;> cases b.any (fun x => !wi x (-1000000) 1000000) <;> simp [firstErr, unl]

/-- A product is bounded. -/
theorem mulb {a b : Int} (A B C : Int) (h1 : -A ≤ a) (h2 : a ≤ A) (h3 : -B ≤ b) (h4 : b ≤ B) (hC : A * B ≤ C) : -C ≤ a * b ∧ a * b ≤ C := by
  have hA : a.natAbs ≤ A.toNat := by omega
  have hB : b.natAbs ≤ B.toNat := by omega
  have hm : (a * b).natAbs ≤ A.toNat * B.toNat := by rw [Int.natAbs_mul]; exact Nat.mul_le_mul hA hB
  have e : ((A.toNat * B.toNat : Nat) : Int) = A * B := by
    rw [Int.natCast_mul, Int.toNat_of_nonneg (by omega), Int.toNat_of_nonneg (by omega)]
  omega

theorem unl_zero {b : Bool} {e : Int} (he : e ≠ 0) (h : unl b e = 0) : b = true := by
  cases b
  · simp [unl] at h; exact absurd h he
  · rfl
theorem lineErr_zero {l : List Int} (h : lineErr l = 0) : 0 < l.length ∧ l.length ≤ 10 ∧ ∀ x ∈ l, 1 ≤ x ∧ x ≤ 20 := by
  rcases Nat.eq_zero_or_pos l.length with h0 | h0
  · rw [lineErr_nil h0] at h; omega
  · rcases Nat.lt_or_ge 10 l.length with h1 | h1
    · rw [lineErr_large h1] at h; omega
    · refine ⟨h0, h1, ?_⟩
      rw [lineErr_fit h0 h1] at h
      intro x hx
      have h2 := unl_zero (by omega) h
      simp only [Bool.not_eq_true', List.any_eq_false] at h2
      have h3 := h2 x hx
      simpa [wi] using h3
theorem wErr_zero {l : List Int} (h : wErr l = 0) : ∀ x ∈ l, -1000000 ≤ x ∧ x ≤ 1000000 := by
  intro x hx
  have h2 := unl_zero (by omega) h
  simp only [Bool.not_eq_true', List.any_eq_false] at h2
  have h3 := h2 x hx
  simpa [wi] using h3
theorem stErr_zero {y f b : List Int} (h : stErr y f b = 0) : lineErr y = 0 ∧ f.length = y.length ∧ b.length = y.length ∧ (∀ x ∈ f, -1000000 ≤ x ∧ x ≤ 1000000) ∧ (∀ x ∈ b, -1000000 ≤ x ∧ x ≤ 1000000) := by
  by_cases h0 : lineErr y = 0
  · by_cases h1 : f.length = y.length ∧ b.length = y.length
    · rw [stErr_waves h0 h1.1 h1.2] at h
      have hf : wErr f = 0 := by
        by_cases hw : wErr f = 0
        · exact hw
        · rw [if_pos hw] at h; exact h
      rw [hf] at h
      simp at h
      exact ⟨h0, h1.1, h1.2, wErr_zero hf, wErr_zero h⟩
    · rw [stErr_shape h0 h1] at h; omega
  · rw [stErr_line h0] at h; exact absurd h h0
theorem getD_mem {l : List Int} {k : Nat} (h : k < l.length) : l.getD k 0 ∈ l := by
  simp [List.getD, h]

theorem mul_self_nonneg' (a : Int) : 0 ≤ a * a := by
  rcases Int.le_total 0 a with h | h
  · exact Int.mul_nonneg h h
  · exact Int.mul_nonneg_of_nonpos_of_nonpos h h

/-- The energy of the first k sections. -/
def enUpto (y f b : List Int) : Nat → Int
  | 0 => 0
  | k + 1 => enUpto y f b k + y.getD k 0 * (f.getD k 0 * f.getD k 0 + b.getD k 0 * b.getD k 0)
end Go.Proofs.YtidboecjllaofaaGreat

/- The contracts of the small functions on integers. -/
namespace Go.Proofs.YtidboecjllaofaaGreat
open Go.RowKit
set_option linter.unusedVariables false

theorem infoInt : (Tryz.prog.info? 3).map (fun i => (i.zero, i.size, i.bytes)) = some (some (.int .i64 0), 1, 8) := by kernel_rfl

theorem bwithin_any (n lo hi : Int) (w : World) : Calls Tryz.prog 95 #[.int .i64 n, .int .i64 lo, .int .i64 hi] w fun e' w' => e' = .returned (.bool (wi n lo hi)) ∧ w = w' := by
  by_cases h : lo ≤ n
  · go_enter Tryz.func95, Tryz.ntmps95
    go_wp2
    go_ret
    exact ⟨by simp [wi, h], rfl⟩
  · have h' : n < lo := by omega
    go_enter Tryz.func95, Tryz.ntmps95
    go_wp2
    go_ret
    exact ⟨ret_bool (by simp [wi]; omega), rfl⟩
theorem bsize_any (n : Int) (w : World) (h0 : -9223372036854775807 ≤ n) (h1 : n ≤ 9223372036854775807) : Calls Tryz.prog 162 #[.int .i64 n] w fun e' w' => e' = .returned (.int .i64 (sz n)) ∧ w = w' := by
  go_enter Tryz.func162, Tryz.ntmps162
  go_wp2
  all_goals
    go_ret
    exact ⟨ret_int (by unfold sz; omega), rfl⟩
theorem cell_lit (w0 w : World) (cs : List Value) (t B i : Nat) (u : Value) (hw : w.heap = (w0.alloc (.cells cs.toArray t)).heap) (hB : B = w0.heap.size) (hu : cs[i]? = some u) : w.cell? ⟨B, i, none⟩ = some u := by
  subst hB
  have h : w.heap[w0.heap.size]? = some (.cells cs.toArray t) := by rw [hw]; exact heap_alloc_new w0 _
  rw [cell_of_row _ _ i _ _ _ h]; simpa using hu
end Go.Proofs.YtidboecjllaofaaGreat

/- Slices of records in memory: a list, and how one element lies in cells. No program in sight. -/
namespace Go.Proofs.YtidboecjllaofaaGreat
open Go.RowKit
set_option linter.unusedVariables false

/-- The cells of a list of records; every record takes k cells. -/
def ecells {α : Type} (enc : α → List Value) (l : List α) : List Value := l.flatMap enc
section
variable {α : Type} {enc : α → List Value} {k : Nat}
theorem ecells_len (hk : ∀ x, (enc x).length = k) : ∀ l : List α, (ecells enc l).length = l.length * k
  | [] => by simp [ecells]
  | x :: r => by
    have := ecells_len hk r
    simp only [ecells, List.flatMap_cons, List.length_append, List.length_cons] at *
    rw [this, hk, Nat.succ_mul]; omega
theorem ecells_append (a b : List α) : ecells enc (a ++ b) = ecells enc a ++ ecells enc b := by simp [ecells]
theorem ecells_one (x : α) : ecells enc [x] = enc x := by simp [ecells]
theorem ecells_get (hk : ∀ x, (enc x).length = k) : ∀ {l : List α} {i : Nat} {x : α}, l[i]? = some x → ∀ j, j < k → (ecells enc l)[i * k + j]? = (enc x)[j]?
  | [], i, x, h, j, hj => by simp at h
  | y :: r, 0, x, h, j, hj => by
    simp only [List.getElem?_cons_zero, Option.some.injEq] at h
    subst h
    simp only [ecells, List.flatMap_cons, Nat.zero_mul, Nat.zero_add]
    rw [List.getElem?_append_left (by rw [hk]; exact hj)]
  | y :: r, i + 1, x, h, j, hj => by
    simp only [List.getElem?_cons_succ] at h
    have := ecells_get hk h j hj
    simp only [ecells, List.flatMap_cons] at *
    rw [List.getElem?_append_right (by rw [hk, Nat.succ_mul]; omega), hk, show (i + 1) * k + j - k = i * k + j by rw [Nat.succ_mul]; omega]
    exact this
/-- A slice of records. -/
def ER (enc : α → List Value) (k : Nat) (w : World) (a : Option Addr) (n : Nat) (l : List α) : Prop := l.length = n ∧ SlR w a n k (ecells enc l)
theorem ER.len {w : World} {a : Option Addr} {n : Nat} {l : List α} (h : ER enc k w a n l) : l.length = n := h.1
theorem ER.below {w w' : World} {a : Option Addr} {n : Nat} {l : List α} (h : ER enc k w a n l) (hb : Below w.heap.size w w') : ER enc k w' a n l := ⟨h.1, h.2.below hb⟩
theorem ER.small {w : World} {a : Option Addr} {n : Nat} {l : List α} (h : ER enc k w a n l) : n ≤ 9223372036854775807 := h.2.small
theorem ER.nil (w : World) (a : Option Addr) : ER enc k w a 0 [] := ⟨rfl, SlR.nil w a k⟩
theorem ER.of_owns {w : World} {base : Nat} {e : TypeId} {n c : Nat} {a : Option Addr} {l : List α} (hl : l.length = n) (h : w.ownsRow base e k (.slice a n c) n (ecells enc l)) : ER enc k w a n l := ⟨hl, SlR.of_owns h⟩
theorem ER.addr (hk : ∀ x, (enc x).length = k) {w : World} {a : Option Addr} {n : Nat} {l : List α} (h : ER enc k w a n l) (hn : 0 < n) :
    ∃ b o, a = some ⟨b, o, none⟩ ∧ b < w.heap.size ∧ ∀ i x, l[i]? = some x → ∀ j, j < k → w.cell? ⟨b, o + (i * k + j), none⟩ = (enc x)[j]? := by
  obtain ⟨b, o, ha, hlt, hc⟩ := h.2.2.2 hn
  refine ⟨b, o, ha, hlt, fun i x hx j hj => ?_⟩
  have h1 := ecells_get hk hx j hj
  have h2 : j < (enc x).length := by rw [hk]; exact hj
  rw [List.getElem?_eq_getElem h2] at h1 ⊢
  exact hc _ _ h1
theorem take_last {l : List α} {i : Nat} {x : α} (h : l[i]? = some x) : l.take (i + 1) = l.take i ++ [x] := by
  rw [List.take_add_one, h]; rfl
theorem get_of_lt {l : List α} {i n : Nat} (hl : l.length = n) (h : i < n) : ∃ x, l[i]? = some x := ⟨l[i]'(by omega), List.getElem?_eq_getElem (by omega)⟩
theorem ER.get {w : World} {a : Option Addr} {n : Nat} {l : List α} (h : ER enc k w a n l) {i : Nat} (hi : i < n) : ∃ x, l[i]? = some x := get_of_lt h.1 hi
theorem ecells_ones (h1 : ∀ x, ∀ u ∈ enc x, u.oneCell' = true) (l : List α) : ∀ u ∈ ecells enc l, u.oneCell' = true := fun u hu => by
  obtain ⟨x, _, hx⟩ := List.mem_flatMap.1 hu
  exact h1 x u hx
/-- An element is built, a literal of one record. -/
theorem ER.take_full {l : List α} {n : Nat} (hl : l.length = n) : l.take n = l := List.take_of_length_le (by omega)
/-- What a slice of the call's own says of every element. -/
theorem ecells_inj {enc : α → List Value} {k : Nat} (hk : ∀ x, (enc x).length = k) (hinj : ∀ x y, enc x = enc y → x = y) (hk0 : 0 < k) : ∀ {a b : List α}, ecells enc a = ecells enc b → a = b
  | [], [], _ => rfl
  | [], y :: r, h => by
    have h1 : (ecells enc ([] : List α)).length = (ecells enc (y :: r)).length := by rw [h]
    rw [ecells_len hk, ecells_len hk, List.length_cons, Nat.succ_mul] at h1
    simp at h1; omega
  | y :: r, [], h => by
    have h1 : (ecells enc (y :: r)).length = (ecells enc ([] : List α)).length := by rw [h]
    rw [ecells_len hk, ecells_len hk, List.length_cons, Nat.succ_mul] at h1
    simp at h1; omega
  | x :: a, y :: b, h => by
    simp only [ecells, List.flatMap_cons] at h
    have h1 := List.append_inj h (by rw [hk, hk])
    rw [hinj x y h1.1]
    have h2 : ecells enc a = ecells enc b := h1.2
    rw [ecells_inj hk hinj hk0 h2]
end
end Go.Proofs.YtidboecjllaofaaGreat

/- Records of three integers (pulses, sections, changes), and of five (sensors), in memory. No program in sight. -/
namespace Go.Proofs.YtidboecjllaofaaGreat
open Go.RowKit
set_option linter.unusedVariables false

structure T3 where
  x : Int
  y : Int
  z : Int
  deriving DecidableEq
def e3 (p : T3) : List Value := [.int .i64 p.x, .int .i64 p.y, .int .i64 p.z]
theorem e3_len (p : T3) : (e3 p).length = 3 := rfl
theorem e3_one (p : T3) : ∀ u ∈ e3 p, u.oneCell' = true := fun u hu => by
  simp only [e3, List.mem_cons, List.not_mem_nil, or_false] at hu
  rcases hu with rfl | rfl | rfl <;> rfl
def T3R (w : World) (a : Option Addr) (n : Nat) (l : List T3) : Prop := ER e3 3 w a n l
theorem T3R.below {w w' : World} {a : Option Addr} {n : Nat} {l : List T3} (h : T3R w a n l) (hb : Below w.heap.size w w') : T3R w' a n l := ER.below h hb
theorem T3R.len {w : World} {a : Option Addr} {n : Nat} {l : List T3} (h : T3R w a n l) : l.length = n := h.1
theorem T3R.small {w : World} {a : Option Addr} {n : Nat} {l : List T3} (h : T3R w a n l) : n ≤ 9223372036854775807 := ER.small h
theorem T3R.addr {w : World} {a : Option Addr} {n : Nat} {l : List T3} (h : T3R w a n l) (hn : 0 < n) :
    ∃ b o, a = some ⟨b, o, none⟩ ∧ b < w.heap.size ∧ ∀ i p, l[i]? = some p → w.cell? ⟨b, o + i * 3, none⟩ = some (.int .i64 p.x) ∧ w.cell? ⟨b, o + i * 3 + 1, none⟩ = some (.int .i64 p.y) ∧ w.cell? ⟨b, o + i * 3 + 2, none⟩ = some (.int .i64 p.z) := by
  obtain ⟨b, o, ha, hb, hc⟩ := ER.addr e3_len h hn
  refine ⟨b, o, ha, hb, fun i p hp => ?_⟩
  have h0 := hc i p hp 0 (by omega)
  have h1 := hc i p hp 1 (by omega)
  have h2 := hc i p hp 2 (by omega)
  simp only [← Nat.add_assoc, Nat.add_zero] at h0 h1 h2
  exact ⟨h0, h1, h2⟩
theorem e3_inj (p q : T3) (h : e3 p = e3 q) : p = q := by
  obtain ⟨a, b, c⟩ := p
  obtain ⟨d, e, f⟩ := q
  simp [e3] at h
  obtain ⟨rfl, rfl, rfl⟩ := h
  rfl
/-- A sensor: its position, the range of its times. -/
structure Sen where
  x : Int
  y : Int
  z : Int
  lo : Int
  hi : Int
  deriving DecidableEq
def e5 (p : Sen) : List Value := [.int .i64 p.x, .int .i64 p.y, .int .i64 p.z, .int .i64 p.lo, .int .i64 p.hi]
theorem e5_len (p : Sen) : (e5 p).length = 5 := rfl
theorem e5_one (p : Sen) : ∀ u ∈ e5 p, u.oneCell' = true := fun u hu => by
  simp only [e5, List.mem_cons, List.not_mem_nil, or_false] at hu
  rcases hu with rfl | rfl | rfl | rfl | rfl <;> rfl
def SenR (w : World) (a : Option Addr) (n : Nat) (l : List Sen) : Prop := ER e5 5 w a n l
theorem SenR.below {w w' : World} {a : Option Addr} {n : Nat} {l : List Sen} (h : SenR w a n l) (hb : Below w.heap.size w w') : SenR w' a n l := ER.below h hb
theorem SenR.len {w : World} {a : Option Addr} {n : Nat} {l : List Sen} (h : SenR w a n l) : l.length = n := h.1
theorem SenR.small {w : World} {a : Option Addr} {n : Nat} {l : List Sen} (h : SenR w a n l) : n ≤ 9223372036854775807 := ER.small h
theorem SenR.addr {w : World} {a : Option Addr} {n : Nat} {l : List Sen} (h : SenR w a n l) (hn : 0 < n) :
    ∃ b o, a = some ⟨b, o, none⟩ ∧ b < w.heap.size ∧ ∀ i p, l[i]? = some p → w.cell? ⟨b, o + i * 5, none⟩ = some (.int .i64 p.x) ∧ w.cell? ⟨b, o + i * 5 + 1, none⟩ = some (.int .i64 p.y) ∧ w.cell? ⟨b, o + i * 5 + 2, none⟩ = some (.int .i64 p.z) ∧ w.cell? ⟨b, o + i * 5 + 3, none⟩ = some (.int .i64 p.lo) ∧ w.cell? ⟨b, o + i * 5 + 4, none⟩ = some (.int .i64 p.hi) := by
  obtain ⟨b, o, ha, hb, hc⟩ := ER.addr e5_len h hn
  refine ⟨b, o, ha, hb, fun i p hp => ?_⟩
  have h0 := hc i p hp 0 (by omega)
  have h1 := hc i p hp 1 (by omega)
  have h2 := hc i p hp 2 (by omega)
  have h3 := hc i p hp 3 (by omega)
  have h4 := hc i p hp 4 (by omega)
  simp only [← Nat.add_assoc, Nat.add_zero] at h0 h1 h2 h3 h4
  exact ⟨h0, h1, h2, h3, h4⟩
theorem e5_inj (p q : Sen) (h : e5 p = e5 q) : p = q := by
  obtain ⟨a, b, c, d, e⟩ := p
  obtain ⟨a', b', c', d', e'⟩ := q
  simp [e5] at h
  obtain ⟨rfl, rfl, rfl, rfl, rfl⟩ := h
  rfl
/-- A literal block of records. -/
theorem ER.lit {α : Type} {enc : α → List Value} {k : Nat} (hk : ∀ x, (enc x).length = k) (w0 w : World) (l : List α) (cs : List Value) (t B n : Nat) (hw : w.heap = (w0.alloc (.cells cs.toArray t)).heap) (hB : B = w0.heap.size) (hcs : cs = ecells enc l) (hl : l.length = n) (hn : n ≤ 1000) : ER enc k w (some ⟨B, 0, none⟩) n l :=
  ⟨hl, hcs ▸ SlR.lit w0 w cs t B n k hw hB (by rw [hcs, ecells_len hk, hl]) hn⟩
theorem drop_cons' {α : Type} {l : List α} {k : Nat} {x : α} (h : l[k]? = some x) : l.drop k = x :: l.drop (k + 1) := by
  obtain ⟨h1, h2⟩ := List.getElem?_eq_some_iff.1 h
  rw [List.drop_eq_getElem_cons h1, h2]
end Go.Proofs.YtidboecjllaofaaGreat

/- Which strings are names, in the program and in the reference. -/
namespace Go.Proofs.YtidboecjllaofaaGreat
open Go.RowKit
set_option linter.unusedVariables false

/-- A byte of a string as a number. -/
def byt (s : ByteArray) (i : Nat) : Int := ((s.data.toList.getD i 0).toNat : Int)
theorem byt_bd (s : ByteArray) (i : Nat) : 0 ≤ byt s i ∧ byt s i ≤ 255 := by
  have := (s.data.toList.getD i 0).toNat_lt
  unfold byt; omega
theorem byt_get (s : ByteArray) (i : Nat) (h : i < s.size) : ((s[i]'h).toNat : Int) = byt s i := by
  unfold byt
  have e : s.data.toList.getD i 0 = s[i]'h := by
    have h' : i < s.data.toList.length := by simpa using h
    rw [List.getD_eq_getElem?_getD, List.getElem?_eq_getElem h', Option.getD_some]
    simp [ByteArray.getElem_eq_getElem_data]
  rw [e]
/-- A character of a name at a place. -/
def isLet (x : Int) : Bool := (decide (97 ≤ x) && decide (x ≤ 122)) || (decide (65 ≤ x) && decide (x ≤ 90))
def okCh (x : Int) (i : Nat) : Bool := isLet x || (decide (i ≠ 0) && (decide (x = 45) || (decide (48 ≤ x) && decide (x ≤ 57))))
def nmUpto (s : ByteArray) : Nat → Bool
  | 0 => true
  | k + 1 => nmUpto s k && okCh (byt s k) k
def nameOk (s : ByteArray) : Bool := nmUpto s s.size && wi s.size 1 12
theorem nm_false (s : ByteArray) : ∀ (m k : Nat), nmUpto s k = false → nmUpto s (k + m) = false
  | 0, k, h => h
  | m + 1, k, h => by
    show (nmUpto s (k + m) && _) = false
    rw [nm_false s m k h]; rfl
theorem nm_stop {s : ByteArray} {k : Nat} (hk : k < s.size) (h : okCh (byt s k) k = false) : nameOk s = false := by
  have h1 : nmUpto s (k + 1) = false := by
    show (nmUpto s k && okCh (byt s k) k) = false
    rw [h, Bool.and_false]
  have h2 := nm_false s (s.size - (k + 1)) (k + 1) h1
  rw [show k + 1 + (s.size - (k + 1)) = s.size by omega] at h2
  unfold nameOk; rw [h2]; rfl
/-- The five ranges of characters. -/
theorem ch_cases (x : Int) : (97 ≤ x ∧ x ≤ 122) ∨ (¬ 97 ≤ x ∧ 65 ≤ x ∧ x ≤ 90) ∨ (¬ 97 ≤ x ∧ ¬ 65 ≤ x) ∨ (¬ 97 ≤ x ∧ 65 ≤ x ∧ ¬ x ≤ 90) ∨ (97 ≤ x ∧ ¬ x ≤ 122 ∧ 65 ≤ x ∧ ¬ x ≤ 90) := by omega
theorem ok_let {x : Int} (k : Nat) (h : (97 ≤ x ∧ x ≤ 122) ∨ (65 ≤ x ∧ x ≤ 90)) : okCh x k = true := by
  unfold okCh isLet
  rcases h with ⟨h1, h2⟩ | ⟨h1, h2⟩ <;> simp [h1, h2]
theorem ok_zero {x : Int} (h : ¬ ((97 ≤ x ∧ x ≤ 122) ∨ (65 ≤ x ∧ x ≤ 90))) : okCh x 0 = false := by
  unfold okCh isLet
  simp only [Bool.or_eq_false_iff, Bool.and_eq_false_iff, decide_eq_false_iff_not]
  omega
theorem ok_pos {x : Int} {k : Nat} (hk : k ≠ 0) (h : x = 45 ∨ (48 ≤ x ∧ x ≤ 57)) : okCh x k = true := by
  unfold okCh
  rcases h with h | ⟨h1, h2⟩
  · simp [h, hk]
  · simp [h1, h2, hk]
theorem ok_neg {x : Int} {k : Nat} (h : ¬ ((97 ≤ x ∧ x ≤ 122) ∨ (65 ≤ x ∧ x ≤ 90))) (h1 : x ≠ 45) (h2 : ¬ (48 ≤ x ∧ x ≤ 57)) : okCh x k = false := by
  unfold okCh isLet
  simp only [Bool.or_eq_false_iff, Bool.and_eq_false_iff, decide_eq_false_iff_not]
  omega
end Go.Proofs.YtidboecjllaofaaGreat

/- Series of pulses: their errors, in plain words. -/
namespace Go.Proofs.YtidboecjllaofaaGreat
open Go.RowKit
set_option linter.unusedVariables false

/-- The first index, from k on, of an error, and the error; (0, 0): there is none. -/
def firstAt (f : Nat → Int) : Nat → Nat → Int × Int
  | 0, _ => (0, 0)
  | m + 1, k => if f k ≠ 0 then ((k : Int), f k) else firstAt f m (k + 1)
theorem firstAt_step {f : Nat → Int} {n k : Nat} (h : k < n) : firstAt f (n - k) k = if f k ≠ 0 then ((k : Int), f k) else firstAt f (n - (k + 1)) (k + 1) := by
  rw [show n - k = (n - (k + 1)) + 1 by omega, firstAt]
theorem firstAt_end {f : Nat → Int} {n k : Nat} (h : n ≤ k) : firstAt f (n - k) k = (0, 0) := by
  rw [show n - k = 0 by omega, firstAt]
theorem firstAt_none {f : Nat → Int} : ∀ m k, (firstAt f m k).2 = 0 → firstAt f m k = (0, 0) ∧ ∀ j, k ≤ j → j < k + m → f j = 0
  | 0, k, h => ⟨rfl, fun j h1 h2 => by omega⟩
  | m + 1, k, h => by
    unfold firstAt at h ⊢
    by_cases h0 : f k ≠ 0
    · rw [if_pos h0] at h; exact absurd h h0
    · rw [if_neg h0] at h ⊢
      obtain ⟨h1, h2⟩ := firstAt_none m (k + 1) h
      refine ⟨h1, fun j h3 h4 => ?_⟩
      by_cases hj : j = k
      · subst hj; exact Decidable.not_not.1 h0
      · exact h2 j (by omega) (by omega)
theorem firstAt_all {f : Nat → Int} : ∀ m k, (∀ j, k ≤ j → j < k + m → f j = 0) → firstAt f m k = (0, 0)
  | 0, k, h => rfl
  | m + 1, k, h => by
    unfold firstAt
    rw [if_neg (by rw [h k (by omega) (by omega)]; exact fun h => h rfl)]
    exact firstAt_all m (k + 1) (fun j h1 h2 => h j (by omega) (by omega))
/-- A fraction is in lowest terms; its parts are from 1 to m. -/
def isLow (a b : Int) : Bool := decide (b > 0) && (gc a b == 1)
def isPo (a b m : Int) : Bool := wi a 1 m && wi b 1 m
/-- The error of a calibration. -/
def calE (a b c d : Int) : Int :=
  if (isLow a b && isLow c d) = true then (if (isPo a b 1000000000 && isPo c d 1000000000) = true then (if a * d ≤ c * b then 0 else 9) else 2) else 3
/-- A series: name, period, how many pulses a level has, the calibration, pulses. -/
structure Ser where
  nm : ByteArray
  per : Int
  least : Int
  a : Int
  b : Int
  c : Int
  d : Int
  l : List T3
def headE (s : Ser) : Int := firstErr [unl (nameOk s.nm) 4, unl (wi s.per 1 1000000 && wi s.least 1 60) 2, calE s.a s.b s.c s.d, unl (decide ((s.l.length : Int) ≤ 60)) 8]
def pAt (l : List T3) (k : Nat) : T3 := l.getD k ⟨0, 0, 0⟩
def pulR (p : T3) : Bool := (wi p.x 0 1000000000000 && wi p.y (-4096) 4096) && wi p.z 1 100
def pulE (l : List T3) (k : Nat) : Int := firstErr [unl (pulR (pAt l k)) 2, unl ((pAt l k).y != 0) 11, unl (decide (k = 0) || decide ((pAt l (k - 1)).x < (pAt l k).x)) 9]
def serE (s : Ser) : Int × Int := if headE s ≠ 0 then (0, headE s) else firstAt (pulE s.l) s.l.length 0
theorem serE_zero {s : Ser} (h : (serE s).2 = 0) : serE s = (0, 0) ∧ headE s = 0 ∧ ∀ k, k < s.l.length → pulE s.l k = 0 := by
  unfold serE at h ⊢
  by_cases h0 : headE s ≠ 0
  · rw [if_pos h0] at h; exact absurd h h0
  · rw [if_neg h0] at h ⊢
    obtain ⟨h1, h2⟩ := firstAt_none _ _ h
    exact ⟨h1, Decidable.not_not.1 h0, fun k hk => h2 k (by omega) (by omega)⟩
theorem firstErr_cons {x : Int} {r : List Int} : firstErr (x :: r) = 0 ↔ x = 0 ∧ firstErr r = 0 := by
  show (if x = 0 then firstErr r else x) = 0 ↔ _
  split
  · rename_i h; simp [h]
  · rename_i h; simp [h]
theorem unl_eq_zero {b : Bool} {e : Int} (he : e ≠ 0) : unl b e = 0 ↔ b = true := by
  cases b <;> simp [unl, he]
theorem headE_zero {s : Ser} (h : headE s = 0) : nameOk s.nm = true ∧ (1 ≤ s.per ∧ s.per ≤ 1000000) ∧ (1 ≤ s.least ∧ s.least ≤ 60) ∧ calE s.a s.b s.c s.d = 0 ∧ s.l.length ≤ 60 := by
  unfold headE at h
  simp only [firstErr_cons] at h
  obtain ⟨h1, h2, h3, h4, _⟩ := h
  rw [unl_eq_zero (by omega)] at h1 h2 h4
  rw [Bool.and_eq_true, wi_iff, wi_iff] at h2
  refine ⟨h1, h2.1, h2.2, h3, ?_⟩
  have := of_decide_eq_true h4
  omega
theorem calE_zero {a b c d : Int} (h : calE a b c d = 0) : isLow a b = true ∧ isLow c d = true ∧ (1 ≤ a ∧ a ≤ 1000000000) ∧ (1 ≤ b ∧ b ≤ 1000000000) ∧ (1 ≤ c ∧ c ≤ 1000000000) ∧ (1 ≤ d ∧ d ≤ 1000000000) ∧ a * d ≤ c * b := by
  unfold calE at h
  split at h
  · rename_i h1
    split at h
    · rename_i h2
      split at h
      · rename_i h3
        rw [Bool.and_eq_true] at h1 h2
        simp only [isPo, Bool.and_eq_true, wi_iff] at h2
        exact ⟨h1.1, h1.2, h2.1.1, h2.1.2, h2.2.1, h2.2.2, h3⟩
      · omega
    · omega
  · omega
theorem pulE_zero {l : List T3} {k : Nat} (h : pulE l k = 0) : (0 ≤ (pAt l k).x ∧ (pAt l k).x ≤ 1000000000000) ∧ (-4096 ≤ (pAt l k).y ∧ (pAt l k).y ≤ 4096) ∧ (1 ≤ (pAt l k).z ∧ (pAt l k).z ≤ 100) ∧ (pAt l k).y ≠ 0 ∧ (k = 0 ∨ (pAt l (k - 1)).x < (pAt l k).x) := by
  unfold pulE at h
  simp only [firstErr_cons] at h
  obtain ⟨h1, h2, h3, _⟩ := h
  rw [unl_eq_zero (by omega)] at h1 h2 h3
  simp only [pulR, Bool.and_eq_true, wi_iff] at h1
  refine ⟨h1.1.1, h1.1.2, h1.2, by simpa using h2, ?_⟩
  simpa using h3
end Go.Proofs.YtidboecjllaofaaGreat

/- Machines, limits, states and contacts, in plain words. No program in sight. -/
namespace Go.Proofs.YtidboecjllaofaaGreat
set_option linter.unusedVariables false
set_option linter.unusedSimpArgs false

structure Brn where
  tap : Int
  res : Int
deriving DecidableEq
structure Grd where
  c : Int
  cl : Bool
  ci : Int
  op : Int
deriving DecidableEq
structure Mac where
  br : List Brn
  st : Int
  gs : List Grd
deriving DecidableEq
structure Lim where
  volt : Int
  lo : Int
  hi : Int
  circ : Int
  brk : Int
  ret : Int
deriving DecidableEq
def bAt (l : List Brn) (k : Nat) : Brn := l.getD k ⟨0, 0⟩
def gAt (l : List Grd) (k : Nat) : Grd := l.getD k ⟨0, false, 0, 0⟩
/-- A state of n contacts, a contact, a load. -/
def isS (n : Nat) (s : Int) : Bool := wi s 0 (2 ^ n - 1)
def staE (n : Nat) (s : Int) : Int := unl (isS n s) 2
def conE (n : Nat) (c : Int) : Int := unl (wi c 0 ((n : Int) - 1)) 6
def loaE (x : Int) : Int := unl (wi x (-1000) 1000) 2
def brnE (b : Brn) : Int := unl (wi b.tap 0 1 && wi b.res 0 10) 2
def grdE (n : Nat) (g : Grd) : Int := firstErr [conE n g.c, unl (isS n g.ci && isS n g.op) 2]
def macH (n : Nat) : Int := firstErr [unl (decide (0 < n)) 10, unl (decide ((n : Int) ≤ 6)) 8]
def macK (m : Mac) : Int := firstErr [staE m.br.length m.st, unl (decide ((m.gs.length : Int) ≤ 30)) 8]
/-- The index of a branch or guard, and the error of a machine. -/
def macE (m : Mac) : Int × Int :=
  if macH m.br.length ≠ 0 then (0, macH m.br.length)
  else if (firstAt (fun k => brnE (bAt m.br k)) m.br.length 0).2 ≠ 0 then firstAt (fun k => brnE (bAt m.br k)) m.br.length 0
  else if macK m ≠ 0 then (0, macK m)
  else firstAt (fun k => grdE m.br.length (gAt m.gs k)) m.gs.length 0
def limE (l : Lim) : Int := firstErr [unl (wi l.volt 0 1000 && wi l.lo (-1000) 1000 && wi l.hi (-1000) 1000) 2, unl (decide (l.lo ≤ l.hi)) 9, unl (wi l.circ 0 1000 && wi l.brk 0 1000 && wi l.ret 0 1000) 2]
/-- What a valid machine is. -/
structure MacV (m : Mac) : Prop where
  n0 : 0 < m.br.length
  n1 : m.br.length ≤ 6
  br : ∀ k, k < m.br.length → (0 ≤ (bAt m.br k).tap ∧ (bAt m.br k).tap ≤ 1) ∧ 0 ≤ (bAt m.br k).res ∧ (bAt m.br k).res ≤ 10
  st : 0 ≤ m.st ∧ m.st < 2 ^ m.br.length
  g1 : m.gs.length ≤ 30
  gs : ∀ k, k < m.gs.length → (0 ≤ (gAt m.gs k).c ∧ (gAt m.gs k).c < (m.br.length : Int)) ∧ (0 ≤ (gAt m.gs k).ci ∧ (gAt m.gs k).ci < 2 ^ m.br.length) ∧ 0 ≤ (gAt m.gs k).op ∧ (gAt m.gs k).op < 2 ^ m.br.length
theorem isS_iff {n : Nat} {s : Int} : isS n s = true ↔ 0 ≤ s ∧ s < 2 ^ n := by unfold isS; rw [wi_iff]; omega
theorem staE_zero {n : Nat} {s : Int} : staE n s = 0 ↔ 0 ≤ s ∧ s < 2 ^ n := by unfold staE; rw [unl_eq_zero (by decide), isS_iff]
theorem conE_zero {n : Nat} {c : Int} : conE n c = 0 ↔ 0 ≤ c ∧ c < (n : Int) := by unfold conE; rw [unl_eq_zero (by decide), wi_iff]; omega
theorem loaE_zero {x : Int} : loaE x = 0 ↔ -1000 ≤ x ∧ x ≤ 1000 := by unfold loaE; rw [unl_eq_zero (by decide), wi_iff]
theorem brnE_zero {b : Brn} : brnE b = 0 ↔ (0 ≤ b.tap ∧ b.tap ≤ 1) ∧ 0 ≤ b.res ∧ b.res ≤ 10 := by unfold brnE; rw [unl_eq_zero (by decide), Bool.and_eq_true, wi_iff, wi_iff]
theorem grdE_zero {n : Nat} {g : Grd} : grdE n g = 0 ↔ (0 ≤ g.c ∧ g.c < (n : Int)) ∧ (0 ≤ g.ci ∧ g.ci < 2 ^ n) ∧ 0 ≤ g.op ∧ g.op < 2 ^ n := by
  unfold grdE
  rw [firstErr_cons, firstErr_cons, conE_zero, unl_eq_zero (by decide), Bool.and_eq_true, isS_iff, isS_iff]
  constructor
  · rintro ⟨a, b, _⟩; exact ⟨a, b⟩
  · rintro ⟨a, b⟩; exact ⟨a, b, rfl⟩
theorem macE_zero {m : Mac} (h : (macE m).2 = 0) : macE m = (0, 0) ∧ MacV m := by
  unfold macE at h ⊢
  by_cases h1 : macH m.br.length ≠ 0
  · rw [if_pos h1] at h; exact absurd h h1
  · rw [if_neg h1] at h ⊢
    by_cases h2 : (firstAt (fun k => brnE (bAt m.br k)) m.br.length 0).2 ≠ 0
    · rw [if_pos h2] at h; exact absurd h h2
    · rw [if_neg h2] at h ⊢
      by_cases h3 : macK m ≠ 0
      · rw [if_pos h3] at h; exact absurd h h3
      · rw [if_neg h3] at h ⊢
        have h4 := (firstAt_none _ _ h)
        have h5 := (firstAt_none _ _ (Decidable.not_not.1 h2)).2
        have h1 := Decidable.not_not.1 h1
        have h3 := Decidable.not_not.1 h3
        unfold macH at h1
        unfold macK at h3
        rw [firstErr_cons, firstErr_cons, unl_eq_zero (by decide), unl_eq_zero (by decide), decide_eq_true_eq, decide_eq_true_eq] at h1
        rw [firstErr_cons, firstErr_cons, staE_zero, unl_eq_zero (by decide), decide_eq_true_eq] at h3
        exact ⟨h4.1, h1.1, by omega, fun k hk => brnE_zero.1 (h5 k (Nat.zero_le _) (by omega)), h3.1, by omega, fun k hk => grdE_zero.1 (h4.2 k (Nat.zero_le _) (by omega))⟩
theorem limE_zero {l : Lim} : limE l = 0 ↔ ((0 ≤ l.volt ∧ l.volt ≤ 1000) ∧ (-1000 ≤ l.lo ∧ l.lo ≤ l.hi ∧ l.hi ≤ 1000) ∧ (0 ≤ l.circ ∧ l.circ ≤ 1000) ∧ (0 ≤ l.brk ∧ l.brk ≤ 1000) ∧ 0 ≤ l.ret ∧ l.ret ≤ 1000) := by
  unfold limE
  rw [firstErr_cons, firstErr_cons, firstErr_cons, unl_eq_zero (by decide), unl_eq_zero (by decide), unl_eq_zero (by decide)]
  simp only [Bool.and_eq_true, wi_iff, decide_eq_true_eq]
  constructor
  · rintro ⟨a, b, c, _⟩; omega
  · intro h; exact ⟨by omega, by omega, by omega, rfl⟩
/-- The contact's guard permits a change; a contact may change. -/
def grdB (s i : Nat) (g : Grd) : Bool := decide (g.c = (i : Int)) && decide (g.cl ≠ s.testBit i) && decide (g.ci.toNat &&& s = g.ci.toNat) && decide (g.op.toNat &&& s = 0)
def mayB (m : Mac) (s i : Nat) : Bool := m.gs.any (grdB s i)
def movL (m : Mac) (s : Nat) : List Nat := (List.range m.br.length).filter (mayB m s)
/-- The state after the change of a contact. -/
def trn (s i : Nat) : Nat := s ^^^ 2 ^ i
end Go.Proofs.YtidboecjllaofaaGreat
