import Derived.WalkKit
import Derived.WalkLawsBesides
import Derived.WalkSpells
import Derived.Handy
import Derived.Lib.Hide
import Derived.Deep.QuietTactic
import Derived.BigQuiet
import Derived.StillTailTactics
import Derived.Deep.RegionHeld3
import Derived.Lib.AppendZerosOnto
import Derived.Laws.AppendOwnNone
import Derived.Test.YtdjinmieogpgcaaGreatProg
import Derived.Lib.ConvBytes
/- Plain facts on integers and lists. No program in sight. -/
namespace Go.Proofs.YtdjinmieogpgcaaGreat
def firstErr : List Int → Int
 | [] => 0
 | x :: r => if x = 0 then firstErr r else x
def unl (b : Bool) (e : Int) : Int := if b then 0 else e
def wi (n lo hi : Int) : Bool := decide (lo ≤ n) && decide (n ≤ hi)
theorem wi_iff {n lo hi : Int} : wi n lo hi = true ↔ lo ≤ n ∧ n ≤ hi := by simp [wi]
def sz (n : Int) : Int := max n (-n)
def gc (a b : Int) : Int := (Int.gcd a b : Nat)
theorem sz_natAbs (n : Int) : sz n = n.natAbs := by unfold sz; omega
theorem gc_zero (a : Int) : gc a 0 = sz a := by unfold gc; rw [sz_natAbs]; simp
theorem gcd_tmod (a b : Int) : Int.gcd b (a.tmod b) = Int.gcd a b := by
 simp only [Int.gcd]
 rw [Int.natAbs_tmod, Nat.gcd_comm, ← Nat.gcd_rec, Nat.gcd_comm]
theorem tmod_lt (a b : Int) (h : b ≠ 0) : (a.tmod b).natAbs < b.natAbs := by
 rw [Int.natAbs_tmod]; exact Nat.mod_lt _ (by omega)
theorem tdiv_le (a b : Int) : (a.tdiv b).natAbs ≤ a.natAbs := by
 rw [Int.natAbs_tdiv]; exact Nat.div_le_self _ _
theorem tdiv_bd (a b m : Int) (h1 : -m ≤ a) (h2 : a ≤ m) : -m ≤ a.tdiv b ∧ a.tdiv b ≤ m := by
 have := tdiv_le a b; omega
theorem gc_pos {a b : Int} (h : 0 < b) : 1 ≤ gc a b := by
 unfold gc
 have : Int.gcd a b ≠ 0 := by intro h; rw [Int.gcd_eq_zero_iff] at h; omega
 omega
theorem gc_le {a b : Int} (h : 0 < b) : gc a b ≤ b := by
 unfold gc
 have h1 : Int.gcd a b ∣ b.natAbs := Int.gcd_dvd_natAbs_right a b
 have := Nat.le_of_dvd (by omega) h1
 omega
theorem drop_at {α : Type} (l : List α) (k : Nat) (d : α) (h : k < l.length) : l.drop k = l.getD k d :: l.drop (k + 1) := by
 rw [List.drop_eq_getElem_cons h]; simp [List.getD, h]
theorem drop_end {α : Type} (l : List α) (k : Nat) (h : l.length ≤ k) : l.drop k = [] := List.drop_eq_nil_of_le h
def idxFrom {α : Type} (p : α → Bool) : List α → Nat → Int
 | [], _ => -1
 | x :: r, k => if p x then k else idxFrom p r (k + 1)
/- Words and lemmas about worlds and slices that the walks of this seat use. No program in sight. -/
open Go.RowKit
def SlR (w : World) (a : Option Addr) (n sz : Nat) (xs : List Value) : Prop :=
 xs.length = n * sz ∧ n ≤ maxLen ∧ (0 < n → ∃ b o, a = some ⟨b, o, none⟩ ∧ b < w.heap.size ∧ ∀ i u, xs[i]? = some u → w.cell? ⟨b, o + i, none⟩ = some u)
theorem SlR.small {w : World} {a : Option Addr} {n sz : Nat} {xs : List Value} (h : SlR w a n sz xs) : n ≤ 9223372036854775807 := by
 have := h.2.1; unfold maxLen at this; omega
theorem SlR.addr {w : World} {a : Option Addr} {n sz : Nat} {xs : List Value} (h : SlR w a n sz xs) (hn : 0 < n) :
    ∃ b o, a = some ⟨b, o, none⟩ ∧ b < w.heap.size ∧ ∀ i u, xs[i]? = some u → w.cell? ⟨b, o + i, none⟩ = some u := h.2.2 hn
theorem SlR.below {w w' : World} {a : Option Addr} {n sz : Nat} {xs : List Value} (h : SlR w a n sz xs) (hb : Below w.heap.size w w') : SlR w' a n sz xs := by
 refine ⟨h.1, h.2.1, fun hn => ?_⟩
 obtain ⟨b, o, ha, hlt, hc⟩ := h.2.2 hn
 refine ⟨b, o, ha, Nat.lt_of_lt_of_le hlt hb.size, fun i u hu => ?_⟩
 rw [hb.cell (p := ⟨b, o + i, none⟩) hlt]
 exact hc i u hu
theorem SlR.nil (w : World) (a : Option Addr) (sz : Nat) : SlR w a 0 sz [] := ⟨by simp, by simp [maxLen], fun h => absurd h (by omega)⟩
theorem SlR.of_owns {w : World} {base : Nat} {e : TypeId} {sz n c : Nat} {a : Option Addr} {xs : List Value} (h : w.ownsRow base e sz (.slice a n c) n xs) : SlR w a n sz xs := by
 refine ⟨h.1, ?_, fun hn => ?_⟩
 ·rcases h.2 with ⟨_, h0⟩ | ⟨g, cap, cur, _, _, _, h1, h2, _⟩
  ·subst h0; simp [maxLen]
  ·exact Nat.le_trans h1 h2
 ·rcases h.2 with ⟨_, h0⟩ | ⟨g, cap, cur, hv, _, hg, _⟩
  ·omega
  ·simp only [Value.slice.injEq] at hv
   obtain ⟨rfl, _, rfl⟩ := hv
   refine ⟨g, 0, rfl, (Array.getElem?_eq_some_iff.1 hg).1, fun i u hu => ?_⟩
   have := h.cells (g := g) (by simp [Value.ownBlock]) i u hu
   rwa [Addr.add_lit] at this
theorem owns_slice {w : World} {base : Nat} {e : TypeId} {sz n : Nat} {v : Value} {xs : List Value} (h : w.ownsRow base e sz v n xs) : ∃ a c, v = .slice a n c ∧ n ≤ c ∧ c ≤ maxLen := by
 rcases h.2 with ⟨hv, h0⟩ | ⟨g, cap, cur, hv, _, _, h1, h2, _⟩
 ·subst h0; exact ⟨_, _, hv, Nat.le_refl _, by simp [maxLen]⟩
 ·exact ⟨_, _, hv, h1, h2⟩
def icells (l : List Int) : List Value := l.map (Value.int .i64)
theorem icells_length (l : List Int) : (icells l).length = l.length := by simp [icells]
theorem icells_get {l : List Int} {i : Nat} (h : i < l.length) : (icells l)[i]? = some (.int .i64 (l.getD i 0)) := by
 simp [icells, List.getD, h]
theorem icells_append (a b : List Int) : icells (a ++ b) = icells a ++ icells b := by simp [icells]
def IntsR (w : World) (a : Option Addr) (n : Nat) (l : List Int) : Prop := SlR w a n 1 (icells l)
theorem IntsR.len {w : World} {a : Option Addr} {n : Nat} {l : List Int} (h : IntsR w a n l) : l.length = n := by
 have := h.1; rw [icells_length] at this; omega
theorem IntsR.below {w w' : World} {a : Option Addr} {n : Nat} {l : List Int} (h : IntsR w a n l) (hb : Below w.heap.size w w') : IntsR w' a n l := SlR.below h hb
theorem IntsR.small {w : World} {a : Option Addr} {n : Nat} {l : List Int} (h : IntsR w a n l) : n ≤ 9223372036854775807 := SlR.small h
theorem IntsR.addr {w : World} {a : Option Addr} {n : Nat} {l : List Int} (h : IntsR w a n l) (hn : 0 < n) :
    ∃ b o, a = some ⟨b, o, none⟩ ∧ b < w.heap.size ∧ ∀ i, i < n → w.cell? ⟨b, o + i, none⟩ = some (.int .i64 (l.getD i 0)) := by
 obtain ⟨b, o, ha, hlt, hc⟩ := h.2.2 hn
 exact ⟨b, o, ha, hlt, fun i hi => hc i _ (icells_get (by rw [h.len]; exact hi))⟩
theorem IntsR.nil (w : World) (a : Option Addr) : IntsR w a 0 [] := SlR.nil w a 1
theorem SlR.lit (w0 w : World) (cs : List Value) (t B n sz : Nat) (hw : w.heap = (w0.alloc (.cells cs.toArray t)).heap) (hB : B = w0.heap.size) (hl : cs.length = n * sz) (hn : n ≤ 1000) : SlR w (some ⟨B, 0, none⟩) n sz cs := by
 refine ⟨hl, by unfold maxLen; omega, fun _ => ⟨B, 0, rfl, ?_, fun i u hu => ?_⟩⟩
 ·rw [hw]; subst hB; simp
 ·subst hB
  have h : w.heap[w0.heap.size]? = some (.cells cs.toArray t) := by rw [hw]; exact heap_alloc_new w0 _
  rw [cell_of_row _ _ _ _ _ _ h]; simpa using hu
theorem owns_below {w w' : World} {base B : Nat} {e : TypeId} {sz n : Nat} {v : Value} {xs : List Value} (h : w.ownsRow base e sz v n xs) (hb : Below B w w') (hB : ∀ k, v.ownBlock = some k → k < B) : w'.ownsRow base e sz v n xs := by
 refine ⟨h.1, ?_⟩
 rcases h.2 with hn | ⟨g, cap, cur, rfl, hbase, hgg, rest⟩
 ·exact .inl hn
 ·refine .inr ⟨g, cap, cur, rfl, hbase, ?_, rest⟩
  rw [hb.block g (hB g rfl)]
  exact hgg
theorem owns_mono {w : World} {base base' : Nat} {e : TypeId} {sz n : Nat} {v : Value} {xs : List Value} (h : w.ownsRow base e sz v n xs) (hb : base' ≤ base) : w.ownsRow base' e sz v n xs := by
 refine ⟨h.1, ?_⟩
 rcases h.2 with hn | ⟨g, cap, cur, rfl, hbase, r⟩
 ·exact .inl hn
 ·exact .inr ⟨g, cap, cur, rfl, Nat.le_trans hb hbase, r⟩
theorem owns_lit {w0 : World} {base B n sz : Nat} {e : TypeId} {cs : Array Value} (hB : B = w0.heap.size) (hb : base ≤ B) (hn : n ≤ 1000000) (hl : cs.size = n * sz) : (w0.alloc (.cells cs e)).ownsRow base e sz (.slice (some ⟨B, 0, none⟩) n n) n cs.toList := by
 subst hB; exact World.ownsRow_lit w0 cs n hb (by unfold maxLen; omega) hl
theorem run_append_zero {P : Program} (w : World) (base : Nat) (t ty e : TypeId) (i : TypeInfo) (size : Nat) (ht : P.underlying t = some (.slice e)) (hi : P.info? e = some i)
    (v : Value) (n : Nat) (xs : List Value) (hown : w.ownsRow base e size v n xs) (ao : Option Addr) (c : Nat) :
    (Builtin.append_ #[t, t] ty #[v, .slice ao 0 c]).run P w = .ok v w := by
 rcases hown.2 with ⟨rfl, rfl⟩ | ⟨g, cap, cur, rfl, _, _, hnc, _⟩
 ·cases ao <;> simp [Builtin.append_, run_underlying ht, sizeOf, typeInfo, hi, Builtin.lenOf, Builtin.firstCells, loadCells, loadCellsFrom]
 ·cases ao <;> simp [Builtin.append_, run_underlying ht, sizeOf, typeInfo, hi, Builtin.lenOf, Builtin.firstCells, loadCells, loadCellsFrom, hnc, storeCells]
theorem wpList_append_sl {P : Program} (w : World) {ops : Array Oper} {rest : List Oper} {o : Oper} {a : Act} {Q : Exit → Act → World → Prop} (hgd : o.guard = none) (s x : Operand) (t : TypeId)
    (ho : o.op = .call { callee := .builtin .append, args := #[s, x], argTypes := #[t, t] })
    (base : Nat) (e : TypeId) (z : Value) (size bytes : Nat) (ht : P.underlying t = some (.slice e)) (hi : (P.info? e).map (fun i => (i.zero, i.size, i.bytes)) = some (some z, size, bytes))
    (hzs : z.cells.size = size) (hsz : 0 < size)
    (v : Value) (n : Nat) (xs : List Value) (hs : a.eval s = v) (hown : w.ownsRow base e size v n xs)
    (ao : Option Addr) (m c : Nat) (news : List Value) (hx : a.eval x = .slice ao m c) (hsrc : SlR w ao m size news) (h1 : ∀ u ∈ news, u.oneCell' = true)
    (hnm : n + m ≤ 1000000) (hbytes : bytes ≤ 1000) (hbase : base ≤ w.heap.size)
    (h : ∀ v' w', w'.ownsRow base e size v' (n + m) (xs ++ news) → w.grownBy w' v.ownBlock → Below base w w' → wpList P ops Q rest (a.put o.dst v') w') : wpList P ops Q (o :: rest) a w := by
 obtain ⟨i, hi1, hi2, hi3, hi4⟩ := info_parts hi
 by_cases hm : m = 0
 ·subst hm
  have hnews : news = [] := List.eq_nil_of_length_eq_zero (by simpa using hsrc.1)
  subst hnews
  refine wpList_plain hgd fun K hK => ?_
  have hrun := run_append_zero (P := P) w base t o.type e i size ht hi1 v n xs hown ao c
  unfold Oper.wp
  simp [execOp, ho, resolve, invoke, builtin, hs, hx, hrun, Result.andThen]
  exact hK _ _ (h v w (by simpa using hown) (World.grownBy.refl _ _) (Below.refl _ _))
 ·obtain ⟨b, o', rfl, hb, hc⟩ := hsrc.2.2 (by omega)
  have hmul : (n + m) * bytes ≤ 1000000 * 1000 := Nat.mul_le_mul hnm hbytes
  refine wpList_append_own w hgd s x t ho base e i z size bytes ht hi1 hi2 hi3 hi4 hzs hsz v n xs hs hown ⟨b, o', none⟩ m c news hx hsrc.1 (fun j u hu => by rw [Addr.add_lit]; exact hc j u hu) h1 (by unfold maxLen; omega) (by omega) hbase
   (fun v' w' h2 h3 _ => h v' w' h2 h3 ((Below.refl base w).grown h3 hbase (fun k hk => (hown.lt k hk).1)))
theorem icells_one (l : List Int) : ∀ u ∈ icells l, u.oneCell' = true := ints_oneCell .i64 l
theorem _root_.Go.RowKit.Below.drewN {B : Nat} {a w : World} (h : Below B a w) (n : Nat) : Below B a (w.drewN n) := ⟨h.os, h.tape, h.output, h.size, h.block⟩
theorem _root_.Go.RowKit.Below.step {B : Nat} {a b c : World} (h : Below b.heap.size b c) (hB : B ≤ b.heap.size) (k : Below B a b) : Below B a c := k.trans (h.mono hB)
theorem ret_int {k : IntKind} {a b : Int} (h : a = b) : Ending.returned (.int k a) = .returned (.int k b) := by rw [h]
theorem ret_bool {a b : Bool} (h : a = b) : Ending.returned (.bool a) = .returned (.bool b) := by rw [h]
theorem cellB {w w' : World} {B : Nat} (hb : Below B w w') (b o : Nat) (h : b < B) : w'.cell? ⟨b, o, none⟩ = w.cell? ⟨b, o, none⟩ := hb.cell (p := ⟨b, o, none⟩) h
theorem frozenB {w w' : World} {B : Nat} (hb : Below B w w') (b o : Nat) (h : b < B) : w'.frozen? ⟨b, o, none⟩ = w.frozen? ⟨b, o, none⟩ := hb.frozen (p := ⟨b, o, none⟩) h
theorem bw1 {B : Nat} {w : World} : Below B w w := Below.refl _ _
theorem bw2 {B : Nat} {a w : World} (h : Below B a w) (n : Nat) : Below B a (w.drewN n) := Below.drewN h n
theorem bw3 {B : Nat} {a w : World} (h : Below B a w) (hB : B ≤ w.heap.size) (o : Obj) : Below B a (w.alloc o) := Below.alloc h hB o
theorem bw4 {B : Nat} {a w : World} (h : Below B a w) : Below B a w.drew := Below.drew h
theorem bw5 {B : Nat} {a w : World} (h : Below B a w) {p : Addr} (hp : B ≤ p.block) (u : Value) : Below B a (w.setCell p u) := Below.setCell h hp u
theorem bw6 {B : Nat} {a b c : World} (h : Below b.heap.size b c) (hB : B ≤ b.heap.size) (k : Below B a b) : Below B a c := Below.step h hB k
theorem bwg {B : Nat} {a b : World} (h : Below B a b := by (repeat' first|(with_reducible first|exact bw1|assumption|refine bw2 ?_ _|refine bw3 ?_ ?_ _|refine bw4 ?_|refine bw5 ?_ ?_ _|refine bw6 (by assumption) ?_ ?_|exact And.left (by assumption))|go_size)) : Below B a b := h
theorem bwt {a b c : World} (h : Hid (Below a.heap.size a b)) (k : Below b.heap.size b c) : Hid (Below a.heap.size a c) := Lib.hid (h.out.trans (k.mono h.out.size))
theorem bwc {w w' : World} {B : Nat} (hb : Below B w w') {b o : Nat} {v : Value} (h : b < B := by first|omega|(simp <;> omega)) (hc : w.cell? ⟨b, o, none⟩ = some v := by first|assumption|go_simp) : w'.cell? ⟨b, o, none⟩ = some v := (cellB hb b o h).trans hc
theorem bwf {w w' : World} {B : Nat} (hb : Below B w w') {b o : Nat} (h : b < B := by first|omega|(simp <;> omega)) (hc : w.frozen? ⟨b, o, none⟩ = false := by first|assumption|go_simp) : w'.frozen? ⟨b, o, none⟩ = false := (frozenB hb b o h).trans hc
/- Slices of records in memory: a list, and how one element lies in cells. No program in sight. -/
set_option linter.unusedVariables false
def ecells {α : Type} (enc : α → List Value) (l : List α) : List Value := l.flatMap enc
section
variable {α : Type} {enc : α → List Value} {k : Nat}
theorem ecells_len (hk : ∀ x, (enc x).length = k) : ∀ l : List α, (ecells enc l).length = l.length * k
 | [] => by simp [ecells]
 | x :: r => by
  have := ecells_len hk r
  simp only [ecells, List.flatMap_cons, List.length_append, List.length_cons] at *
  rw [this, hk, Nat.succ_mul]; omega
theorem ecells_get (hk : ∀ x, (enc x).length = k) : ∀ {l : List α} {i : Nat} {x : α}, l[i]? = some x → ∀ j, j < k → (ecells enc l)[i * k + j]? = (enc x)[j]?
 | [], i, x, h, j, hj => by simp at h
 | y :: r, 0, x, h, j, hj => by
  simp only [List.getElem?_cons_zero, Option.some.injEq] at h
  subst h
  simp only [ecells, List.flatMap_cons, Nat.zero_mul, Nat.zero_add]
  rw [List.getElem?_append_left (by rw [hk]; exact hj)]
 | y :: r, i + 1, x, h, j, hj => by
  simp only [List.getElem?_cons_succ] at h
  have := ecells_get hk h j hj
  simp only [ecells, List.flatMap_cons] at *
  rw [List.getElem?_append_right (by rw [hk, Nat.succ_mul]; omega), hk, show (i + 1) * k + j - k = i * k + j by rw [Nat.succ_mul]; omega]
  exact this
def ER (enc : α → List Value) (k : Nat) (w : World) (a : Option Addr) (n : Nat) (l : List α) : Prop := l.length = n ∧ SlR w a n k (ecells enc l)
theorem ER.below {w w' : World} {a : Option Addr} {n : Nat} {l : List α} (h : ER enc k w a n l) (hb : Below w.heap.size w w') : ER enc k w' a n l := ⟨h.1, h.2.below hb⟩
theorem ER.small {w : World} {a : Option Addr} {n : Nat} {l : List α} (h : ER enc k w a n l) : n ≤ 9223372036854775807 := h.2.small
theorem ER.nil (w : World) (a : Option Addr) : ER enc k w a 0 [] := ⟨rfl, SlR.nil w a k⟩
theorem ER.of_owns {w : World} {base : Nat} {e : TypeId} {n c : Nat} {a : Option Addr} {l : List α} (hl : l.length = n) (h : w.ownsRow base e k (.slice a n c) n (ecells enc l)) : ER enc k w a n l := ⟨hl, SlR.of_owns h⟩
theorem ER.addr (hk : ∀ x, (enc x).length = k) {w : World} {a : Option Addr} {n : Nat} {l : List α} (h : ER enc k w a n l) (hn : 0 < n) :
    ∃ b o, a = some ⟨b, o, none⟩ ∧ b < w.heap.size ∧ ∀ i x, l[i]? = some x → ∀ j, j < k → w.cell? ⟨b, o + (i * k + j), none⟩ = (enc x)[j]? := by
 obtain ⟨b, o, ha, hlt, hc⟩ := h.2.2.2 hn
 refine ⟨b, o, ha, hlt, fun i x hx j hj => ?_⟩
 have h1 := ecells_get hk hx j hj
 have h2 : j < (enc x).length := by rw [hk]; exact hj
 rw [List.getElem?_eq_getElem h2] at h1 ⊢
 exact hc _ _ h1
theorem get_of_lt {l : List α} {i n : Nat} (hl : l.length = n) (h : i < n) : ∃ x, l[i]? = some x := ⟨l[i]'(by omega), List.getElem?_eq_getElem (by omega)⟩
theorem ER.get {w : World} {a : Option Addr} {n : Nat} {l : List α} (h : ER enc k w a n l) {i : Nat} (hi : i < n) : ∃ x, l[i]? = some x := get_of_lt h.1 hi
theorem ecells_ones (h1 : ∀ x, ∀ u ∈ enc x, u.oneCell' = true) (l : List α) : ∀ u ∈ ecells enc l, u.oneCell' = true := fun u hu => by
 obtain ⟨x, _, hx⟩ := List.mem_flatMap.1 hu
 exact h1 x u hx
end
end Go.Proofs.YtdjinmieogpgcaaGreat
/- Records of three integers (pulses, sections, changes), and of five (sensors), in memory. No program in sight. -/
namespace Go.Proofs.YtdjinmieogpgcaaGreat
open Go.RowKit
set_option linter.unusedVariables false
structure T3 where
 x : Int
 y : Int
 z : Int
 deriving DecidableEq
def e3 (p : T3) : List Value := [.int .i64 p.x, .int .i64 p.y, .int .i64 p.z]
structure Sen where
 x : Int
 y : Int
 z : Int
 lo : Int
 hi : Int
 deriving DecidableEq
def e5 (p : Sen) : List Value := [.int .i64 p.x, .int .i64 p.y, .int .i64 p.z, .int .i64 p.lo, .int .i64 p.hi]
theorem drop_cons' {α : Type} {l : List α} {k : Nat} {x : α} (h : l[k]? = some x) : l.drop k = x :: l.drop (k + 1) := by
 obtain ⟨h1, h2⟩ := List.getElem?_eq_some_iff.1 h
 rw [List.drop_eq_getElem_cons h1, h2]
/- The contracts of the small functions on integers. -/
theorem infoInt : (Tryz.prog.info? 3).map (fun i => (i.zero, i.size, i.bytes)) = some (some (.int .i64 0), 1, 8) := by kernel_rfl
theorem bwithin_any (n lo hi : Int) (w : World) : Calls Tryz.prog 45 #[.int .i64 n, .int .i64 lo, .int .i64 hi] w fun e' w' => e' = .returned (.bool (wi n lo hi)) ∧ w = w' := by
 by_cases h : lo ≤ n
 ·go_enter Tryz.func45, Tryz.ntmps45
  go_wp2
  go_ret
  exact ⟨by simp [wi, h], rfl⟩
 ·have h' : n < lo := by omega
  go_enter Tryz.func45, Tryz.ntmps45
  go_wp2
  go_ret
  exact ⟨ret_bool (by simp [wi]; omega), rfl⟩
theorem cell_lit (w0 w : World) (cs : List Value) (t B i : Nat) (u : Value) (hw : w.heap = (w0.alloc (.cells cs.toArray t)).heap) (hB : B = w0.heap.size) (hu : cs[i]? = some u) : w.cell? ⟨B, i, none⟩ = some u := by
 subst hB
 have h : w.heap[w0.heap.size]? = some (.cells cs.toArray t) := by rw [hw]; exact heap_alloc_new w0 _
 rw [cell_of_row _ _ i _ _ _ h]; simpa using hu
/- Series of pulses: their errors, in plain words. -/
def firstAt (f : Nat → Int) : Nat → Nat → Int × Int
 | 0, _ => (0, 0)
 | m + 1, k => if f k ≠ 0 then ((k : Int), f k) else firstAt f m (k + 1)
theorem firstAt_step {f : Nat → Int} {n k : Nat} (h : k < n) : firstAt f (n - k) k = if f k ≠ 0 then ((k : Int), f k) else firstAt f (n - (k + 1)) (k + 1) := by
 rw [show n - k = (n - (k + 1)) + 1 by omega, firstAt]
theorem firstAt_end {f : Nat → Int} {n k : Nat} (h : n ≤ k) : firstAt f (n - k) k = (0, 0) := by
 rw [show n - k = 0 by omega, firstAt]
theorem firstAt_none {f : Nat → Int} : ∀ m k, (firstAt f m k).2 = 0 → firstAt f m k = (0, 0) ∧ ∀ j, k ≤ j → j < k + m → f j = 0
 | 0, k, h => ⟨rfl, fun j h1 h2 => by omega⟩
 | m + 1, k, h => by
  unfold firstAt at h ⊢
  by_cases h0 : f k ≠ 0
  ·rw [if_pos h0] at h; exact absurd h h0
  ·rw [if_neg h0] at h ⊢
   obtain ⟨h1, h2⟩ := firstAt_none m (k + 1) h
   refine ⟨h1, fun j h3 h4 => ?_⟩
   by_cases hj : j = k
   ·subst hj; exact Decidable.not_not.1 h0
   ·exact h2 j (by omega) (by omega)
theorem firstAt_all {f : Nat → Int} : ∀ m k, (∀ j, k ≤ j → j < k + m → f j = 0) → firstAt f m k = (0, 0)
 | 0, k, h => rfl
 | m + 1, k, h => by
  unfold firstAt
  rw [if_neg (by rw [h k (by omega) (by omega)]; exact fun h => h rfl)]
  exact firstAt_all m (k + 1) (fun j h1 h2 => h j (by omega) (by omega))
theorem firstErr_cons {x : Int} {r : List Int} : firstErr (x :: r) = 0 ↔ x = 0 ∧ firstErr r = 0 := by
 show (if x = 0 then firstErr r else x) = 0 ↔ _
 split
 ·rename_i h; simp [h]
 ·rename_i h; simp [h]
theorem unl_eq_zero {b : Bool} {e : Int} (he : e ≠ 0) : unl b e = 0 ↔ b = true := by
 cases b <;> simp [unl, he]
/- Machines, limits, states and contacts, in plain words. No program in sight. -/
set_option linter.unusedSimpArgs false
structure Brn where
 tap : Int
 res : Int
deriving DecidableEq
structure Grd where
 c : Int
 cl : Bool
 ci : Int
 op : Int
deriving DecidableEq
structure Mac where
 br : List Brn
 st : Int
 gs : List Grd
deriving DecidableEq
structure Lim where
 volt : Int
 lo : Int
 hi : Int
 circ : Int
 brk : Int
 ret : Int
deriving DecidableEq
def bAt (l : List Brn) (k : Nat) : Brn := l.getD k ⟨0, 0⟩
def gAt (l : List Grd) (k : Nat) : Grd := l.getD k ⟨0, false, 0, 0⟩
def isS (n : Nat) (s : Int) : Bool := wi s 0 (2 ^ n - 1)
def staE (n : Nat) (s : Int) : Int := unl (isS n s) 2
def conE (n : Nat) (c : Int) : Int := unl (wi c 0 ((n : Int) - 1)) 6
def loaE (x : Int) : Int := unl (wi x (-1000) 1000) 2
def brnE (b : Brn) : Int := unl (wi b.tap 0 1 && wi b.res 0 10) 2
def grdE (n : Nat) (g : Grd) : Int := firstErr [conE n g.c, unl (isS n g.ci && isS n g.op) 2]
def macH (n : Nat) : Int := firstErr [unl (decide (0 < n)) 10, unl (decide ((n : Int) ≤ 6)) 8]
def macK (m : Mac) : Int := firstErr [staE m.br.length m.st, unl (decide ((m.gs.length : Int) ≤ 30)) 8]
def macE (m : Mac) : Int × Int :=
 if macH m.br.length ≠ 0 then (0, macH m.br.length)
 else if (firstAt (fun k => brnE (bAt m.br k)) m.br.length 0).2 ≠ 0 then firstAt (fun k => brnE (bAt m.br k)) m.br.length 0
 else if macK m ≠ 0 then (0, macK m)
 else firstAt (fun k => grdE m.br.length (gAt m.gs k)) m.gs.length 0
def limE (l : Lim) : Int := firstErr [unl (wi l.volt 0 1000 && wi l.lo (-1000) 1000 && wi l.hi (-1000) 1000) 2, unl (decide (l.lo ≤ l.hi)) 9, unl (wi l.circ 0 1000 && wi l.brk 0 1000 && wi l.ret 0 1000) 2]
structure MacV (m : Mac) : Prop where
 n0 : 0 < m.br.length
 n1 : m.br.length ≤ 6
 br : ∀ k, k < m.br.length → (0 ≤ (bAt m.br k).tap ∧ (bAt m.br k).tap ≤ 1) ∧ 0 ≤ (bAt m.br k).res ∧ (bAt m.br k).res ≤ 10
 st : 0 ≤ m.st ∧ m.st < 2 ^ m.br.length
 g1 : m.gs.length ≤ 30
 gs : ∀ k, k < m.gs.length → (0 ≤ (gAt m.gs k).c ∧ (gAt m.gs k).c < (m.br.length : Int)) ∧ (0 ≤ (gAt m.gs k).ci ∧ (gAt m.gs k).ci < 2 ^ m.br.length) ∧ 0 ≤ (gAt m.gs k).op ∧ (gAt m.gs k).op < 2 ^ m.br.length
theorem isS_iff {n : Nat} {s : Int} : isS n s = true ↔ 0 ≤ s ∧ s < 2 ^ n := by unfold isS; rw [wi_iff]; omega
theorem staE_zero {n : Nat} {s : Int} : staE n s = 0 ↔ 0 ≤ s ∧ s < 2 ^ n := by unfold staE; rw [unl_eq_zero (by decide), isS_iff]
theorem conE_zero {n : Nat} {c : Int} : conE n c = 0 ↔ 0 ≤ c ∧ c < (n : Int) := by unfold conE; rw [unl_eq_zero (by decide), wi_iff]; omega
theorem loaE_zero {x : Int} : loaE x = 0 ↔ -1000 ≤ x ∧ x ≤ 1000 := by unfold loaE; rw [unl_eq_zero (by decide), wi_iff]
theorem brnE_zero {b : Brn} : brnE b = 0 ↔ (0 ≤ b.tap ∧ b.tap ≤ 1) ∧ 0 ≤ b.res ∧ b.res ≤ 10 := by unfold brnE; rw [unl_eq_zero (by decide), Bool.and_eq_true, wi_iff, wi_iff]
theorem grdE_zero {n : Nat} {g : Grd} : grdE n g = 0 ↔ (0 ≤ g.c ∧ g.c < (n : Int)) ∧ (0 ≤ g.ci ∧ g.ci < 2 ^ n) ∧ 0 ≤ g.op ∧ g.op < 2 ^ n := by
 unfold grdE
 rw [firstErr_cons, firstErr_cons, conE_zero, unl_eq_zero (by decide), Bool.and_eq_true, isS_iff, isS_iff]
 constructor
 ·rintro ⟨a, b, _⟩; exact ⟨a, b⟩
 ·rintro ⟨a, b⟩; exact ⟨a, b, rfl⟩
theorem macE_zero {m : Mac} (h : (macE m).2 = 0) : macE m = (0, 0) ∧ MacV m := by
 unfold macE at h ⊢
 by_cases h1 : macH m.br.length ≠ 0
 ·rw [if_pos h1] at h; exact absurd h h1
 ·rw [if_neg h1] at h ⊢
  by_cases h2 : (firstAt (fun k => brnE (bAt m.br k)) m.br.length 0).2 ≠ 0
  ·rw [if_pos h2] at h; exact absurd h h2
  ·rw [if_neg h2] at h ⊢
   by_cases h3 : macK m ≠ 0
   ·rw [if_pos h3] at h; exact absurd h h3
   ·rw [if_neg h3] at h ⊢
    have h4 := (firstAt_none _ _ h)
    have h5 := (firstAt_none _ _ (Decidable.not_not.1 h2)).2
    have h1 := Decidable.not_not.1 h1
    have h3 := Decidable.not_not.1 h3
    unfold macH at h1
    unfold macK at h3
    rw [firstErr_cons, firstErr_cons, unl_eq_zero (by decide), unl_eq_zero (by decide), decide_eq_true_eq, decide_eq_true_eq] at h1
    rw [firstErr_cons, firstErr_cons, staE_zero, unl_eq_zero (by decide), decide_eq_true_eq] at h3
    exact ⟨h4.1, h1.1, by omega, fun k hk => brnE_zero.1 (h5 k (Nat.zero_le _) (by omega)), h3.1, by omega, fun k hk => grdE_zero.1 (h4.2 k (Nat.zero_le _) (by omega))⟩
theorem limE_zero {l : Lim} : limE l = 0 ↔ ((0 ≤ l.volt ∧ l.volt ≤ 1000) ∧ (-1000 ≤ l.lo ∧ l.lo ≤ l.hi ∧ l.hi ≤ 1000) ∧ (0 ≤ l.circ ∧ l.circ ≤ 1000) ∧ (0 ≤ l.brk ∧ l.brk ≤ 1000) ∧ 0 ≤ l.ret ∧ l.ret ≤ 1000) := by
 unfold limE
 rw [firstErr_cons, firstErr_cons, firstErr_cons, unl_eq_zero (by decide), unl_eq_zero (by decide), unl_eq_zero (by decide)]
 simp only [Bool.and_eq_true, wi_iff, decide_eq_true_eq]
 constructor
 ·rintro ⟨a, b, c, _⟩; omega
 ·intro h; exact ⟨by omega, by omega, by omega, rfl⟩
def grdB (s i : Nat) (g : Grd) : Bool := decide (g.c = (i : Int)) && decide (g.cl ≠ s.testBit i) && decide (g.ci.toNat &&& s = g.ci.toNat) && decide (g.op.toNat &&& s = 0)
def mayB (m : Mac) (s i : Nat) : Bool := m.gs.any (grdB s i)
def movL (m : Mac) (s : Nat) : List Nat := (List.range m.br.length).filter (mayB m s)
def trn (s i : Nat) : Nat := s ^^^ 2 ^ i
/- A region that draws its order, whose first n operations are quiet in a class of worlds (a callee may make memory) and whose last ones are a forced chain: one walk of the text's order serves. My own joining of two theorems of the library (a quiet region; a still region with a tail). -/
section
variable {P : Program} {ops : Array Oper} {md : Region.Mode} {C : World → Prop}
def headQ (P : Program) (md : Region.Mode) (ops : Array Oper) (C : World → Prop) (n : Nat) (L : Array Bool → Act → Prop) : Nat → Array Bool → Act → Prop
 | 0, listed, a => L listed a
 | f + 1, listed, a => Region.ready md ops listed ≠ [] ∧ ∀ i ∈ Region.ready md ops listed, i < n ∧ qOp P ops C i (headQ P md ops C n L f (listed.setIfInBounds i true)) a
theorem any_of_headQ {n g : Nat} {L : Array Bool → Act → Prop} {Q' : Exit → Act → World → Prop} (hL : ∀ listed a w, C w → L listed a → wpAny P md ops Q' g listed a w) :
    ∀ (f : Nat) (listed : Array Bool) (a : Act) (w : World), C w → headQ P md ops C n L f listed a → wpAny P md ops Q' (f + g) listed a w
 | 0, listed, a, w, hw, h => by rw [Nat.zero_add]; exact hL _ _ _ hw h
 | f + 1, listed, a, w, hw, h => by
  rw [show f + 1 + g = (f + g) + 1 by omega]
  exact ⟨fun h0 => absurd h0 h.1, fun i hi => wpOp_of_qOp hw (fun a' w' hw' h' => any_of_headQ hL f _ a' w' hw' h') (h.2 i hi).2⟩
theorem headQ_first {n i : Nat} {oi : Oper} {v : Value} {L : Array Bool → Act → Prop} (hi : ops[i]? = some oi) (hsel : ∀ (j : Nat) (o : Oper) cs b, ops[j]? = some o → o.op ≠ .select cs b)
    (hs : Region.sinkB md ops n = true) (hc : Region.chainB md ops n = true) (hn : n < ops.size) (hin : i < n)
    (hdone : ∀ listed a, L listed a → ∀ j ∈ Region.ready md ops listed, n ≤ j) :
    ∀ (f : Nat) (listed : Array Bool) (a : Act), HeadInv md ops n listed →
     (∀ j oj, ops[j]? = some oj → j ≠ i → listed.getD j true = false → (∀ e ∈ oj.after, Region.binds md e = true → e.on ≠ i) → oi.apart ops oj = true) →
     i ∈ Region.ready md ops listed → YieldsIn P ops C oi v a →
     headQ P md ops C n L f (listed.setIfInBounds i true) (a.put oi.dst v) → headQ P md ops C n L (f + 1) listed a := by
 intro f
 induction f with
 | zero =>
  intro listed a inv _ hr hy H
  have hun := (mem_ready.1 hr).1
  refine ⟨fun h => (by rw [h] at hr; cases hr), fun j hj => ?_⟩
  have hjn : j < n := by
   rcases Nat.lt_or_ge j n with h | h
   ·exact h
   ·exact absurd hj (tail_waits hs hc hn inv _ i rfl hin hun j h)
  refine ⟨hjn, ?_⟩
  by_cases hji : j = i
  ·subst hji; exact hy.qOp hi H
  ·have := hdone _ _ H j (ready_mono hj hji)
   omega
 | succ f ih =>
  intro listed a inv hfree hr hy H
  have hun := (mem_ready.1 hr).1
  refine ⟨fun h => (by rw [h] at hr; cases hr), fun j hj => ?_⟩
  have hjn : j < n := by
   rcases Nat.lt_or_ge j n with h | h
   ·exact h
   ·exact absurd hj (tail_waits hs hc hn inv _ i rfl hin hun j h)
  refine ⟨hjn, ?_⟩
  by_cases hji : j = i
  ·subst hji; exact hy.qOp hi H
  ·have h1 := (H.2 j (ready_mono hj hji)).2
   obtain ⟨hjun, oj, hoj, hall⟩ := mem_ready.1 hj
   have hnot : ∀ e ∈ oj.after, Region.binds md e = true → e.on ≠ i := fun e he hb heq => by
    have h1 := hall e he hb
    rw [heq, getD_both hun] at h1
    cases h1
   have h2 := qOp_put hoj (hfree j oj hoj hji hjun hnot) (fun cs b => hsel i oi cs b hi) (fun cs b => hsel j oj cs b hoj) hy h1
   have hfree' : ∀ k ok, ops[k]? = some ok → k ≠ i → (listed.setIfInBounds j true).getD k true = false →
       (∀ e ∈ ok.after, Region.binds md e = true → e.on ≠ i) → oi.apart ops ok = true := fun k ok hk hki hun' hno => by
    refine hfree k ok hk hki ?_ hno
    by_cases hjk : j = k
    ·subst hjk; exact hjun
    ·rw [getD_set_ne true hjk] at hun'; exact hun'
   refine qOp_mono (fun a' h3 => ih (listed.setIfInBounds j true) a' (inv.set hj hjn) hfree' (ready_mono hr (Ne.symm hji)) h3.1 ?_) h2
   rw [Array.setIfInBounds_comm _ _ hji]
   exact h3.2
theorem headQ_lex {n g : Nat} {Lq : Act → Prop} (hsel : Region.noSelect ops = true) (hs : Region.sinkB md ops n = true) (hc : Region.chainB md ops n = true) (hn : n < ops.size) :
    ∀ (l : List Oper) (k : Nat) (listed : Array Bool) (a : Act), (∀ j, j < l.length → l[j]? = ops[k + j]?) → k + l.length = n → HeadInv md ops n listed →
    Region.lexHead md ops g l.length k listed = true → wpQuiet P ops C Lq l a →
    headQ P md ops C n (fun listed' a' => Region.seqB md ops g n listed' = true ∧ Lq a') l.length listed a
 | [], k, listed, a, _, hk, _, hB, h => by
  have : k = n := by simpa using hk
  subst this
  exact ⟨by simpa [Region.lexHead] using hB, h⟩
 | o :: l, k, listed, a, hl, hk, inv, hB, h => by
  have h0 : ops[k]? = some o := by simpa using (hl 0 (by simp)).symm
  simp only [List.length_cons, Region.lexHead, Bool.and_eq_true] at hB
  obtain ⟨⟨hr, hf⟩, hB'⟩ := hB
  have hkn : k < n := by simp only [List.length_cons] at hk; omega
  have hr' : k ∈ Region.ready md ops listed := by simpa using hr
  have hst : qOp P ops C k (wpQuiet P ops C Lq l) a := by unfold qOp; simp only [h0]; exact h
  obtain ⟨v, hy, hK⟩ := yieldsIn_of_qOp h0 hst
  exact headQ_first h0 (Region.noSelect_spec hsel) hs hc hn hkn (fun listed' a' hL => seqB_ready hL.1) l.length listed a inv (Region.free_spec h0 hf) hr' hy
   (headQ_lex hsel hs hc hn l (k + 1) _ _ (fun j hj => by have := hl (j + 1) (by simp; omega); simpa [Nat.add_assoc, Nat.add_comm 1 j] using this) (by simp only [List.length_cons] at hk; omega) (inv.set hr' hkn) hB' hK)
theorem wp_region_quiet_tail {id : Nat} {Q : Exit → Act → World → Prop} {a : Act} {w : World} {l : List Oper} (n : Nat) (C : World → Prop) (hm : P.follows .mixedOrders = true) (hB : Region.lexTailB .any l.toArray n = true) (hC : C w.drew)
    (h : wpQuiet P l.toArray C (fun a' => ∀ w', C w' → wpList P l.toArray Q (l.drop n) a' w') (l.take n) a) : (Code.region id l.toArray true).wp P Q a w := by
 simp only [Region.lexTailB, Bool.and_eq_true, decide_eq_true_eq] at hB
 obtain ⟨⟨⟨⟨hsel, hn⟩, hs⟩, hc⟩, hlex⟩ := hB
 have hn' : n < l.length := by simpa using hn
 have htl : (l.take n).length = n := by simp; omega
 have hdl : (l.drop n).length = l.toArray.size - n := by simp
 have inv0 : HeadInv .any l.toArray n (Array.replicate l.toArray.size false) :=
  ⟨by simp, fun j oj _ hl => (by rw [getD_replicate_false] at hl; cases hl), fun t _ ht => getD_in (by simpa using ht) (getD_replicate_false _ _)⟩
 have H := headQ_lex (md := .any) (C := C) (g := l.toArray.size - n) hsel hs hc hn (l.take n) 0 _ a (fun j hj => by
  have hj' : j < n := by rw [htl] at hj; exact hj
  simp [hj']) (by simpa using htl) inv0 (by rw [htl]; exact hlex) h
 refine wp_region_any hm ?_
 have := any_of_headQ (Q' := Q) (g := l.toArray.size - n) (fun listed a' w' hw' hL => by
  have := wpAny_of_seq (md := .any) (Q' := Q) (l.drop n) n listed a' w' (fun j => by simp [List.getElem?_drop]) (by rw [hdl]; exact hL.1) (hL.2 w' hw')
  rwa [hdl] at this) _ _ _ _ hC H
 rw [htl, show n + (l.toArray.size - n) = l.toArray.size by omega] at this
 exact this
end
structure Later (w0 : World) where
 world : World
 below : Below w0.heap.size w0 world
instance later_nonempty (w0 : World) : Nonempty (Later w0) := ⟨⟨w0, Below.refl _ _⟩⟩
theorem Later.cell {w0 : World} (u : Later w0) (a : Addr) (h : (w0.cell? a).isSome = true) : u.world.cell? a = w0.cell? a := by
 obtain ⟨v, hv⟩ := Option.isSome_iff_exists.1 h
 exact u.below.cell (World.block_lt_of_cell? w0 a hv)
theorem Later.frozen {w0 : World} (u : Later w0) (a : Addr) (h : (w0.cell? a).isSome = true) : u.world.frozen? a = w0.frozen? a := by
 obtain ⟨v, hv⟩ := Option.isSome_iff_exists.1 h
 exact u.below.frozen (World.block_lt_of_cell? w0 a hv)
attribute [go_sem] Later.cell Later.frozen
theorem calls_later {P : Program} {f : FuncId} {args : Array Value} {w0 : World} {u : Later w0} {v : Value}
    (h : Calls P f args u.world fun e w' => e = .returned v ∧ Below u.world.heap.size u.world w') : Calls P f args u.world fun e w'' => e = .returned v ∧ ∃ u' : Later w0, w'' = u'.world :=
 h.mono fun _ w' ⟨he, hb⟩ => ⟨he, ⟨w', u.below.trans (hb.mono u.below.size)⟩, rfl⟩
theorem calls_later_same {P : Program} {f : FuncId} {args : Array Value} {w0 : World} {u : Later w0} {v : Value}
    (h : Calls P f args u.world fun e w' => e = .returned v ∧ u.world = w') : Calls P f args u.world fun e w'' => e = .returned v ∧ ∃ u' : Later w0, w'' = u'.world :=
 h.mono fun _ _ ⟨he, hb⟩ => ⟨he, u, hb.symm⟩
theorem wpQuiet_mono {P : Program} {ops : Array Oper} {C : World → Prop} {Q Q' : Act → Prop} (h : ∀ a, Q a → Q' a) : ∀ (l : List Oper) (a : Act), wpQuiet P ops C Q l a → wpQuiet P ops C Q' l a
 | [], a, hh => h a hh
 | o :: l, a, hh => by
  unfold wpQuiet at hh ⊢
  split
  ·rename_i hw; rw [if_pos hw] at hh; exact Oper.quiet_mono (fun a' => wpQuiet_mono h l a') hh
  ·rename_i hw; rw [if_neg hw] at hh; exact wpQuiet_mono h l _ hh
theorem later_of_eq {P : Program} {id : Nat} {Q : Exit → Act → World → Prop} {a : Act} {w : World} {l : List Oper} (n : Nat) (hm : P.follows .mixedOrders = true) (hB : Region.lexTailB .any l.toArray n = true)
    (h : wpQuiet P l.toArray (fun w' => ∃ u : Later w, w' = u.world) (fun a' => ∀ w', Below w.heap.size w w' → wpList P l.toArray Q (l.drop n) a' w') (l.take n) a) : (Code.region id l.toArray true).wp P Q a w :=
 wp_region_quiet_tail n (fun w' => ∃ u : Later w, w' = u.world) hm hB ⟨⟨_, (Below.refl _ _).drew⟩, rfl⟩ (wpQuiet_mono (fun a' hh w' hw' => by obtain ⟨u, rfl⟩ := hw'; exact hh _ u.below) _ _ h)
theorem later_all {P : Program} {id : Nat} {Q : Exit → Act → World → Prop} {a : Act} {w : World} {l : List Oper} (hm : P.follows .mixedOrders = true) (hB : Region.lexB .any l.toArray = true)
    (h : wpQuiet P l.toArray (fun w' => ∃ u : Later w, w' = u.world) (fun a' => ∀ w', Below w.heap.size w w' → Q .normal a' w') l a) : (Code.region id l.toArray true).wp P Q a w :=
 wp_region_quiet (C := fun w' => ∃ u : Later w, w' = u.world) hm hB ⟨⟨_, (Below.refl _ _).drew⟩, rfl⟩ (wpQuiet_mono (fun a' hh w' hw' => by obtain ⟨u, rfl⟩ := hw'; exact hh _ u.below) _ _ (by simpa using h))
theorem drew_of_eq {P : Program} {id : Nat} {Q : Exit → Act → World → Prop} {a : Act} {w : World} {l : List Oper} (n : Nat) (hm : P.follows .mixedOrders = true) (hB : Region.lexTailB .any l.toArray n = true)
    (h : wpQuiet P l.toArray (fun w' => ∃ n, w' = w.drewN n) (fun a' => ∀ m, wpList P l.toArray Q (l.drop n) a' (w.drewN m)) (l.take n) a) : (Code.region id l.toArray true).wp P Q a w :=
 wp_region_quiet_tail n (fun w' => ∃ n, w' = w.drewN n) hm hB ⟨1, rfl⟩ (wpQuiet_mono (fun a' hh w' hw' => by obtain ⟨m, rfl⟩ := hw'; exact hh m) _ _ h)
end Go.Proofs.YtdjinmieogpgcaaGreat
