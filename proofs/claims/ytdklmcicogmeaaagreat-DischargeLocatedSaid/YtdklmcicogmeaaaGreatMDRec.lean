import Derived.OrdersHeld
import Derived.Test.YtdklmcicogmeaaaGreatMDSub
import Derived.Test.YtdklmcicogmeaaaGreatMQTail
/- Records of three integers (pulses, sections, changes), and of five (sensors), in memory. No program in sight. -/
namespace Go.Proofs.YtdklmcicogmeaaaGreat
open Go.RowKit
set_option linter.unusedVariables false

structure T3 where
  x : Int
  y : Int
  z : Int
  deriving DecidableEq
def e3 (p : T3) : List Value := [.int .i64 p.x, .int .i64 p.y, .int .i64 p.z]
theorem e3_len (p : T3) : (e3 p).length = 3 := rfl
theorem e3_one (p : T3) : ∀ u ∈ e3 p, u.oneCell' = true := fun u hu => by
  simp only [e3, List.mem_cons, List.not_mem_nil, or_false] at hu
  rcases hu with rfl | rfl | rfl <;> rfl
def T3R (w : World) (a : Option Addr) (n : Nat) (l : List T3) : Prop := ER e3 3 w a n l
theorem T3R.below {w w' : World} {a : Option Addr} {n : Nat} {l : List T3} (h : T3R w a n l) (hb : Below w.heap.size w w') : T3R w' a n l := ER.below h hb
theorem T3R.len {w : World} {a : Option Addr} {n : Nat} {l : List T3} (h : T3R w a n l) : l.length = n := h.1
theorem T3R.small {w : World} {a : Option Addr} {n : Nat} {l : List T3} (h : T3R w a n l) : n ≤ 9223372036854775807 := ER.small h
theorem T3R.addr {w : World} {a : Option Addr} {n : Nat} {l : List T3} (h : T3R w a n l) (hn : 0 < n) :
    ∃ b o, a = some ⟨b, o, none⟩ ∧ b < w.heap.size ∧ ∀ i p, l[i]? = some p → w.cell? ⟨b, o + i * 3, none⟩ = some (.int .i64 p.x) ∧ w.cell? ⟨b, o + i * 3 + 1, none⟩ = some (.int .i64 p.y) ∧ w.cell? ⟨b, o + i * 3 + 2, none⟩ = some (.int .i64 p.z) := by
  obtain ⟨b, o, ha, hb, hc⟩ := ER.addr e3_len h hn
  refine ⟨b, o, ha, hb, fun i p hp => ?_⟩
  have h0 := hc i p hp 0 (by omega)
  have h1 := hc i p hp 1 (by omega)
  have h2 := hc i p hp 2 (by omega)
  simp only [← Nat.add_assoc, Nat.add_zero] at h0 h1 h2
  exact ⟨h0, h1, h2⟩
theorem e3_inj (p q : T3) (h : e3 p = e3 q) : p = q := by
  obtain ⟨a, b, c⟩ := p
  obtain ⟨d, e, f⟩ := q
  simp [e3] at h
  obtain ⟨rfl, rfl, rfl⟩ := h
  rfl
/-- A sensor: its position, the range of its times. -/
structure Sen where
  x : Int
  y : Int
  z : Int
  lo : Int
  hi : Int
  deriving DecidableEq
def e5 (p : Sen) : List Value := [.int .i64 p.x, .int .i64 p.y, .int .i64 p.z, .int .i64 p.lo, .int .i64 p.hi]
theorem e5_len (p : Sen) : (e5 p).length = 5 := rfl
theorem e5_one (p : Sen) : ∀ u ∈ e5 p, u.oneCell' = true := fun u hu => by
  simp only [e5, List.mem_cons, List.not_mem_nil, or_false] at hu
  rcases hu with rfl | rfl | rfl | rfl | rfl <;> rfl
def SenR (w : World) (a : Option Addr) (n : Nat) (l : List Sen) : Prop := ER e5 5 w a n l
theorem SenR.below {w w' : World} {a : Option Addr} {n : Nat} {l : List Sen} (h : SenR w a n l) (hb : Below w.heap.size w w') : SenR w' a n l := ER.below h hb
theorem SenR.len {w : World} {a : Option Addr} {n : Nat} {l : List Sen} (h : SenR w a n l) : l.length = n := h.1
theorem SenR.small {w : World} {a : Option Addr} {n : Nat} {l : List Sen} (h : SenR w a n l) : n ≤ 9223372036854775807 := ER.small h
theorem SenR.addr {w : World} {a : Option Addr} {n : Nat} {l : List Sen} (h : SenR w a n l) (hn : 0 < n) :
    ∃ b o, a = some ⟨b, o, none⟩ ∧ b < w.heap.size ∧ ∀ i p, l[i]? = some p → w.cell? ⟨b, o + i * 5, none⟩ = some (.int .i64 p.x) ∧ w.cell? ⟨b, o + i * 5 + 1, none⟩ = some (.int .i64 p.y) ∧ w.cell? ⟨b, o + i * 5 + 2, none⟩ = some (.int .i64 p.z) ∧ w.cell? ⟨b, o + i * 5 + 3, none⟩ = some (.int .i64 p.lo) ∧ w.cell? ⟨b, o + i * 5 + 4, none⟩ = some (.int .i64 p.hi) := by
  obtain ⟨b, o, ha, hb, hc⟩ := ER.addr e5_len h hn
  refine ⟨b, o, ha, hb, fun i p hp => ?_⟩
  have h0 := hc i p hp 0 (by omega)
  have h1 := hc i p hp 1 (by omega)
  have h2 := hc i p hp 2 (by omega)
  have h3 := hc i p hp 3 (by omega)
  have h4 := hc i p hp 4 (by omega)
  simp only [← Nat.add_assoc, Nat.add_zero] at h0 h1 h2 h3 h4
  exact ⟨h0, h1, h2, h3, h4⟩
theorem e5_inj (p q : Sen) (h : e5 p = e5 q) : p = q := by
  obtain ⟨a, b, c, d, e⟩ := p
  obtain ⟨a', b', c', d', e'⟩ := q
  simp [e5] at h
  obtain ⟨rfl, rfl, rfl, rfl, rfl⟩ := h
  rfl
/-- A literal block of records. -/
theorem ER.lit {α : Type} {enc : α → List Value} {k : Nat} (hk : ∀ x, (enc x).length = k) (w0 w : World) (l : List α) (cs : List Value) (t B n : Nat) (hw : w.heap = (w0.alloc (.cells cs.toArray t)).heap) (hB : B = w0.heap.size) (hcs : cs = ecells enc l) (hl : l.length = n) (hn : n ≤ 1000) : ER enc k w (some ⟨B, 0, none⟩) n l :=
  ⟨hl, hcs ▸ SlR.lit w0 w cs t B n k hw hB (by rw [hcs, ecells_len hk, hl]) hn⟩
theorem drop_cons' {α : Type} {l : List α} {k : Nat} {x : α} (h : l[k]? = some x) : l.drop k = x :: l.drop (k + 1) := by
  obtain ⟨h1, h2⟩ := List.getElem?_eq_some_iff.1 h
  rw [List.drop_eq_getElem_cons h1, h2]
end Go.Proofs.YtdklmcicogmeaaaGreat

/- A region that draws its order, by a schedule: first the operations that only read (in the class S of worlds they yield one value and leave the world alone), then the others in the one order that is left, S shown anew behind each. -/
namespace Go.Proofs.YtdklmcicogmeaaaGreat
open Go.RowKit

/-- Operations that hand a value on and enter nothing. -/
def plainOp (o : Oper) : Bool :=
  match o.op with
  | .move _ | .assign _ | .pick _ _ _ | .load _ _ | .binOp _ _ _ _ _ | .unOp _ _ _ | .fieldAddr _ _ _ | .field _ _ _ | .indexAddr _ _ _ | .index _ _ _ | .extract _ _ | .convert _ _ _ | .build _ _ => true
  | .call c => match c.callee with | .builtin .len | .builtin .cap => true | _ => false
  | _ => false

theorem value_run {P : Program} {w : World} (s : Sem Value) (n : Next) (w' : World) (h : (do pure (Next.value (← s)) : Sem Next).run P w = .ok n w') : ∃ v, n = .value v := by
  have : ((s >>= fun v => pure (Next.value v)) : Sem Next).run P w = .ok n w' := h
  rw [Sem.run_bind] at this
  cases hs : s.run P w with
  | ok v w1 => rw [hs] at this; simp [Result.andThen] at this; exact ⟨v, this.1.symm⟩
  | halt x w1 => rw [hs] at this; simp [Result.andThen] at this

theorem plain_value {P : Program} {o : Oper} {ρ : Operand → Value} {w w' : World} {n : Next} (hp : plainOp o = true) (h : (execOp ρ o).run P w = .ok n w') : ∃ v, n = .value v := by
  obtain ⟨dst, op, ty, pos, aft, g⟩ := o
  cases op <;> simp only [plainOp] at hp <;> first | (cases hp; done) | skip
  all_goals first
    | exact value_run _ _ _ h
    | (simp [execOp] at h; exact ⟨_, h.1.symm⟩)
    | skip
  · rename_i c a b
    have h' : ((asBool (ρ c) >>= fun x => pure (Next.value (if x then ρ a else ρ b))) : Sem Next).run P w = .ok n w' := h
    rw [Sem.run_bind] at h'
    cases hs : (asBool (ρ c)).run P w with
    | ok v w1 => rw [hs] at h'; simp [Result.andThen] at h'; exact ⟨_, h'.1.symm⟩
    | halt x w1 => rw [hs] at h'; simp [Result.andThen] at h'
  · rename_i c
    obtain ⟨callee, args, ats⟩ := c
    cases callee with
    | builtin b =>
      cases b <;> first | (cases hp; done) | skip
      · rw [BigFrame.execOp_builtin, BigFrame.builtin_cap] at h; exact value_run _ _ _ h
      · rw [BigFrame.execOp_builtin, BigFrame.builtin_len] at h; exact value_run _ _ _ h
    | _ => cases hp

section
variable {P : Program} {ops : Array Oper} {md : Region.Mode} {S : World → Prop}

/-- The schedule: the operations of 'hs' may each be taken first; those of 'ts' then come in this order and in no other. -/
def tailB (md : Region.Mode) (ops : Array Oper) : List Nat → Array Bool → Bool
  | [], listed => decide (Region.ready md ops listed = [])
  | t :: ts, listed => decide (Region.ready md ops listed = [t]) && tailB md ops ts (listed.setIfInBounds t true)
def schedB (md : Region.Mode) (ops : Array Oper) (ts : List Nat) : List Nat → Array Bool → Bool
  | [], listed => tailB md ops ts listed
  | h :: hs, listed => (Region.ready md ops listed).contains h && Region.free md ops listed h && (match ops[h]? with | some o => plainOp o | none => false) && schedB md ops ts hs (listed.setIfInBounds h true)

/-- What the tail's operations are walked towards. -/
def tailQ (S : World → Prop) (Q : Exit → Act → World → Prop) (K : Act → World → Prop) : Exit → Act → World → Prop
  | .normal, a, w => S w ∧ K a w
  | .panic _, _, _ => False
  | e, a, w => Q e a w
theorem tailQ_mk {Q : Exit → Act → World → Prop} {K : Act → World → Prop} {a : Act} {w : World} (hs : S w) (hk : K a w) : tailQ S Q K .normal a w := ⟨hs, hk⟩

def wpTail (P : Program) (ops : Array Oper) (S : World → Prop) (Q : Exit → Act → World → Prop) : List Oper → Act → World → Prop
  | [], a, w => Q .normal a w
  | o :: r, a, w => wpList P ops (tailQ S Q (wpTail P ops S Q r)) [o] a w

theorem letsOut_tailQ {Q : Exit → Act → World → Prop} {K : Act → World → Prop} (h : LetsOut (tailQ S Q K)) : LetsOut (NoPanic Q) := h

theorem wpOp_of_tail {Q : Exit → Act → World → Prop} {K : Act → World → Prop} {i : Nat} {o : Oper} (ho : ops[i]? = some o) {a : Act} {w : World}
    (h : wpList P ops (tailQ S Q K) [o] a w) : wpOp P ops (NoPanic Q) i (fun a' w' => S w' ∧ K a' w') a w := by
  unfold wpOp
  simp only [ho]
  unfold wpList at h
  split
  · rename_i hw
    rw [if_pos hw] at h
    rcases h with h | h
    · refine .inl ?_
      unfold Oper.wp at *
      generalize (execOp a.eval o).run P w = r at *
      cases r with
      | ok n w' =>
        cases n <;> simp only [Oper.upon] at h ⊢
        case value u => exact h
        case skip => exact h
        case defer d => exact h
        case enter f args =>
          refine h.mono fun e w'' hh => ?_
          cases e with
          | returned v => exact hh
          | panicked chain => exact hh.elim
          | outgrown => exact letsOut_tailQ hh
        case row r args => exact h
      | halt x w' => cases x <;> simp only [Oper.upon] at h ⊢ <;> exact h.elim
    · exact .inr ⟨h.1, letsOut_tailQ h.2⟩
  · rename_i hw
    rw [if_neg hw] at h
    exact h

theorem yieldsIf_of_in {o : Oper} {v : Value} {a : Act} (hp : plainOp o = true) (h : YieldsIn P ops S o v a) : YieldsIf P ops S o v a := by
  rcases h with ⟨hw, hv⟩ | h
  · refine .inl ⟨hw, fun w hS => ?_⟩
    have h1 := hv w hS
    unfold Oper.quietAt at h1
    cases hr : (execOp a.eval o).run P w with
    | ok n w' =>
      obtain ⟨u, rfl⟩ := plain_value hp hr
      rw [hr] at h1
      simp only [Oper.quietUpon] at h1
      rw [h1.1, h1.2]
    | halt x w' => rw [hr] at h1; simp only [Oper.quietUpon] at h1
  · exact .inr h

theorem tail_anyH {Q : Exit → Act → World → Prop} : ∀ (ts : List Nat) (listed : Array Bool) (a : Act) (w : World), tailB md ops ts listed = true → (∀ t ∈ ts, t < ops.size) →
    wpTail P ops S Q (ts.filterMap (ops[·]?)) a w → wpAnyH P md ops (NoPanic Q) S ts.length listed a w
  | [], listed, a, w, hB, _, h => by
    simp only [tailB, decide_eq_true_eq] at hB
    exact ⟨hB, h⟩
  | t :: ts, listed, a, w, hB, hlt, h => by
    simp only [tailB, Bool.and_eq_true, decide_eq_true_eq] at hB
    have ht := hlt t (by simp)
    have ho : ops[t]? = some ops[t] := by simp [ht]
    rw [List.filterMap_cons_some ho] at h
    refine wpAnyH_all hB.1 (by simp) (fun i hi => ?_)
    have hit : i = t := by simpa using hi
    subst hit
    refine wpOp_mono (fun a' w' hh => ⟨hh.1, ?_⟩) (wpOp_of_tail ho h)
    exact tail_anyH ts _ a' w' hB.2 (fun x hx => hlt x (by simp [hx])) hh.2

theorem head_anyH {Q : Exit → Act → World → Prop} (hsel : Region.noSelect ops = true) (ts : List Nat) (hlt : ∀ t ∈ ts, t < ops.size) : ∀ (hs : List Nat) (listed : Array Bool) (a : Act) (w : World), schedB md ops ts hs listed = true → (∀ t ∈ hs, t < ops.size) → S w →
    wpQuiet P ops S (fun a' => wpTail P ops S Q (ts.filterMap (ops[·]?)) a' w) (hs.filterMap (ops[·]?)) a → wpAnyH P md ops (NoPanic Q) S (hs.length + ts.length) listed a w
  | [], listed, a, w, hB, _, hS, h => by
    rw [List.length_nil, Nat.zero_add]
    exact tail_anyH ts listed a w (by simpa only [schedB] using hB) hlt h
  | x :: hs, listed, a, w, hB, hl, hS, h => by
    simp only [schedB, Bool.and_eq_true] at hB
    have hx := hl x (by simp)
    have ho : ops[x]? = some ops[x] := by simp [hx]
    rw [List.filterMap_cons_some ho] at h
    rw [ho] at hB
    have hst : qOp P ops S x (wpQuiet P ops S (fun a' => wpTail P ops S Q (ts.filterMap (ops[·]?)) a' w) (hs.filterMap (ops[·]?))) a := by unfold qOp; simp only [ho]; exact h
    obtain ⟨v, hy, hK⟩ := yieldsIn_of_qOp ho hst
    rw [List.length_cons, show hs.length + 1 + ts.length = (hs.length + ts.length) + 1 by omega]
    exact wpAnyH_take ho hsel hB.1.1.2 hB.1.1.1 (fun _ _ _ h => h.elim) (yieldsIf_of_in hB.1.2 hy) hS (head_anyH hsel ts hlt hs _ _ w hB.2 (fun y hy => hl y (by simp [hy])) hS hK)

def schedOk (ops : Array Oper) (hs ts : List Nat) : Bool :=
  Region.noSelect ops && decide (hs.length + ts.length = ops.size) && hs.all (· < ops.size) && ts.all (· < ops.size) && schedB .any ops ts hs (Array.replicate ops.size false)

/-- The theorem, over operations that are written out. -/
theorem wp_region_sched {id : Nat} {Q : Exit → Act → World → Prop} {a : Act} {w : World} {l : List Oper} (hs ts : List Nat) (S : World → Prop) (hm : P.follows .mixedOrders = true) (hB : schedOk l.toArray hs ts = true) (hS : S w.drew)
    (h : wpQuiet P l.toArray S (fun a' => wpTail P l.toArray S Q (ts.filterMap (l[·]?)) a' w.drew) (hs.filterMap (l[·]?)) a) : (Code.region id l.toArray true).wp P Q a w := by
  simp only [schedOk, Bool.and_eq_true, decide_eq_true_eq, List.all_eq_true] at hB
  obtain ⟨⟨⟨⟨h1, h2⟩, h3⟩, h4⟩, h5⟩ := hB
  refine wp_region_noPanic (wp_region_held (S := S) hm ?_)
  rw [← h2] at h5 ⊢
  exact head_anyH h1 ts (fun t ht => by simpa using h4 t ht) hs _ a _ h5 (fun t ht => by simpa using h3 t ht) hS (by simpa using h)
end

/-- A world in which w0's blocks below B stand as they were. -/
structure LaterB (B : Nat) (w0 : World) where
  world : World
  below : Below B w0 world
instance laterB_nonempty (B : Nat) (w0 : World) : Nonempty (LaterB B w0) := ⟨⟨w0, Below.refl _ _⟩⟩
theorem LaterB.cell {B : Nat} {w0 : World} (u : LaterB B w0) (b o : Nat) (h : b < B) : u.world.cell? ⟨b, o, none⟩ = w0.cell? ⟨b, o, none⟩ := u.below.cell (p := ⟨b, o, none⟩) h
attribute [go_sem] LaterB.cell

section
variable {P : Program} {B : Nat}
theorem wp_region_laterB {id : Nat} {Q : Exit → Act → World → Prop} {a : Act} {w : World} {l : List Oper} (hs ts : List Nat) (hm : P.follows .mixedOrders = true) (hB : schedOk l.toArray hs ts = true)
    (h : wpQuiet P l.toArray (fun w' => ∃ u : LaterB B w, w' = u.world) (fun a' => wpTail P l.toArray (fun w' => ∃ u : LaterB B w, w' = u.world) Q (ts.filterMap (l[·]?)) a' w.drew) (hs.filterMap (l[·]?)) a) : (Code.region id l.toArray true).wp P Q a w :=
  wp_region_sched hs ts _ hm hB ⟨⟨_, (Below.refl B w).drew⟩, rfl⟩ h
theorem wpTail_cons {ops : Array Oper} {S : World → Prop} {Q : Exit → Act → World → Prop} {o : Oper} {r : List Oper} {a : Act} {w : World} (h : wpList P ops (tailQ S Q (wpTail P ops S Q r)) [o] a w) : wpTail P ops S Q (o :: r) a w := h
theorem wpTail_nil {ops : Array Oper} {S : World → Prop} {Q : Exit → Act → World → Prop} {a : Act} {w : World} (h : Q .normal a w) : wpTail P ops S Q [] a w := h
theorem tailL_mk {Q : Exit → Act → World → Prop} {K : Act → World → Prop} {a : Act} {w w' : World} (hs : Below B w w') (hk : K a w') : tailQ (fun w' => ∃ u : LaterB B w, w' = u.world) Q K .normal a w' := ⟨⟨⟨w', hs⟩, rfl⟩, hk⟩
end
/-- w' has w's cells in all blocks below B, but for the block b0. -/
def SameX (B b0 : Nat) (w w' : World) : Prop := ∀ b o, b < B → b ≠ b0 → w'.cell? ⟨b, o, none⟩ = w.cell? ⟨b, o, none⟩
theorem SameX.of_below {B b0 : Nat} {w w' : World} (h : Below B w w') : SameX B b0 w w' := fun b o hb _ => h.cell (p := ⟨b, o, none⟩) hb
theorem SameX.set {B b0 o : Nat} {w w' : World} (h : SameX B b0 w w') (v : Value) : SameX B b0 w (w'.setCell ⟨b0, o, none⟩ v) := fun b o' hb hne => by
  rw [World.cell?_setCell_other _ ⟨b0, o, none⟩ ⟨b, o', none⟩ _ (by first | (simp; done) | (simp; exact fun h => absurd h hne))]; exact h b o' hb hne
theorem SameX.above {B b0 b1 o : Nat} {w w' : World} (h : SameX B b0 w w') (h1 : B ≤ b1) (v : Value) : SameX B b0 w (w'.setCell ⟨b1, o, none⟩ v) := fun b o' hb hne => by
  rw [World.cell?_setCell_other _ ⟨b1, o, none⟩ ⟨b, o', none⟩ _ (by first | (simp; done) | (simp; omega))]; exact h b o' hb hne
theorem SameX.drew {B b0 : Nat} {w w' : World} (h : SameX B b0 w w') : SameX B b0 w w'.drew := h
structure LaterX (B b0 : Nat) (w0 : World) where
  world : World
  same : SameX B b0 w0 world
instance laterX_nonempty (B b0 : Nat) (w0 : World) : Nonempty (LaterX B b0 w0) := ⟨⟨w0, fun _ _ _ _ => rfl⟩⟩
/-- The block b is one of those that stand. -/
def OkB (b B b0 : Nat) : Prop := b < B ∧ b ≠ b0
theorem LaterX.cell {B b0 : Nat} {w0 : World} (u : LaterX B b0 w0) (b o : Nat) (h : OkB b B b0) : u.world.cell? ⟨b, o, none⟩ = w0.cell? ⟨b, o, none⟩ := u.same b o h.1 h.2
attribute [go_sem] LaterX.cell
theorem wp_region_laterX {P : Program} {B b0 : Nat} {id : Nat} {Q : Exit → Act → World → Prop} {a : Act} {w : World} {l : List Oper} (hs ts : List Nat) (hm : P.follows .mixedOrders = true) (hB : schedOk l.toArray hs ts = true)
    (h : wpQuiet P l.toArray (fun w' => ∃ u : LaterX B b0 w, w' = u.world) (fun a' => wpTail P l.toArray (fun w' => ∃ u : LaterX B b0 w, w' = u.world) Q (ts.filterMap (l[·]?)) a' w.drew) (hs.filterMap (l[·]?)) a) : (Code.region id l.toArray true).wp P Q a w :=
  wp_region_sched hs ts _ hm hB ⟨⟨_, SameX.drew (fun _ _ _ _ => rfl)⟩, rfl⟩ h
theorem tailX_mk {B b0 : Nat} {Q : Exit → Act → World → Prop} {K : Act → World → Prop} {a : Act} {w w' : World} (hs : SameX B b0 w w') (hk : K a w') : tailQ (fun w' => ∃ u : LaterX B b0 w, w' = u.world) Q K .normal a w' := ⟨⟨⟨w', hs⟩, rfl⟩, hk⟩
end Go.Proofs.YtdklmcicogmeaaaGreat

/- A region that draws its order, by a schedule in which operations that only read and operations that come in their one order alternate. -/
namespace Go.Proofs.YtdklmcicogmeaaaGreat
open Go.RowKit

section
variable {P : Program} {ops : Array Oper} {md : Region.Mode} {S : World → Prop} {Q : Exit → Act → World → Prop}

/-- true: the operation may be taken first; false: it is the only one that may come up. -/
def mixB (md : Region.Mode) (ops : Array Oper) : List (Bool × Nat) → Array Bool → Bool
  | [], listed => decide (Region.ready md ops listed = [])
  | (true, h) :: r, listed => (Region.ready md ops listed).contains h && Region.free md ops listed h && (match ops[h]? with | some o => plainOp o | none => false) && mixB md ops r (listed.setIfInBounds h true)
  | (false, t) :: r, listed => decide (Region.ready md ops listed = [t]) && mixB md ops r (listed.setIfInBounds t true)

def wpMix (P : Program) (ops : Array Oper) (S : World → Prop) (Q : Exit → Act → World → Prop) : List (Bool × Oper) → Act → World → Prop
  | [], a, w => Q .normal a w
  | (true, o) :: r, a, w => wpQuiet P ops S (fun a' => wpMix P ops S Q r a' w) [o] a
  | (false, o) :: r, a, w => wpList P ops (tailQ S Q (wpMix P ops S Q r)) [o] a w

def opsOf (ops : Array Oper) (l : List (Bool × Nat)) : List (Bool × Oper) := l.filterMap (fun x => (ops[x.2]?).map (fun o => (x.1, o)))

theorem mix_anyH (hsel : Region.noSelect ops = true) : ∀ (l : List (Bool × Nat)) (listed : Array Bool) (a : Act) (w : World), mixB md ops l listed = true → (∀ x ∈ l, x.2 < ops.size) → S w →
    wpMix P ops S Q (opsOf ops l) a w → wpAnyH P md ops (NoPanic Q) S l.length listed a w
  | [], listed, a, w, hB, _, _, h => by
    simp only [mixB, decide_eq_true_eq] at hB
    exact ⟨hB, h⟩
  | (true, x) :: r, listed, a, w, hB, hlt, hS, h => by
    simp only [mixB, Bool.and_eq_true] at hB
    have hx := hlt (true, x) (by simp)
    have ho : ops[x]? = some ops[x] := by simp [hx]
    rw [ho] at hB
    have h' : wpQuiet P ops S (fun a' => wpMix P ops S Q (opsOf ops r) a' w) [ops[x]] a := by
      have : opsOf ops ((true, x) :: r) = (true, ops[x]) :: opsOf ops r := by simp [opsOf, ho]
      rw [this] at h; exact h
    have hst : qOp P ops S x (wpQuiet P ops S (fun a' => wpMix P ops S Q (opsOf ops r) a' w) []) a := by unfold qOp; simp only [ho]; exact h'
    obtain ⟨v, hy, hK⟩ := yieldsIn_of_qOp ho hst
    exact wpAnyH_take ho hsel hB.1.1.2 hB.1.1.1 (fun _ _ _ h => h.elim) (yieldsIf_of_in hB.1.2 hy) hS (mix_anyH hsel r _ _ w hB.2 (fun y hy => hlt y (by simp [hy])) hS hK)
  | (false, t) :: r, listed, a, w, hB, hlt, hS, h => by
    simp only [mixB, Bool.and_eq_true, decide_eq_true_eq] at hB
    have ht := hlt (false, t) (by simp)
    have ho : ops[t]? = some ops[t] := by simp [ht]
    have h' : wpList P ops (tailQ S Q (wpMix P ops S Q (opsOf ops r))) [ops[t]] a w := by
      have : opsOf ops ((false, t) :: r) = (false, ops[t]) :: opsOf ops r := by simp [opsOf, ho]
      rw [this] at h; exact h
    refine wpAnyH_all hB.1 (by simp) (fun i hi => ?_)
    have hit : i = t := by simpa using hi
    subst hit
    refine wpOp_mono (fun a' w' hh => ⟨hh.1, ?_⟩) (wpOp_of_tail ho h')
    exact mix_anyH hsel r _ a' w' hB.2 (fun x hx => hlt x (by simp [hx])) hh.1 hh.2

def mixOk (ops : Array Oper) (l : List (Bool × Nat)) : Bool :=
  Region.noSelect ops && decide (l.length = ops.size) && l.all (fun x => decide (x.2 < ops.size)) && mixB .any ops l (Array.replicate ops.size false)

theorem wp_region_mix {id : Nat} {a : Act} {w : World} {l : List Oper} (sc : List (Bool × Nat)) (S : World → Prop) (hm : P.follows .mixedOrders = true) (hB : mixOk l.toArray sc = true) (hS : S w.drew)
    (h : wpMix P l.toArray S Q (opsOf l.toArray sc) a w.drew) : (Code.region id l.toArray true).wp P Q a w := by
  simp only [mixOk, Bool.and_eq_true, decide_eq_true_eq, List.all_eq_true] at hB
  obtain ⟨⟨⟨h1, h2⟩, h3⟩, h5⟩ := hB
  refine wp_region_noPanic (wp_region_held (S := S) hm ?_)
  rw [← h2] at h5 ⊢
  exact mix_anyH h1 sc _ a _ h5 (fun x hx => h3 x hx) hS h
end
section
variable {P : Program} {B : Nat}
theorem wp_region_laterM {id : Nat} {Q : Exit → Act → World → Prop} {a : Act} {w : World} {l : List Oper} (sc : List (Bool × Nat)) (hm : P.follows .mixedOrders = true) (hB : mixOk l.toArray sc = true)
    (h : wpMix P l.toArray (fun w' => ∃ u : LaterB B w, w' = u.world) Q (opsOf l.toArray sc) a w.drew) : (Code.region id l.toArray true).wp P Q a w :=
  wp_region_mix sc _ hm hB ⟨⟨_, (Below.refl B w).drew⟩, rfl⟩ h
theorem mix_head {ops : Array Oper} {S : World → Prop} {Q : Exit → Act → World → Prop} {o : Oper} {r : List (Bool × Oper)} {a : Act} {w : World} (h : wpQuiet P ops S (fun a' => wpMix P ops S Q r a' w) [o] a) : wpMix P ops S Q ((true, o) :: r) a w := h
theorem mix_tail {ops : Array Oper} {S : World → Prop} {Q : Exit → Act → World → Prop} {o : Oper} {r : List (Bool × Oper)} {a : Act} {w : World} (h : wpList P ops (tailQ S Q (wpMix P ops S Q r)) [o] a w) : wpMix P ops S Q ((false, o) :: r) a w := h
theorem mix_nil {ops : Array Oper} {S : World → Prop} {Q : Exit → Act → World → Prop} {a : Act} {w : World} (h : Q .normal a w) : wpMix P ops S Q [] a w := h
end
end Go.Proofs.YtdklmcicogmeaaaGreat
