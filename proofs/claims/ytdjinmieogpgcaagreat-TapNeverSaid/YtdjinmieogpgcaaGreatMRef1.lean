import Derived.OrdersHeld
import Derived.Deep.Heap
import Derived.OneCell
import Derived.Test.YtdjinmieogpgcaaGreatMPlain0
/- Small functions of the references and the laws. -/
namespace Go.Proofs.YtdjinmieogpgcaaGreat
open Go.RowKit
set_option linter.unusedVariables false
set_option maxRecDepth 100000 in
theorem copyInts_any (l : List Int) (a : Option Addr) (n c : Nat) (w : World) (h : IntsR w a n l) (hn : n ≤ 100000) :
    Calls Tryz.prog 18 #[.slice a n c] w fun e' w' => ∃ a' c', e' = .returned (.slice a' n c') ∧ Below w.heap.size w w' ∧ w'.ownsRow w.heap.size 3 1 (.slice a' n c') n (icells l) := by
 have H := Lib.hid h
 clear h
 go_enter Tryz.func18, Tryz.ntmps18
 go_wp2_with (at_builtin; refine wpList_append_sl _ rfl _ _ 48 rfl w.heap.size 3 _ 1 8 Tryz.underlying48 infoInt rfl (by omega) _ _ _ rfl (World.ownsRow_made w #[] 0 (by omega) (by simp [maxLen]) rfl) a n c (icells l) rfl (H.out.below (by (first|exact bwg|go_size))) (icells_one _) (by omega) (by omega) (by simp) ?_)
 intro v2 w2 hown2 _ hb2
 try simp only [Nat.zero_add, List.nil_append] at hown2
 obtain ⟨a', c', rfl, _, _⟩ := owns_slice hown2
 have HO := Lib.hid hown2
 have HB := Lib.hid hb2
 clear hown2 hb2
 go_wp2
 go_ret
 exact ⟨a', c', rfl, Below.trans (by (first|exact bwg|go_size)) HB.out, HO.out⟩
set_option maxRecDepth 100000 in
theorem ints_any (l1 l2 : List Int) (a1 a2 : Option Addr) (n1 c1 n2 c2 : Nat) (w : World) (h1 : IntsR w a1 n1 l1) (h2 : IntsR w a2 n2 l2) :
    Calls Tryz.prog 22 #[.slice a1 n1 c1, .slice a2 n2 c2] w fun e' w' => e' = .returned (.bool (decide (l1 = l2))) ∧ ∃ m, w' = w.drewN m := by
 have H1 := Lib.hid h1
 have H2 := Lib.hid h2
 have hn1 := h1.small
 have hn2 := h2.small
 clear h1 h2
 by_cases hne : n1 = n2
 ·subst hne
  have hbb : ((n1 : Int) != (n1 : Int)) = false := by simp
  go_enter Tryz.func22, Tryz.ntmps22
  go_wp2
  go_loopw [5] (fun i wr => ∃ k : Nat, i = .int .i64 k ∧ k ≤ n1 ∧ Hid (decide (l1.drop k = l2.drop k) = decide (l1 = l2)) ∧ ∃ m, wr = w.drewN m) (fun i _ => n1 - (intOf i).toNat)
  case atStart => exact ⟨0, rfl, Nat.zero_le _, rfl, 0, rfl⟩
  case round =>
   obtain ⟨k, rfl, hk, hF, m, rfl⟩ := hrel
   by_cases hlt : k < n1
   ·obtain ⟨b1, o1, rfl, hb1, hc1⟩ := H1.out.addr (by omega)
    obtain ⟨b2, o2, rfl, hb2, hc2⟩ := H2.out.addr (by omega)
    have hck1 := hc1 k hlt
    have hck2 := hc2 k hlt
    clear hc1 hc2
    have hF' := hF.out
    rw [drop_at l1 k 0 (by rw [H1.out.len]; exact hlt), drop_at l2 k 0 (by rw [H2.out.len]; exact hlt)] at hF'
    obtain ⟨x, hx⟩ : ∃ x, x = l1.getD k 0 := ⟨_, rfl⟩
    obtain ⟨y, hy⟩ : ∃ y, y = l2.getD k 0 := ⟨_, rfl⟩
    rw [← hx] at hck1 hF'
    rw [← hy] at hck2 hF'
    have HF := Lib.hid hF'
    have hk0 : (0 : Int) ≤ (k : Int) := by omega
    have hk1 : (k : Int) < (n1 : Int) := by omega
    clear hx hy hF' hF
    by_cases hxy : x = y
    ·subst hxy
     have hbx : (x != x) = false := by simp
     go_wp2
     go_quiet (fail)
     go_wp2
     go_roundw
     case rel => exact ⟨k + 1, by go_num, by omega, Lib.hid (by simpa using HF.out), _, rfl⟩
     case measure => simp [intOf]; omega
    ·have hbx : (x != y) = true := by simpa using hxy
     go_wp2
     go_quiet (fail)
     go_wp2
     go_ret
     exact ⟨ret_bool (by rw [← HF.out]; simp [hxy]), _, World.drewN_drewN _ _ _⟩
   ·go_wp2
    go_ret
    exact ⟨ret_bool (by rw [← hF.out, drop_end l1 k (by rw [H1.out.len]; omega), drop_end l2 k (by rw [H2.out.len]; omega)]; rfl), m, rfl⟩
 ·have hbb : ((n1 : Int) != (n2 : Int)) = true := by simp; omega
  go_enter Tryz.func22, Tryz.ntmps22
  go_wp2
  go_ret
  refine ⟨ret_bool ?_, 0, rfl⟩
  have : ¬ l1 = l2 := by intro h; apply hne; rw [← H1.out.len, ← H2.out.len, h]
  simp [this]
/- A region that draws its order, by a schedule: first the operations that only read (in the class S of worlds they yield one value and leave the world alone), then the others in the one order that is left, S shown anew behind each. -/
def plainOp (o : Oper) : Bool :=
 match o.op with
 | .move _ | .assign _ | .pick _ _ _ | .load _ _ | .binOp _ _ _ _ _ | .unOp _ _ _ | .fieldAddr _ _ _ | .field _ _ _ | .indexAddr _ _ _ | .index _ _ _ | .extract _ _ | .convert _ _ _ | .build _ _ => true
 | .call c => match c.callee with | .builtin .len | .builtin .cap => true | _ => false
 | _ => false
theorem value_run {P : Program} {w : World} (s : Sem Value) (n : Next) (w' : World) (h : (do pure (Next.value (← s)) : Sem Next).run P w = .ok n w') : ∃ v, n = .value v := by
 have : ((s >>= fun v => pure (Next.value v)) : Sem Next).run P w = .ok n w' := h
 rw [Sem.run_bind] at this
 cases hs : s.run P w with
 | ok v w1 => rw [hs] at this; simp [Result.andThen] at this; exact ⟨v, this.1.symm⟩
 | halt x w1 => rw [hs] at this; simp [Result.andThen] at this
theorem plain_value {P : Program} {o : Oper} {ρ : Operand → Value} {w w' : World} {n : Next} (hp : plainOp o = true) (h : (execOp ρ o).run P w = .ok n w') : ∃ v, n = .value v := by
 obtain ⟨dst, op, ty, pos, aft, g⟩ := o
 cases op <;> simp only [plainOp] at hp <;> first | (cases hp; done) | skip
 all_goals first
  | exact value_run _ _ _ h
  | (simp [execOp] at h; exact ⟨_, h.1.symm⟩)
  | skip
 ·rename_i c a b
  have h' : ((asBool (ρ c) >>= fun x => pure (Next.value (if x then ρ a else ρ b))) : Sem Next).run P w = .ok n w' := h
  rw [Sem.run_bind] at h'
  cases hs : (asBool (ρ c)).run P w with
  | ok v w1 => rw [hs] at h'; simp [Result.andThen] at h'; exact ⟨_, h'.1.symm⟩
  | halt x w1 => rw [hs] at h'; simp [Result.andThen] at h'
 ·rename_i c
  obtain ⟨callee, args, ats⟩ := c
  cases callee with
  | builtin b =>
   cases b <;> first | (cases hp; done) | skip
   ·rw [BigFrame.execOp_builtin, BigFrame.builtin_cap] at h; exact value_run _ _ _ h
   ·rw [BigFrame.execOp_builtin, BigFrame.builtin_len] at h; exact value_run _ _ _ h
  | _ => cases hp
section
variable {P : Program} {ops : Array Oper} {md : Region.Mode} {S : World → Prop}
def tailB (md : Region.Mode) (ops : Array Oper) : List Nat → Array Bool → Bool
 | [], listed => decide (Region.ready md ops listed = [])
 | t :: ts, listed => decide (Region.ready md ops listed = [t]) && tailB md ops ts (listed.setIfInBounds t true)
def schedB (md : Region.Mode) (ops : Array Oper) (ts : List Nat) : List Nat → Array Bool → Bool
 | [], listed => tailB md ops ts listed
 | h :: hs, listed => (Region.ready md ops listed).contains h && Region.free md ops listed h && (match ops[h]? with | some o => plainOp o | none => false) && schedB md ops ts hs (listed.setIfInBounds h true)
def tailQ (S : World → Prop) (Q : Exit → Act → World → Prop) (K : Act → World → Prop) : Exit → Act → World → Prop
 | .normal, a, w => S w ∧ K a w
 | .panic _, _, _ => False
 | e, a, w => Q e a w
theorem letsOut_tailQ {Q : Exit → Act → World → Prop} {K : Act → World → Prop} (h : LetsOut (tailQ S Q K)) : LetsOut (NoPanic Q) := h
theorem wpOp_of_tail {Q : Exit → Act → World → Prop} {K : Act → World → Prop} {i : Nat} {o : Oper} (ho : ops[i]? = some o) {a : Act} {w : World}
    (h : wpList P ops (tailQ S Q K) [o] a w) : wpOp P ops (NoPanic Q) i (fun a' w' => S w' ∧ K a' w') a w := by
 unfold wpOp
 simp only [ho]
 unfold wpList at h
 split
 ·rename_i hw
  rw [if_pos hw] at h
  rcases h with h | h
  ·refine .inl ?_
   unfold Oper.wp at *
   generalize (execOp a.eval o).run P w = r at *
   cases r with
   | ok n w' =>
    cases n <;> simp only [Oper.upon] at h ⊢
    case value u => exact h
    case skip => exact h
    case defer d => exact h
    case enter f args =>
     refine h.mono fun e w'' hh => ?_
     cases e with
     | returned v => exact hh
     | panicked chain => exact hh.elim
     | outgrown => exact letsOut_tailQ hh
    case row r args => exact h
   | halt x w' => cases x <;> simp only [Oper.upon] at h ⊢ <;> exact h.elim
  ·exact .inr ⟨h.1, letsOut_tailQ h.2⟩
 ·rename_i hw
  rw [if_neg hw] at h
  exact h
theorem yieldsIf_of_in {o : Oper} {v : Value} {a : Act} (hp : plainOp o = true) (h : YieldsIn P ops S o v a) : YieldsIf P ops S o v a := by
 rcases h with ⟨hw, hv⟩ | h
 ·refine .inl ⟨hw, fun w hS => ?_⟩
  have h1 := hv w hS
  unfold Oper.quietAt at h1
  cases hr : (execOp a.eval o).run P w with
  | ok n w' =>
   obtain ⟨u, rfl⟩ := plain_value hp hr
   rw [hr] at h1
   simp only [Oper.quietUpon] at h1
   rw [h1.1, h1.2]
  | halt x w' => rw [hr] at h1; simp only [Oper.quietUpon] at h1
 ·exact .inr h
def schedOk (ops : Array Oper) (hs ts : List Nat) : Bool :=
 Region.noSelect ops && decide (hs.length + ts.length = ops.size) && hs.all (· < ops.size) && ts.all (· < ops.size) && schedB .any ops ts hs (Array.replicate ops.size false)
end
structure LaterB (B : Nat) (w0 : World) where
 world : World
 below : Below B w0 world
instance laterB_nonempty (B : Nat) (w0 : World) : Nonempty (LaterB B w0) := ⟨⟨w0, Below.refl _ _⟩⟩
theorem LaterB.cell {B : Nat} {w0 : World} (u : LaterB B w0) (b o : Nat) (h : b < B) : u.world.cell? ⟨b, o, none⟩ = w0.cell? ⟨b, o, none⟩ := u.below.cell (p := ⟨b, o, none⟩) h
attribute [go_sem] LaterB.cell
section
variable {P : Program} {B : Nat}
theorem tailL_mk {Q : Exit → Act → World → Prop} {K : Act → World → Prop} {a : Act} {w w' : World} (hs : Below B w w') (hk : K a w') : tailQ (fun w' => ∃ u : LaterB B w, w' = u.world) Q K .normal a w' := ⟨⟨⟨w', hs⟩, rfl⟩, hk⟩
end
def SameX (B b0 : Nat) (w w' : World) : Prop := ∀ b o, b < B → b ≠ b0 → w'.cell? ⟨b, o, none⟩ = w.cell? ⟨b, o, none⟩
theorem SameX.of_below {B b0 : Nat} {w w' : World} (h : Below B w w') : SameX B b0 w w' := fun b o hb _ => h.cell (p := ⟨b, o, none⟩) hb
theorem SameX.set {B b0 o : Nat} {w w' : World} (h : SameX B b0 w w') (v : Value) : SameX B b0 w (w'.setCell ⟨b0, o, none⟩ v) := fun b o' hb hne => by
 rw [World.cell?_setCell_other _ ⟨b0, o, none⟩ ⟨b, o', none⟩ _ (by first | (simp; done) | (simp; exact fun h => absurd h hne))]; exact h b o' hb hne
theorem SameX.drew {B b0 : Nat} {w w' : World} (h : SameX B b0 w w') : SameX B b0 w w'.drew := h
structure LaterX (B b0 : Nat) (w0 : World) where
 world : World
 same : SameX B b0 w0 world
instance laterX_nonempty (B b0 : Nat) (w0 : World) : Nonempty (LaterX B b0 w0) := ⟨⟨w0, fun _ _ _ _ => rfl⟩⟩
def OkB (b B b0 : Nat) : Prop := b < B ∧ b ≠ b0
theorem LaterX.cell {B b0 : Nat} {w0 : World} (u : LaterX B b0 w0) (b o : Nat) (h : OkB b B b0) : u.world.cell? ⟨b, o, none⟩ = w0.cell? ⟨b, o, none⟩ := u.same b o h.1 h.2
attribute [go_sem] LaterX.cell
end Go.Proofs.YtdjinmieogpgcaaGreat
/- Which ladders are valid. -/
namespace Go.Proofs.YtdjinmieogpgcaaGreat
open Go.RowKit
set_option linter.unusedVariables false
def ok3 (x : Int × Int × Int) : Bool := wi x.1 1 100 && wi x.2.1 0 100 && wi x.2.2 1 1000
/- What a step computes: plain lists. -/
abbrev g0 (l : List Int) (i : Nat) : Int := l.getD i 0
/- The determinants of the node equations: plain lists. -/
def pr (s : List Int) : Nat → Int
 | 0 => 1
 | k + 1 => pr s k * s.getD k 0
/- Plain facts: determinants are above 0; fractions. -/
def low (a b : Int) : Int × Int := (a.tdiv (gc a b), b / gc a b)
def pcells (l : List (Int × Int)) : List Value := l.flatMap fun f => [.int .i64 f.1, .int .i64 f.2]
theorem pcells_length : ∀ l : List (Int × Int), (pcells l).length = l.length * 2
 | [] => rfl
 | f :: r => by have := pcells_length r; simp only [pcells, List.flatMap_cons, List.length_append, List.length_cons, List.length_nil] at *; omega
theorem pcells_get : ∀ (l : List (Int × Int)) (i : Nat), i < l.length → (pcells l)[i * 2]? = some (.int .i64 (l.getD i (0, 0)).1) ∧ (pcells l)[i * 2 + 1]? = some (.int .i64 (l.getD i (0, 0)).2)
 | [], i, h => by simp at h
 | f :: r, 0, _ => by simp [pcells]
 | f :: r, i + 1, h => by
  have := pcells_get r i (by simpa using h)
  simp only [pcells, List.flatMap_cons, List.cons_append, List.nil_append] at *
  rw [show (i + 1) * 2 = i * 2 + 1 + 1 by omega]
  simpa using this
def PairsR (w : World) (a : Option Addr) (n : Nat) (l : List (Int × Int)) : Prop := SlR w a n 2 (pcells l)
theorem PairsR.len {w : World} {a : Option Addr} {n : Nat} {l : List (Int × Int)} (h : PairsR w a n l) : l.length = n := by
 have := h.1; rw [pcells_length] at this; omega
theorem PairsR.below {w w' : World} {a : Option Addr} {n : Nat} {l : List (Int × Int)} (h : PairsR w a n l) (hb : Below w.heap.size w w') : PairsR w' a n l := SlR.below h hb
theorem PairsR.small {w : World} {a : Option Addr} {n : Nat} {l : List (Int × Int)} (h : PairsR w a n l) : n ≤ 9223372036854775807 := SlR.small h
theorem PairsR.addr {w : World} {a : Option Addr} {n : Nat} {l : List (Int × Int)} (h : PairsR w a n l) (hn : 0 < n) :
    ∃ b o, a = some ⟨b, o, none⟩ ∧ b < w.heap.size ∧ ∀ i, i < n → w.cell? ⟨b, o + i * 2, none⟩ = some (.int .i64 (l.getD i (0, 0)).1) ∧ w.cell? ⟨b, o + i * 2 + 1, none⟩ = some (.int .i64 (l.getD i (0, 0)).2) := by
 obtain ⟨b, o, ha, hlt, hc⟩ := h.2.2 hn
 refine ⟨b, o, ha, hlt, fun i hi => ?_⟩
 have := pcells_get l i (by rw [h.len]; exact hi)
 exact ⟨hc _ _ this.1, by have := hc _ _ this.2; rwa [← Nat.add_assoc] at this⟩
theorem PairsR.nil (w : World) (a : Option Addr) : PairsR w a 0 [] := SlR.nil w a 2
/- The small functions of the package tap: within, unless, first, divisor .. -/
set_option linter.unusedSimpArgs false
theorem t_unless_any (b : Bool) (e : Int) (w : World) : Calls Tryz.prog 50 #[.bool b, .int .i64 e] w fun e' w' => e' = .returned (.int .i64 (unl b e)) ∧ w = w' := by
 cases b
 all_goals
  go_enter Tryz.func50, Tryz.ntmps50
  go_wp2
  go_ret
  exact ⟨rfl, rfl⟩
theorem t_within_any (n lo hi : Int) (w : World) : Calls Tryz.prog 88 #[.int .i64 n, .int .i64 lo, .int .i64 hi] w fun e' w' => e' = .returned (.bool (wi n lo hi)) ∧ w = w' := by
 by_cases h : lo ≤ n
 ·go_enter Tryz.func88, Tryz.ntmps88
  go_wp2
  go_ret
  exact ⟨by simp [wi, h], rfl⟩
 ·have h' : n < lo := by omega
  go_enter Tryz.func88, Tryz.ntmps88
  go_wp2
  go_ret
  exact ⟨ret_bool (by simp [wi]; omega), rfl⟩
theorem t_small_any (n m : Int) (w : World) (h0 : 0 ≤ m) (h1 : m ≤ 1000000000000) : Calls Tryz.prog 108 #[.int .i64 n, .int .i64 m] w fun e' w' => e' = .returned (.bool (wi n (-m) m)) ∧ w = w' := by
 go_enter Tryz.func108, Tryz.ntmps108
 go_wp2_with (go_at_call 88; refine (t_within_any _ _ _ _).mono ?_; rintro e w' ⟨rfl, rfl⟩)
 go_ret
 exact ⟨rfl, rfl⟩
theorem t_divisor_any (a b : Int) (w : World) (ha0 : -9223372036854775807 ≤ a) (ha1 : a ≤ 9223372036854775807) (hb0 : -9223372036854775807 ≤ b) (hb1 : b ≤ 9223372036854775807) :
    Calls Tryz.prog 128 #[.int .i64 a, .int .i64 b] w fun e' w' => e' = .returned (.int .i64 (gc a b)) ∧ ∃ n, w' = w.drewN n := by
 go_enter Tryz.func128, Tryz.ntmps128
 go_wp2
 go_loopw [0, 1] (fun x y wr => ∃ c d : Int, x = .int .i64 c ∧ y = .int .i64 d ∧ gc c d = gc a b ∧ -9223372036854775807 ≤ c ∧ c ≤ 9223372036854775807 ∧ -9223372036854775807 ≤ d ∧ d ≤ 9223372036854775807 ∧ ∃ n, wr = w.drewN n) (fun _ y _ => (intOf y).natAbs)
 case atStart => exact ⟨a, b, rfl, rfl, rfl, ha0, ha1, hb0, hb1, 0, rfl⟩
 case round =>
  obtain ⟨c, d, rfl, rfl, hg, hc0, hc1, hd0, hd1, n, rfl⟩ := hrel
  have HG := Lib.hid hg; clear hg
  by_cases hd : d = 0
  ·subst hd
   go_wp2
   all_goals go_ret
   all_goals exact ⟨ret_int (by rw [← HG.out, gc_zero]; unfold sz; omega), n, rfl⟩
  ·have hd' : (d == 0) = false := by simpa using hd
   have hd'' : (d != 0) = true := by simpa using hd
   go_wp2
   go_region
   go_wp2
   have hlt := tmod_lt c d hd
   have hg := gcd_tmod c d
   have hbd := hlt
   go_roundw
   case rel => exact ⟨d, c.tmod d, rfl, rfl, by rw [← HG.out]; unfold gc; rw [hg], by omega, by omega, by omega, by omega, n + 1, rfl⟩
   case measure => simpa [intOf] using hlt
theorem t_lowest_any (a b : Int) (w : World) (ha0 : -9000000000000000000 ≤ a) (ha1 : a ≤ 9000000000000000000) (hb0 : 0 < b) (hb1 : b ≤ 9000000000000000000) :
    Calls Tryz.prog 102 #[.int .i64 a, .int .i64 b] w fun e' w' => e' = .returned (.agg #[.int .i64 (a.tdiv (gc a b)), .int .i64 (b / gc a b)]) ∧ Below w.heap.size w w' := by
 have hg0 := gc_pos (a := a) hb0
 have hg1 := gc_le (a := a) hb0
 have hq := tdiv_bd a (gc a b) 9000000000000000000 (by omega) (by omega)
 have hgn : (gc a b == 0) = false := by simp; omega
 go_enter Tryz.func102, Tryz.ntmps102
 go_wp2_with fail
 refine (t_divisor_any _ _ _ (by omega) (by omega) (by omega) (by omega)).mono ?_
 rintro e w' ⟨rfl, n, rfl⟩
 go_wp2_with fail
 go_region
 go_wp2
 refine bodyPost_ret (v := .agg #[.int .i64 (a.tdiv (gc a b)), .int .i64 (b / gc a b)]) (by simp [results, Tryz.results102, go_sem]) rfl ⟨rfl, ?_⟩
 (first|exact bwg|go_size)
theorem t_first_any (l : List Int) (n c b o : Nat) (w : World) (hn : n ≤ 1000) (hl : l.length = n) (hc : ∀ i, i < n → w.cell? ⟨b, o + i, none⟩ = some (.int .i64 (l.getD i 0))) :
    Calls Tryz.prog 60 #[.slice (some ⟨b, o, none⟩) n c] w fun e' w' => e' = .returned (.int .i64 (firstErr l)) ∧ w = w' := by
 have HL := Lib.hid hl; clear hl
 have HC := Lib.hid hc; clear hc
 go_enter Tryz.func60, Tryz.ntmps60
 go_wp2
 go_loop [7] (fun i => ∃ k : Nat, i = .int .i64 k ∧ k ≤ n ∧ Hid (firstErr (l.drop k) = firstErr l)) (fun i => n - (intOf i).toNat)
 case atStart => exact ⟨0, rfl, Nat.zero_le _, rfl⟩
 case round =>
  obtain ⟨k, rfl, hk, hF⟩ := hrel
  by_cases hlt : k < n
  ·have hck := HC.out k hlt
   have hF' := hF.out
   rw [drop_at l k 0 (by rw [HL.out]; exact hlt), firstErr] at hF'
   have HF := Lib.hid hF'; clear hF' hF
   obtain ⟨x, hx⟩ : ∃ x, x = l.getD k 0 := ⟨_, rfl⟩
   rw [← hx] at hck HF
   clear hx
   by_cases h0 : x = 0
   ·subst h0
    go_wp2
    go_round
    case rel => exact ⟨k + 1, by go_num, by omega, Lib.hid (by simpa using HF.out)⟩
    case measure => simp [intOf]; omega
   ·have h0' : (x != 0) = true := by simpa using h0
    go_wp2
    go_ret
    exact ⟨ret_int (by rw [← HF.out, if_neg h0]), rfl⟩
  ·go_wp2
   go_ret
   exact ⟨ret_int (by rw [← hF.out, drop_end l k (by rw [HL.out]; omega)]; rfl), rfl⟩
theorem t_first2 (e1 e2 : Int) (w0 w : World) (t B : Nat) (hw : w.heap = (w0.alloc (.cells #[.int .i64 e1, .int .i64 e2] t)).heap) (hB : B = w0.heap.size) :
    Calls Tryz.prog 60 #[.slice (some ⟨B, 0, none⟩) 2 2] w fun e' w' => e' = .returned (.int .i64 (firstErr [e1, e2])) ∧ w = w' := by
 refine t_first_any [e1, e2] 2 2 B 0 _ (by omega) rfl (fun i hi => ?_)
 match i, hi with
 | 0, _ => exact cell_lit w0 w [.int .i64 e1, .int .i64 e2] t B 0 _ hw hB rfl
 | 1, _ => exact cell_lit w0 w [.int .i64 e1, .int .i64 e2] t B 1 _ hw hB rfl
theorem t_first3 (e1 e2 e3 : Int) (w0 w : World) (t B : Nat) (hw : w.heap = (w0.alloc (.cells #[.int .i64 e1, .int .i64 e2, .int .i64 e3] t)).heap) (hB : B = w0.heap.size) :
    Calls Tryz.prog 60 #[.slice (some ⟨B, 0, none⟩) 3 3] w fun e' w' => e' = .returned (.int .i64 (firstErr [e1, e2, e3])) ∧ w = w' := by
 refine t_first_any [e1, e2, e3] 3 3 B 0 _ (by omega) rfl (fun i hi => ?_)
 match i, hi with
 | 0, _ => exact cell_lit w0 w [.int .i64 e1, .int .i64 e2, .int .i64 e3] t B 0 _ hw hB rfl
 | 1, _ => exact cell_lit w0 w [.int .i64 e1, .int .i64 e2, .int .i64 e3] t B 1 _ hw hB rfl
 | 2, _ => exact cell_lit w0 w [.int .i64 e1, .int .i64 e2, .int .i64 e3] t B 2 _ hw hB rfl
theorem t_first5 (e1 e2 e3 e4 e5 : Int) (w0 w : World) (t B : Nat) (hw : w.heap = (w0.alloc (.cells #[.int .i64 e1, .int .i64 e2, .int .i64 e3, .int .i64 e4, .int .i64 e5] t)).heap) (hB : B = w0.heap.size) :
    Calls Tryz.prog 60 #[.slice (some ⟨B, 0, none⟩) 5 5] w fun e' w' => e' = .returned (.int .i64 (firstErr [e1, e2, e3, e4, e5])) ∧ w = w' := by
 refine t_first_any [e1, e2, e3, e4, e5] 5 5 B 0 _ (by omega) rfl (fun i hi => ?_)
 match i, hi with
 | 0, _ => exact cell_lit w0 w [.int .i64 e1, .int .i64 e2, .int .i64 e3, .int .i64 e4, .int .i64 e5] t B 0 _ hw hB rfl
 | 1, _ => exact cell_lit w0 w [.int .i64 e1, .int .i64 e2, .int .i64 e3, .int .i64 e4, .int .i64 e5] t B 1 _ hw hB rfl
 | 2, _ => exact cell_lit w0 w [.int .i64 e1, .int .i64 e2, .int .i64 e3, .int .i64 e4, .int .i64 e5] t B 2 _ hw hB rfl
 | 3, _ => exact cell_lit w0 w [.int .i64 e1, .int .i64 e2, .int .i64 e3, .int .i64 e4, .int .i64 e5] t B 3 _ hw hB rfl
 | 4, _ => exact cell_lit w0 w [.int .i64 e1, .int .i64 e2, .int .i64 e3, .int .i64 e4, .int .i64 e5] t B 4 _ hw hB rfl
theorem t_low_any (a b : Int) (w : World) (ha0 : -9000000000000000000 ≤ a) (ha1 : a ≤ 9000000000000000000) (hb0 : 0 < b) (hb1 : b ≤ 9000000000000000000) :
    Calls Tryz.prog 102 #[.int .i64 a, .int .i64 b] w fun e' w' => e' = .returned (.agg #[.int .i64 (low a b).1, .int .i64 (low a b).2]) ∧ Below w.heap.size w w' :=
 (t_lowest_any a b w ha0 ha1 hb0 hb1).mono fun e' w' h => h
theorem t_plus_any (a b c d : Int) (w : World) (h1 : -4000000000000000000 ≤ a * d ∧ a * d ≤ 4000000000000000000) (h2 : -4000000000000000000 ≤ c * b ∧ c * b ≤ 4000000000000000000) (h3 : 0 < b * d) (h4 : b * d ≤ 9000000000000000000) :
    Calls Tryz.prog 123 #[.agg #[.int .i64 a, .int .i64 b], .agg #[.int .i64 c, .int .i64 d]] w fun e' w' => e' = .returned (.agg #[.int .i64 (low (a * d + c * b) (b * d)).1, .int .i64 (low (a * d + c * b) (b * d)).2]) ∧ Below w.heap.size w w' := by
 have w1 : IntKind.i64.wrap (a * d) = a * d := by rw [IntKind.wrap_i64]; omega
 have w2 : IntKind.i64.wrap (c * b) = c * b := by rw [IntKind.wrap_i64]; omega
 have w3 : IntKind.i64.wrap (b * d) = b * d := by rw [IntKind.wrap_i64]; omega
 have w4 : IntKind.i64.wrap (a * d + c * b) = a * d + c * b := by rw [IntKind.wrap_i64]; omega
 have HL := Lib.hid (fun W => t_low_any (a * d + c * b) (b * d) W (by omega) (by omega) h3 h4)
 clear h1 h2 h3 h4
 go_enter Tryz.func123, Tryz.ntmps123
 go_wp2_with fail
 refine (HL.out _).mono ?_
 rintro e w' ⟨rfl, hb⟩
 have HB := Lib.hid hb
 have hz := hb.size
 simp only [World.size_alloc] at hz
 have t0 : w'.cell? ⟨w.heap.size + 1 + 1, 0, none⟩ = some (.int .i64 0) := bwc hb; have t1 : w'.cell? ⟨w.heap.size + 1 + 1, 1, none⟩ = some (.int .i64 0) := bwc hb; have f0 : w'.frozen? ⟨w.heap.size + 1 + 1, 0, none⟩ = false := bwf hb; have f1 : w'.frozen? ⟨w.heap.size + 1 + 1, 1, none⟩ = false := bwf hb; have l0 : w.heap.size + 1 + 1 < w'.heap.size := by { omega }
 clear hb
 go_wp2
 generalize hW : World.setCell (World.setCell _ _ _) _ _ = wz
 have r0 : wz.cell? ⟨w.heap.size + 1 + 1, 0, none⟩ = some (.int .i64 (low (a * d + c * b) (b * d)).1) := by { rw [← hW]; clear hW; go_simp }
 have r1 : wz.cell? ⟨w.heap.size + 1 + 1, 1, none⟩ = some (.int .i64 (low (a * d + c * b) (b * d)).2) := by { rw [← hW]; clear hW; go_simp }
 refine bodyPost_ret (v := .agg #[.int .i64 (low (a * d + c * b) (b * d)).1, .int .i64 (low (a * d + c * b) (b * d)).2]) (by simp [results, Tryz.results123, go_sem, r0, r1]) rfl ⟨rfl, ?_⟩
 rw [← hW]
 have := HB.out
 (first|exact bwg|go_size)
theorem t_minus_any (a b c d : Int) (w : World) (h1 : -4000000000000000000 ≤ a * d ∧ a * d ≤ 4000000000000000000) (h2 : -4000000000000000000 ≤ c * b ∧ c * b ≤ 4000000000000000000) (h3 : 0 < b * d) (h4 : b * d ≤ 9000000000000000000) :
    Calls Tryz.prog 100 #[.agg #[.int .i64 a, .int .i64 b], .agg #[.int .i64 c, .int .i64 d]] w fun e' w' => e' = .returned (.agg #[.int .i64 (low (a * d - c * b) (b * d)).1, .int .i64 (low (a * d - c * b) (b * d)).2]) ∧ Below w.heap.size w w' := by
 have w1 : IntKind.i64.wrap (a * d) = a * d := by rw [IntKind.wrap_i64]; omega
 have w2 : IntKind.i64.wrap (c * b) = c * b := by rw [IntKind.wrap_i64]; omega
 have w3 : IntKind.i64.wrap (b * d) = b * d := by rw [IntKind.wrap_i64]; omega
 have w4 : IntKind.i64.wrap (a * d - c * b) = a * d - c * b := by rw [IntKind.wrap_i64]; omega
 have HL := Lib.hid (fun W => t_low_any (a * d - c * b) (b * d) W (by omega) (by omega) h3 h4)
 clear h1 h2 h3 h4
 go_enter Tryz.func100, Tryz.ntmps100
 go_wp2_with fail
 refine (HL.out _).mono ?_
 rintro e w' ⟨rfl, hb⟩
 have HB := Lib.hid hb
 have hz := hb.size
 simp only [World.size_alloc] at hz
 have t0 : w'.cell? ⟨w.heap.size + 1 + 1, 0, none⟩ = some (.int .i64 0) := bwc hb; have t1 : w'.cell? ⟨w.heap.size + 1 + 1, 1, none⟩ = some (.int .i64 0) := bwc hb; have f0 : w'.frozen? ⟨w.heap.size + 1 + 1, 0, none⟩ = false := bwf hb; have f1 : w'.frozen? ⟨w.heap.size + 1 + 1, 1, none⟩ = false := bwf hb; have l0 : w.heap.size + 1 + 1 < w'.heap.size := by { omega }
 clear hb
 go_wp2
 generalize hW : World.setCell (World.setCell _ _ _) _ _ = wz
 have r0 : wz.cell? ⟨w.heap.size + 1 + 1, 0, none⟩ = some (.int .i64 (low (a * d - c * b) (b * d)).1) := by { rw [← hW]; clear hW; go_simp }
 have r1 : wz.cell? ⟨w.heap.size + 1 + 1, 1, none⟩ = some (.int .i64 (low (a * d - c * b) (b * d)).2) := by { rw [← hW]; clear hW; go_simp }
 refine bodyPost_ret (v := .agg #[.int .i64 (low (a * d - c * b) (b * d)).1, .int .i64 (low (a * d - c * b) (b * d)).2]) (by simp [results, Tryz.results100, go_sem, r0, r1]) rfl ⟨rfl, ?_⟩
 rw [← hW]
 have := HB.out
 (first|exact bwg|go_size)
theorem t_size_any (a b : Int) (w : World) (h0 : -9223372036854775807 ≤ a) (h1 : a ≤ 9223372036854775807) : Calls Tryz.prog 124 #[.agg #[.int .i64 a, .int .i64 b]] w fun e' w' => e' = .returned (.agg #[.int .i64 (sz a), .int .i64 b]) ∧ Below w.heap.size w w' := by
 go_enter Tryz.func124, Tryz.ntmps124
 go_wp2
 all_goals
  refine bodyPost_ret (v := .agg #[.int .i64 (sz a), .int .i64 b]) (by simp [results, Tryz.results124, go_sem]; unfold sz; omega) rfl ⟨rfl, ?_⟩
  (first|exact bwg|go_size)
theorem t_whole_any (n : Int) (w : World) : Calls Tryz.prog 97 #[.int .i64 n] w fun e' w' => e' = .returned (.agg #[.int .i64 n, .int .i64 1]) ∧ Below w.heap.size w w' := by
 go_enter Tryz.func97, Tryz.ntmps97
 go_wp2
 refine bodyPost_ret (v := .agg #[.int .i64 n, .int .i64 1]) (by simp [results, Tryz.results97, go_sem]) rfl ⟨rfl, ?_⟩
 (first|exact bwg|go_size)
theorem t_exceeds_any (a b n : Int) (w : World) (h : -9223372036854775807 ≤ n * b ∧ n * b ≤ 9223372036854775807) : Calls Tryz.prog 90 #[.agg #[.int .i64 a, .int .i64 b], .int .i64 n] w fun e' w' => e' = .returned (.bool (decide (n * b < a))) ∧ Below w.heap.size w w' := by
 have w1 : IntKind.i64.wrap (n * b) = n * b := by rw [IntKind.wrap_i64]; omega
 clear h
 go_enter Tryz.func90, Tryz.ntmps90
 go_wp2
 go_ret
 refine ⟨ret_bool (by simp), ?_⟩
 (first|exact bwg|go_size)
theorem has_bits : ∀ s < 64, ∀ i < 8, (bits .and .i64 (((s : Nat) : Int) / 2 ^ i) 1 == 1) = s.testBit i := by decide +kernel
theorem turn_bits : ∀ s < 64, ∀ i < 6, bits .xor .i64 ((s : Nat) : Int) (wrap64 (2 ^ i)) = ((s ^^^ 2 ^ i : Nat) : Int) := by decide +kernel
theorem turn_lt : ∀ n < 7, ∀ s < 2 ^ n, ∀ i < n, s ^^^ 2 ^ i < 2 ^ n := by decide +kernel
theorem has_any (s i : Nat) (w : World) (hs : s < 64) (hi : i < 8) : Calls Tryz.prog 93 #[.int .i64 (s : Int), .int .i64 (i : Int)] w fun e' w' => e' = .returned (.bool (s.testBit i)) ∧ w = w' := by
 have e1 := has_bits s hs i hi
 have i0 : (0 : Int) ≤ (i : Int) := by omega
 have i1 : (i : Int) ≤ 64 := by omega
 have i2 : ((i : Int)).toNat = i := by omega
 go_enter Tryz.func93, Tryz.ntmps93
 go_wp2
 go_ret
 exact ⟨ret_bool (by rw [← e1]), rfl⟩
theorem turned_any (s i : Nat) (w : World) (hs : s < 64) (hi : i < 6) : Calls Tryz.prog 79 #[.int .i64 (s : Int), .int .i64 (i : Int)] w fun e' w' => e' = .returned (.int .i64 ((s ^^^ 2 ^ i : Nat) : Int)) ∧ w = w' := by
 have e1 := turn_bits s hs i hi
 have i0 : (0 : Int) ≤ (i : Int) := by omega
 have i1 : (i : Int) ≤ 64 := by omega
 have i2 : ((i : Int)).toNat = i := by omega
 go_enter Tryz.func79, Tryz.ntmps79
 go_wp2
 go_ret
 exact ⟨ret_int (by rw [← e1]), rfl⟩
/- A block that is known whole: its cells, and what a store leaves of it. -/
theorem blk_set {w : World} {b : Nat} {t : TypeId} {cs : Array Value} (h : w.heap[b]? = some (.cells cs t)) (i : Nat) (v : Value) : (w.setCell ⟨b, i, none⟩ v).heap[b]? = some (.cells (cs.setIfInBounds i v) t) := by
 simp [World.setCell, Array.getElem?_modify, h]
theorem blk_lt {w : World} {b : Nat} {o : Obj} (h : w.heap[b]? = some o) : b < w.heap.size := (Array.getElem?_eq_some_iff.1 h).1
theorem blk_cell {w : World} {b : Nat} {t : TypeId} {cs : Array Value} (h : w.heap[b]? = some (.cells cs t)) {i : Nat} {v : Value} (hv : cs[i]? = some v) : w.cell? ⟨b, i, none⟩ = some v := (cell_of_row w b i cs t _ h).trans hv
theorem blk_fz {w : World} {b : Nat} {t : TypeId} {cs : Array Value} (h : w.heap[b]? = some (.cells cs t)) (i : Nat) : w.frozen? ⟨b, i, none⟩ = false := frozen_of_row w b i cs t h
theorem blk_below {w w' : World} {b : Nat} {o : Obj} (h : w.heap[b]? = some o) (hb : Below w.heap.size w w') : w'.heap[b]? = some o := (hb.block b (blk_lt h)).trans h
theorem xal {w0 B : World} (h : Below w0.heap.size w0 B) (o : Obj) : ∃ X, X = B.heap.size ∧ w0.heap.size ≤ X ∧ (B.alloc o).heap[X]? = some o ∧ X < (B.alloc o).heap.size ∧ (B.alloc o).heap.size = B.heap.size + 1 ∧ Below B.heap.size B (B.alloc o) :=
 ⟨_, rfl, h.size, heap_alloc_new _ _, by simp, by simp, (Below.refl _ _).alloc (Nat.le_refl _) _⟩
theorem xald {w0 B : World} (h : Below w0.heap.size w0 B.drew) (o : Obj) : ∃ X, X = B.heap.size ∧ w0.heap.size ≤ X ∧ (B.alloc o).drew.heap[X]? = some o ∧ X < (B.alloc o).drew.heap.size ∧ (B.alloc o).drew.heap.size = B.heap.size + 1 ∧ Below B.heap.size B (B.alloc o).drew ∧ Below B.drew.heap.size B.drew (B.alloc o).drew := by
 have hb : Below B.heap.size B (B.alloc o).drew := ((Below.refl _ _).alloc (Nat.le_refl _) _).drew
 exact ⟨_, rfl, h.size, heap_alloc_new _ _, by simp, by simp, hb, ⟨hb.os, hb.tape, hb.output, hb.size, hb.block⟩⟩
theorem xst1 {w0 w : World} {X : Nat} {t : TypeId} {x0 : Value} (h : Below w0.heap.size w0 w) (hX : w0.heap.size ≤ X) (hx : w.heap[X]? = some (.cells #[x0] t)) (v0 : Value) : Below w0.heap.size w0 (w.setCell ⟨X, 0, none⟩ v0) ∧ (w.setCell ⟨X, 0, none⟩ v0).heap[X]? = some (.cells #[v0] t) := ⟨Below.setCell (h) hX _, blk_set (hx) 0 v0⟩
theorem xcf1 {w : World} {X : Nat} {t : TypeId} {x0 : Value} (h : w.heap[X]? = some (.cells #[x0] t)) : w.cell? ⟨X, 0, none⟩ = some x0 ∧ w.frozen? ⟨X, 0, none⟩ = false := ⟨blk_cell h (i := 0) rfl, blk_fz h 0⟩
theorem xst2 {w0 w : World} {X : Nat} {t : TypeId} {x0 x1 : Value} (h : Below w0.heap.size w0 w) (hX : w0.heap.size ≤ X) (hx : w.heap[X]? = some (.cells #[x0, x1] t)) (v0 v1 : Value) : Below w0.heap.size w0 ((w.setCell ⟨X, 0, none⟩ v0).setCell ⟨X, 1, none⟩ v1) ∧ ((w.setCell ⟨X, 0, none⟩ v0).setCell ⟨X, 1, none⟩ v1).heap[X]? = some (.cells #[v0, v1] t) := ⟨Below.setCell (Below.setCell (h) hX _) hX _, blk_set (blk_set (hx) 0 v0) 1 v1⟩
theorem xcf2 {w : World} {X : Nat} {t : TypeId} {x0 x1 : Value} (h : w.heap[X]? = some (.cells #[x0, x1] t)) : w.cell? ⟨X, 0, none⟩ = some x0 ∧ w.cell? ⟨X, 1, none⟩ = some x1 ∧ w.frozen? ⟨X, 0, none⟩ = false ∧ w.frozen? ⟨X, 1, none⟩ = false := ⟨blk_cell h (i := 0) rfl, blk_cell h (i := 1) rfl, blk_fz h 0, blk_fz h 1⟩
theorem blkc2 {w : World} {b : Nat} {t : TypeId} {v0 v1 : Value} (h : w.heap[b]? = some (.cells #[v0, v1] t)) : w.cell? ⟨b, 0, none⟩ = some v0 ∧ w.cell? ⟨b, 1, none⟩ = some v1 ∧ b < w.heap.size := ⟨blk_cell h (i := 0) rfl, blk_cell h (i := 1) rfl, blk_lt h⟩
theorem blkc3 {w : World} {b : Nat} {t : TypeId} {v0 v1 v2 : Value} (h : w.heap[b]? = some (.cells #[v0, v1, v2] t)) : w.cell? ⟨b, 0, none⟩ = some v0 ∧ w.cell? ⟨b, 1, none⟩ = some v1 ∧ w.cell? ⟨b, 2, none⟩ = some v2 ∧ b < w.heap.size := ⟨blk_cell h (i := 0) rfl, blk_cell h (i := 1) rfl, blk_cell h (i := 2) rfl, blk_lt h⟩
theorem blkc4 {w : World} {b : Nat} {t : TypeId} {v0 v1 v2 v3 : Value} (h : w.heap[b]? = some (.cells #[v0, v1, v2, v3] t)) : w.cell? ⟨b, 0, none⟩ = some v0 ∧ w.cell? ⟨b, 1, none⟩ = some v1 ∧ w.cell? ⟨b, 2, none⟩ = some v2 ∧ w.cell? ⟨b, 3, none⟩ = some v3 ∧ b < w.heap.size := ⟨blk_cell h (i := 0) rfl, blk_cell h (i := 1) rfl, blk_cell h (i := 2) rfl, blk_cell h (i := 3) rfl, blk_lt h⟩
theorem blkc6 {w : World} {b : Nat} {t : TypeId} {v0 v1 v2 v3 v4 v5 : Value} (h : w.heap[b]? = some (.cells #[v0, v1, v2, v3, v4, v5] t)) : w.cell? ⟨b, 0, none⟩ = some v0 ∧ w.cell? ⟨b, 1, none⟩ = some v1 ∧ w.cell? ⟨b, 2, none⟩ = some v2 ∧ w.cell? ⟨b, 3, none⟩ = some v3 ∧ w.cell? ⟨b, 4, none⟩ = some v4 ∧ w.cell? ⟨b, 5, none⟩ = some v5 ∧ b < w.heap.size := ⟨blk_cell h (i := 0) rfl, blk_cell h (i := 1) rfl, blk_cell h (i := 2) rfl, blk_cell h (i := 3) rfl, blk_cell h (i := 4) rfl, blk_cell h (i := 5) rfl, blk_lt h⟩
theorem blkc9 {w : World} {b : Nat} {t : TypeId} {v0 v1 v2 v3 v4 v5 v6 v7 v8 : Value} (h : w.heap[b]? = some (.cells #[v0, v1, v2, v3, v4, v5, v6, v7, v8] t)) : w.cell? ⟨b, 0, none⟩ = some v0 ∧ w.cell? ⟨b, 1, none⟩ = some v1 ∧ w.cell? ⟨b, 2, none⟩ = some v2 ∧ w.cell? ⟨b, 3, none⟩ = some v3 ∧ w.cell? ⟨b, 4, none⟩ = some v4 ∧ w.cell? ⟨b, 5, none⟩ = some v5 ∧ w.cell? ⟨b, 6, none⟩ = some v6 ∧ w.cell? ⟨b, 7, none⟩ = some v7 ∧ w.cell? ⟨b, 8, none⟩ = some v8 ∧ b < w.heap.size := ⟨blk_cell h (i := 0) rfl, blk_cell h (i := 1) rfl, blk_cell h (i := 2) rfl, blk_cell h (i := 3) rfl, blk_cell h (i := 4) rfl, blk_cell h (i := 5) rfl, blk_cell h (i := 6) rfl, blk_cell h (i := 7) rfl, blk_cell h (i := 8) rfl, blk_lt h⟩
end Go.Proofs.YtdjinmieogpgcaaGreat
