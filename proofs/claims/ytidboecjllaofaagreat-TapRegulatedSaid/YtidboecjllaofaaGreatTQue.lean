import Derived.ArgAppend
import Derived.Deep.AppendLies
import Derived.Test.YtidboecjllaofaaGreatME
import Derived.Test.YtidboecjllaofaaGreatTRea
/- A queue: a slice whose beginning moves; an append behind it. slices.Clone at integers. -/
namespace Go.Proofs.YtidboecjllaofaaGreat
open Go.RowKit
set_option linter.unusedVariables false

/-- The slice v has the cells xs, in a row of the call's own (from base on) that it may grow in. -/
def QueR (w : World) (base : Nat) (e : TypeId) (v : Value) (n : Nat) (xs : List Value) : Prop :=
  xs.length = n ∧ ∃ g o cap cur, v = .slice (some ⟨g, o, none⟩) n cap ∧ base ≤ g ∧ w.heap[g]? = some (.cells cur e (0, 0)) ∧ n ≤ cap ∧ o + cap ≤ cur.size ∧ cap ≤ maxLen ∧ (cur.toList.drop o).take n = xs
theorem QueR.of_own {w : World} {base : Nat} {e : TypeId} {g n cap : Nat} {xs : List Value} (h : w.ownsRow base e 1 (.slice (some ⟨g, 0, none⟩) n cap) n xs) : QueR w base e (.slice (some ⟨g, 0, none⟩) n cap) n xs := by
  obtain ⟨hl, h | ⟨g', cap', cur, hv, h1, h2, h3, h4, h5, h6⟩⟩ := h
  · cases h.1
  · cases hv
    rw [Nat.mul_one] at hl h5 h6
    exact ⟨hl, g, 0, cap, cur, rfl, h1, h2, h3, by omega, h4, by rw [List.drop_zero]; exact h6⟩
theorem QueR.mono {w : World} {base base' : Nat} {e : TypeId} {v : Value} {n : Nat} {xs : List Value} (h : QueR w base e v n xs) (hb : base' ≤ base) : QueR w base' e v n xs := by
  obtain ⟨hl, g, o, cap, cur, hv, h1, h2⟩ := h
  exact ⟨hl, g, o, cap, cur, hv, Nat.le_trans hb h1, h2⟩
theorem QueR.keep {w w' : World} {base : Nat} {e : TypeId} {v : Value} {n : Nat} {xs : List Value} (h : QueR w base e v n xs) (hk : ∀ (k : Nat) (cur : Array Value), w.heap[k]? = some (Obj.cells cur e (0, 0)) → w'.heap[k]? = some (Obj.cells cur e (0, 0))) : QueR w' base e v n xs := by
  obtain ⟨hl, g, o, cap, cur, hv, h1, h2, h3⟩ := h
  exact ⟨hl, g, o, cap, cur, hv, h1, hk _ _ h2, h3⟩
theorem QueR.below {w w' : World} {base : Nat} {e : TypeId} {v : Value} {n : Nat} {xs : List Value} (h : QueR w base e v n xs) (hb : Below w.heap.size w w') : QueR w' base e v n xs :=
  h.keep fun k cur hk => (hb.block k (Array.getElem?_eq_some_iff.1 hk).1).trans hk
theorem QueR.put {w : World} {base l : Nat} {e : TypeId} {v : Value} {n : Nat} {xs : List Value} {r r' : Loop} (h : QueR w base e v n xs) (hl : w.heap[l]? = some (.loop r)) : QueR (w.putObj l (.loop r')) base e v n xs :=
  h.keep fun k cur hk => (World.putObj_heap_other (by rintro rfl; rw [hl] at hk; cases hk)).trans hk
theorem QueR.set {w : World} {base b i : Nat} {e t : TypeId} {v x : Value} {n : Nat} {xs : List Value} {c : Array Value} (h : QueR w base e v n xs) (hb : w.heap[b]? = some (.cells c t)) (ht : e ≠ t) : QueR (w.setCell ⟨b, i, none⟩ x) base e v n xs :=
  h.keep fun k cur hk => (heap_set_neI (by rintro rfl; rw [hb] at hk; simp only [Option.some.injEq, Obj.cells.injEq] at hk; exact ht hk.2.1.symm)).trans hk
/-- The first cell, and the rest. -/
theorem QueR.cell {w : World} {base : Nat} {e : TypeId} {v : Value} {n : Nat} {x : Value} {xs : List Value} (h : QueR w base e v (n + 1) (x :: xs)) :
    ∃ g o cap, v = .slice (some ⟨g, o, none⟩) (n + 1) (cap + 1) ∧ n ≤ cap ∧ g < w.heap.size ∧ w.cell? ⟨g, o, none⟩ = some x ∧ ∃ cur, w.heap[g]? = some (.cells cur e (0, 0)) ∧ base ≤ g ∧ o + (cap + 1) ≤ cur.size ∧ cap + 1 ≤ maxLen ∧ (cur.toList.drop (o + 1)).take n = xs := by
  obtain ⟨hl, g, o, cap, cur, hv, h1, h2, h3, h4, h5, h6⟩ := h
  obtain ⟨cap, rfl⟩ : ∃ c, cap = c + 1 := ⟨cap - 1, by omega⟩
  have ho : o < cur.toList.length := by rw [Array.length_toList]; omega
  rw [List.drop_eq_getElem_cons ho, List.take_succ_cons] at h6
  injection h6 with h6 h7
  refine ⟨g, o, cap, hv, by omega, (Array.getElem?_eq_some_iff.1 h2).1, ?_, cur, h2, h1, h4, h5, h7⟩
  rw [cell_of_row _ _ _ _ _ _ h2]
  rw [Array.getElem?_eq_getElem (by rw [Array.length_toList] at ho; exact ho)]
  rw [← h6]
  simp
theorem run_append_que {P : Program} (w : World) (base : Nat) (t ty e : TypeId) (i : TypeInfo) (z : Value) (bytes : Nat) (ht : P.underlying t = some (.slice e)) (hi : P.info? e = some i) (hz : i.zero = some z)
    (hsize : i.size = 1) (hby : i.bytes = bytes) (hzs : z.cells.size = 1) (v : Value) (n : Nat) (xs : List Value) (hq : QueR w base e v n xs)
    (a : Addr) (c : Nat) (u : Value) (hu : w.cell? a = some u) (h1 : u.oneCell' = true) (h63 : n + 1 ≤ maxLen) (hbytes : (n + 1) * bytes ≤ 140737488355328) (hbase : base ≤ w.heap.size) :
    ∃ v' w', (Builtin.append_ #[t, t] ty #[v, .slice (some a) 1 c]).run P w = .ok v' w' ∧ QueR w' base e v' (n + 1) (xs ++ [u]) ∧ w.grownBy w' v.ownBlock ∧ (v'.ownBlock = v.ownBlock ∨ ∀ b, v'.ownBlock = some b → w.heap.size ≤ b) := by
  obtain ⟨hl, g, o, cap, cur, rfl, hbg, hg, hnc, hcs, hcm, htk⟩ := hq
  have hnews : ∀ j u', ([u] : List Value)[j]? = some u' → w.cell? (a.add j) = some u' := fun j u' hj => by
    match j with
    | 0 => simp only [List.getElem?_cons_zero, Option.some.injEq] at hj; subst hj; exact (by simpa [Addr.add] using hu)
    | j + 1 => simp at hj
  by_cases hroom : n + 1 ≤ cap
  · have hr := run_append_room_cells (P := P) w t ty e i ht hi g o n cap a 1 c [u] (by rw [hsize]; rfl) hnews (by simpa using h1) hroom
      (fun j hj => by
        obtain rfl : j = 0 := by simpa using hj
        rw [hsize, Nat.mul_one, Nat.add_zero, cell_of_row _ _ _ _ _ _ hg, Array.getElem?_eq_getElem (by omega)]; rfl)
      (fun j hj => frozen_of_row _ _ _ _ _ hg)
    refine ⟨_, _, hr, ⟨by simp [hl], g, o, cap, cur.setIfInBounds (o + n) u, rfl, hbg, ?_, hroom, by simpa using hcs, hcm, ?_⟩, ?_⟩
    · rw [hsize, Nat.mul_one]
      exact blk_set hg (o + n) u
    · apply List.ext_getElem?
      intro j
      rw [← htk, Array.toList_setIfInBounds]
      by_cases hj : j < n + 1
      · rw [List.getElem?_take_of_lt hj, List.getElem?_drop]
        by_cases hj2 : j < n
        · rw [List.getElem?_append_left (by rw [htk]; omega), List.getElem?_take_of_lt hj2, List.getElem?_drop, List.getElem?_set_ne (by omega)]
        · obtain rfl : j = n := by omega
          rw [List.getElem?_append_right (by rw [htk]; omega), htk, hl, Nat.sub_self, List.getElem?_set_self (by rw [Array.length_toList]; omega)]
          rfl
      · rw [List.getElem?_eq_none (by rw [List.length_take]; omega), List.getElem?_eq_none (by rw [htk, List.length_append, List.length_singleton]; omega)]
    · refine ⟨⟨rfl, rfl, rfl, by simp [World.setCells], fun k _ hk => ?_⟩, .inl rfl⟩
      rw [hsize, Nat.mul_one]
      exact heap_set_neI (fun e => hk (by simp [Value.ownBlock, e]))
  · have holds : ∀ j u', xs[j]? = some u' → w.cell? ((⟨g, o, none⟩ : Addr).add j) = some u' := fun j u' hj => by
      rw [← htk] at hj
      have hjn : j < n := by
        have := (List.getElem?_eq_some_iff.1 hj).1
        rw [List.length_take] at this
        omega
      rw [List.getElem?_take_of_lt hjn, List.getElem?_drop] at hj
      rw [Addr.add_lit, cell_of_row _ _ _ _ _ _ hg]
      simpa using hj
    obtain ⟨v', w', hr, h2, h3⟩ := run_append_arg_grows (P := P) w t ty e i z 1 bytes ht hi hz hsize hby hzs (by omega) ⟨g, o, none⟩ n cap xs (by omega) holds a 1 c [u] rfl hnews (by omega) h63 hbytes
    obtain ⟨hl2, hh | ⟨g', cap', cur', rfl, hgb, h4⟩⟩ := h2
    · omega
    · refine ⟨_, w', hr, (QueR.of_own ⟨hl2, .inr ⟨g', cap', cur', rfl, hgb, h4⟩⟩).mono hbase, ?_, .inr (fun b hb => by simp only [Value.ownBlock, Option.some.injEq] at hb; omega)⟩
      obtain ⟨q1, q2, q3, q4, q5⟩ := h3
      exact ⟨q1, q2, q3, q4, fun k hk hne => q5 k hk (by simp)⟩
theorem wpListIn_que {F : Fence} {N : Nat} {P : Program} {ops : Array Oper} {rest : List Oper} {o : Oper} {a : Act} {Q : Exit → Act → World → Prop} (w : World) (hgd : o.guard = none) (s x : Operand) (t : TypeId)
    (ho : o.op = .call { callee := .builtin .append, args := #[s, x], argTypes := #[t, t] }) (base : Nat) (e : TypeId) (i : TypeInfo) (z : Value) (bytes : Nat) (ht : P.underlying t = some (.slice e)) (hi : P.info? e = some i) (hz : i.zero = some z)
    (hsize : i.size = 1) (hby : i.bytes = bytes) (hzs : z.cells.size = 1) (v : Value) (n : Nat) (xs : List Value) (hs : a.eval s = v) (hq : QueR w base e v n xs)
    (ad : Addr) (c : Nat) (u : Value) (hx : a.eval x = .slice (some ad) 1 c) (hu : w.cell? ad = some u) (h1 : u.oneCell' = true) (h63 : n + 1 ≤ maxLen) (hbytes : (n + 1) * bytes ≤ 140737488355328) (hbase : base ≤ w.heap.size)
    (h : ∀ v' w', QueR w' base e v' (n + 1) (xs ++ [u]) → w.grownBy w' v.ownBlock → Below base w w' → (v'.ownBlock = v.ownBlock ∨ ∀ b, v'.ownBlock = some b → w.heap.size ≤ b) → wpListIn F N P ops Q rest (a.put o.dst v') w') : wpListIn F N P ops Q (o :: rest) a w := by
  obtain ⟨v', w', hr, h2, h3, h4⟩ := run_append_que (P := P) w base t o.type e i z bytes ht hi hz hsize hby hzs v n xs hq ad c u hu h1 h63 hbytes hbase
  have hbl : Below base w w' := (Below.refl base w).grown h3 hbase (fun k hk => by
    obtain ⟨_, g, o', cap, cur, rfl, hb, _⟩ := hq
    simp only [Value.ownBlock, Option.some.injEq] at hk
    omega)
  refine wpListIn_plain hgd fun K hK' => ?_
  unfold Oper.wpIn
  refine ⟨?_, ?_⟩
  · simp [Oper.about, ho, resolve, Target.leads, Sem.run_pure]
  · rw [Oper.semAt_plain F _ _ (by rw [ho]; intro c hc'; cases hc')]
    simp [execOp, ho, resolve, invoke, builtin, hs, hx, hr, Result.andThen]
    exact hK' _ _ (h v' w' h2 h3 hbl h4)
end Go.Proofs.YtidboecjllaofaaGreat
