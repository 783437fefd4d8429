import Derived.Test.YtbjgklifmillgaaMPf
/- Fractions in lowest terms, and the initial distribution. -/
namespace Go.Proofs.Ytbjgklifmillgaa
open Go.RowKit
set_option linter.unusedVariables false

theorem infoFrac : (Try.prog.info? 39).map (fun i => (i.zero, i.size, i.bytes)) = some (some (.agg #[.int .i64 0, .int .i64 0]), 2, 16) := by kernel_rfl
theorem frac1_any (a b : Int) (w : World) : Calls Try.prog 127 #[.agg #[.int .i64 a, .int .i64 b]] w fun e w' => e = .returned (.bool (!smallF (a, b))) ∧ Below w.heap.size w w' := by
  go_enter Try.func127, Try.ntmps127
  go_wp2_with fail
  refine (isSmall_any _ _ _).mono ?_
  rintro e5 w5 ⟨rfl, hb5⟩
  go_wp2
  go_ret
  exact ⟨ret_bool (by unfold smallF; cases wi a (-1000000000) 1000000000 <;> simp), by (repeat' (first | (with_reducible exact Below.refl _ _) | (with_reducible assumption) | (with_reducible refine Below.drewN ?_ _) | (with_reducible refine Below.alloc ?_ ?_ _) | (with_reducible refine Below.drew ?_) | (with_reducible refine Below.setCell ?_ ?_ _) | (with_reducible refine Below.step (by assumption) ?_ ?_) | (with_reducible exact And.left (by assumption)) | go_size))⟩
theorem cf_frac1 (args : Array Value) (w : World) : (callFunc 127 args).run Try.prog w = .ok (.enter 127 args) w := by kernel_rfl

set_option maxRecDepth 100000 in
theorem indexFracs_any (f : FuncId) (p : Int × Int → Bool) (hf : ∀ args w, (callFunc f args).run Try.prog w = .ok (.enter f args) w) (hp : ∀ (x y : Int) (w : World), Calls Try.prog f #[.agg #[.int .i64 x, .int .i64 y]] w fun e w' => e = .returned (.bool (p (x, y))) ∧ Below w.heap.size w w')
    (l : List (Int × Int)) (a : Option Addr) (n c : Nat) (w : World) (hl : PairsR w a n l) :
    Calls Try.prog 155 #[.slice a n c, .func (.func f) #[] #[]] w fun e' w' => e' = .returned (.int .i64 (idxFrom p l 0)) ∧ Below w.heap.size w w' := by
  have HL := Lib.hid hl
  have HP := Lib.hid hp
  have hn := hl.small
  clear hl hp
  go_enter Try.func155, Try.ntmps155
  go_wp2
  go_loopw [8] (fun i wr => ∃ k : Nat, i = .int .i64 k ∧ k ≤ n ∧ Hid (idxFrom p (l.drop k) k = idxFrom p l 0) ∧ Hid (Below w.heap.size w wr)) (fun i _ => n - (intOf i).toNat)
  case atStart => exact ⟨0, rfl, Nat.zero_le _, rfl, Lib.hid (Below.refl _ _)⟩
  case round =>
    obtain ⟨k, rfl, hk, hF, hB⟩ := hrel
    by_cases hlt : k < n
    · obtain ⟨b, o, rfl, hb, hc⟩ := HL.out.addr (by omega)
      have hck := (hc k hlt).1
      have hck2 := (hc k hlt).2
      rw [← cellB hB.out _ _ hb] at hck hck2
      clear hc
      have hF' := hF.out
      rw [drop_at l k (0, 0) (by rw [HL.out.len]; exact hlt), idxFrom] at hF'
      have HF := Lib.hid hF'; clear hF' hF
      obtain ⟨⟨x, y⟩, hx⟩ : ∃ x, x = l.getD k (0, 0) := ⟨_, rfl⟩
      rw [← hx] at hck hck2 HF
      clear hx
      have i0 : (0 : Int) ≤ (k : Int) := by omega
      go_wp2_with fail
      refine (HP.out _ _ _).mono ?_
      rintro e w' ⟨rfl, hb'⟩
      have HB := Lib.hid (hB.out.trans (hb'.mono hB.out.size))
      clear hb' hB
      by_cases hx : p (x, y) = true
      · rw [if_pos hx] at HF
        rw [hx]
        go_wp2
        go_ret
        exact ⟨ret_int HF.out, HB.out⟩
      · rw [if_neg hx] at HF
        have hx' : p (x, y) = false := by simpa using hx
        rw [hx']
        clear hx hx'
        go_wp2
        go_roundw
        case rel => exact ⟨k + 1, by go_num, by omega, HF, HB⟩
        case measure => simp [intOf]; omega
    · go_wp2
      go_ret
      exact ⟨ret_int (by rw [← hF.out, drop_end l k (by rw [HL.out.len]; omega)]; rfl), hB.out⟩
set_option maxRecDepth 100000 in
theorem containsFracs_any (f : FuncId) (p : Int × Int → Bool) (hf : ∀ args w, (callFunc f args).run Try.prog w = .ok (.enter f args) w) (hp : ∀ (x y : Int) (w : World), Calls Try.prog f #[.agg #[.int .i64 x, .int .i64 y]] w fun e w' => e = .returned (.bool (p (x, y))) ∧ Below w.heap.size w w')
    (l : List (Int × Int)) (a : Option Addr) (n c : Nat) (w : World) (hl : PairsR w a n l) :
    Calls Try.prog 126 #[.slice a n c, .func (.func f) #[] #[]] w fun e' w' => e' = .returned (.bool (l.any p)) ∧ Below w.heap.size w w' := by
  have HI := Lib.hid (indexFracs_any f p hf hp l a n c w hl)
  clear hf hp hl
  go_enter Try.func126, Try.ntmps126
  go_wp2_with fail
  refine HI.out.mono ?_
  rintro e w' ⟨rfl, hb⟩
  go_wp2
  go_ret
  exact ⟨ret_bool (idxFrom_any p l 0), hb⟩

theorem take_low (l : List Int) (den : Int) (k : Nat) (h : k < l.length) (p : Int × Int) (hp : low (l.getD k 0) den = p) : (l.take (k + 1)).map (low · den) = (l.take k).map (low · den) ++ [p] := by
  subst hp
  rw [List.take_add_one, List.map_append, List.getElem?_eq_getElem h]
  simp [List.getD, h]
set_option maxHeartbeats 1000000 in
set_option maxRecDepth 100000 in
theorem fractions_any (l : List Int) (den : Int) (a : Option Addr) (n c : Nat) (w : World) (hl : IntsR w a n l) (hn : n ≤ 1000) (bl : ∀ x ∈ l, -9000000000000000000 ≤ x ∧ x ≤ 9000000000000000000) (hd0 : 0 < den) (hd1 : den ≤ 9000000000000000000) :
    Calls Try.prog 86 #[.slice a n c, .int .i64 den] w fun e' w' => Below w.heap.size w w' ∧
      (((l.map (low · den)).any (fun f => !smallF f) = true ∧ e' = .returned (.tuple #[.slice none 0 0, .int .i64 8])) ∨
       ((l.map (low · den)).any (fun f => !smallF f) = false ∧ ∃ a' c', e' = .returned (.tuple #[.slice a' n c', .int .i64 0]) ∧ PairsR w' a' n (l.map (low · den)))) := by
  have HL := Lib.hid hl
  have HBD := Lib.hid bl
  have HCT := Lib.hid (fun a' c' w' h => containsFracs_any _ (fun f => !smallF f) cf_frac1 frac1_any (l.map (low · den)) a' n c' w' h)
  clear hl bl
  go_enter Try.func86, Try.ntmps86
  go_wp2
  go_loopw [6, 11] (fun v i wr => ∃ k : Nat, i = .int .i64 k ∧ k ≤ n ∧ (∃ av cv, v = .slice av k cv ∧ Hid (wr.ownsRow w.heap.size 39 2 (.slice av k cv) k (pcells ((l.take k).map (low · den))))) ∧ Hid (Below w.heap.size w wr)) (fun _ i _ => n - (intOf i).toNat)
  case atStart => exact ⟨0, rfl, Nat.zero_le _, ⟨none, 0, rfl, Lib.hid (World.ownsRow_nil _ _ _ _)⟩, Lib.hid (Below.refl _ _)⟩
  case round =>
    obtain ⟨k, rfl, hk, ⟨av, cv, rfl, hO⟩, hB⟩ := hrel
    by_cases hlt : k < n
    · obtain ⟨b, o, rfl, hb, hc⟩ := HL.out.addr (by omega)
      have hck := hc k hlt
      rw [← cellB hB.out _ _ hb] at hck
      clear hc
      obtain ⟨x, hx⟩ : ∃ x, x = l.getD k 0 := ⟨_, rfl⟩
      have bx : -9000000000000000000 ≤ x ∧ x ≤ 9000000000000000000 := by rw [hx]; exact HBD.out _ (getD_mem (by rw [HL.out.len]; exact hlt))
      rw [← hx] at hck
      obtain ⟨⟨p, q⟩, hpq⟩ : ∃ f, low x den = f := ⟨_, rfl⟩
      have HT := Lib.hid (take_low l den k (by rw [HL.out.len]; exact hlt) (p, q) (by rw [← hx]; exact hpq))
      have hlow := fun w' => lowest_any x den w' bx.1 bx.2 hd0 hd1
      rw [show x.tdiv (gc x den) = p from congrArg Prod.fst hpq, show den / gc x den = q from congrArg Prod.snd hpq] at hlow
      have HLOW := Lib.hid hlow
      clear hx hpq hlow
      have i0 : (0 : Int) ≤ (k : Int) := by omega
      go_wp2_with fail
      refine (HLOW.out _).mono ?_
      rintro e6 w6 ⟨rfl, hb6⟩
      have HO6 := Lib.hid (owns_below hO.out hb6 (fun q hq => (hO.out.lt q hq).2))
      have hb7 := hB.out.trans (hb6.mono hB.out.size)
      have hz6 := hb7.size
      have HB6 := Lib.hid hb7
      clear hO hb6 hB hb7 HLOW
      go_wp2_with (at_builtin; refine wpList_append_sl _ rfl _ _ 99 rfl w.heap.size 39 _ 2 16 Try.underlying99 infoFrac rfl (by omega) (.slice av k cv) k _ rfl (HO6.out.alloc _) _ 1 1 [.int .i64 p, .int .i64 q] rfl (SlR.lit _ _ _ _ _ 1 2 (by rfl) (by simp) rfl (by omega)) (by simp [Value.oneCell']) (by omega) (by omega) (by simp; omega) ?_)
      intro v2 w8 hown8 _ hb8
      obtain ⟨av2, cv2, rfl, _, _⟩ := owns_slice hown8
      have HO8 := Lib.hid (show w8.ownsRow w.heap.size 39 2 (.slice av2 (k + 1) cv2) (k + 1) (pcells ((l.take (k + 1)).map (low · den))) by rw [HT.out, pcells_append]; exact (by simpa [pcells] using hown8))
      have HB8 := Lib.hid (Below.trans HB6.out (Below.trans (b := _) (Below.alloc (Below.refl _ _) hz6 _) hb8))
      clear hown8 hb8
      go_wp2
      go_roundw
      case rel => exact ⟨k + 1, by go_num, by omega, ⟨av2, cv2, rfl, HO8⟩, HB8⟩
      case measure => simp [intOf]; omega
    · obtain rfl : k = n := by omega
      have hz := hB.out.size
      have hP : PairsR wr av k (l.map (low · den)) := by
        have := SlR.of_owns hO.out
        rw [List.take_of_length_le (by rw [HL.out.len]; omega)] at this
        exact this
      have HP := Lib.hid hP
      have HC := Lib.hid (HCT.out av cv wr hP)
      clear HCT hP
      generalize hG : (l.map (low · den)).any (fun f => !smallF f) = G at HC
      have HG := Lib.hid hG
      clear hG
      go_wp2_with fail
      refine HC.out.mono ?_
      rintro e6 w6 ⟨rfl, hb6⟩
      have HB6 := Lib.hid (hB.out.trans (hb6.mono hz))
      have HP6 := Lib.hid (HP.out.below hb6)
      clear hb6 HC HP
      cases G
      · go_wp2
        go_ret2
        exact ⟨HB6.out, .inr ⟨HG.out, av, cv, rfl, HP6.out⟩⟩
      · go_wp2
        go_ret2
        exact ⟨HB6.out, .inl ⟨HG.out, rfl⟩⟩
end Go.Proofs.Ytbjgklifmillgaa
