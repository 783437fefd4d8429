import Derived.Deep.AppendLies
import Derived.Test.YtbjgklifmillgaaDecCeil
import Derived.Test.YtbjgklifmillgaaEncLib
import Derived.Test.YtbjgklifmillgaaMCf
import Derived.Test.YtbjgklifmillgaaMCr
import Derived.Test.YtbjgklifmillgaaMOo
import Derived.Test.YtbjgklifmillgaaMSch
import Derived.Test.YtbjgklifmillgaaWst
/- TopSurgeCreep: the walk. -/
namespace Go.Proofs.Ytbjgklifmillgaa
open Go.RowKit
set_option linter.unusedVariables false

theorem infoPath' : (Try.prog.info? 98).map (fun i => (i.zero, i.size, i.bytes)) = some (some (.agg #[.string ByteArray.empty, .int .i64 0, .int .i64 0, .int .i64 0, .int .i64 0]), 5, 48) := by kernel_rfl
theorem pEnc_one' (l : List PathV) : ∀ u ∈ ecells pEnc l, u.oneCell' = true := ecells_ones (fun x u hu => by
  simp only [pEnc, List.mem_cons, List.not_mem_nil, or_false] at hu
  rcases hu with rfl | rfl | rfl | rfl | rfl <;> rfl) l
set_option maxRecDepth 100000 in
theorem copyPaths_any' (l : List PathV) (a : Option Addr) (n c : Nat) (w : World) (h : PathsR w a n l) (hn : n ≤ 100000) :
    Calls Try.prog 43 #[.slice a n c] w fun e' w' => ∃ a' c', e' = .returned (.slice a' n c') ∧ n ≤ c' ∧ Below w.heap.size w w' ∧ PathsR w' a' n l := by
  have H := Lib.hid h.2
  have HN := Lib.hid h.1
  clear h
  go_enter Try.func43, Try.ntmps43
  go_wp2_with (at_builtin; refine wpList_append_sl _ rfl _ _ 88 rfl w.heap.size 98 _ 5 48 Try.underlying88 infoPath' rfl (by omega) _ _ _ rfl (World.ownsRow_made w #[] 0 (by omega) (by simp [maxLen]) rfl) a n c (ecells pEnc l) rfl (H.out.below (by (repeat' (first | (with_reducible exact Below.refl _ _) | (with_reducible assumption) | (with_reducible refine Below.drewN ?_ _) | (with_reducible refine Below.alloc ?_ ?_ _) | (with_reducible refine Below.drew ?_) | (with_reducible refine Below.setCell ?_ ?_ _) | (with_reducible refine Below.step (by assumption) ?_ ?_) | (with_reducible exact And.left (by assumption)) | go_size)))) (pEnc_one' _) (by omega) (by omega) (by simp) ?_)
  intro v2 w2 hown2 _ hb2
  try simp only [Nat.zero_add, List.nil_append] at hown2
  obtain ⟨a', c', rfl, hc', _⟩ := owns_slice hown2
  have HO := Lib.hid (ER.of_owns HN.out hown2)
  have HB := Lib.hid hb2
  clear hown2 hb2
  go_wp2
  go_ret
  exact ⟨a', c', rfl, hc', Below.trans (by (repeat' (first | (with_reducible exact Below.refl _ _) | (with_reducible assumption) | (with_reducible refine Below.drewN ?_ _) | (with_reducible refine Below.alloc ?_ ?_ _) | (with_reducible refine Below.drew ?_) | (with_reducible refine Below.setCell ?_ ?_ _) | (with_reducible refine Below.step (by assumption) ?_ ?_) | (with_reducible exact And.left (by assumption)) | go_size))) HB.out, HO.out⟩
/-- 'append(out, xs...)': out the call's own, xs not empty; where the row lies then. -/
theorem wpList_append_sl_at {P : Program} (w : World) {ops : Array Oper} {rest : List Oper} {o : Oper} {a : Act} {Q : Exit → Act → World → Prop} (hgd : o.guard = none) (s x : Operand) (t : TypeId)
    (ho : o.op = .call { callee := .builtin .append, args := #[s, x], argTypes := #[t, t] })
    (base : Nat) (e : TypeId) (z : Value) (size bytes : Nat) (ht : P.underlying t = some (.slice e)) (hi : (P.info? e).map (fun i => (i.zero, i.size, i.bytes)) = some (some z, size, bytes))
    (hzs : z.cells.size = size) (hsz : 0 < size)
    (v : Value) (n : Nat) (xs : List Value) (hs : a.eval s = v) (hown : w.ownsRow base e size v n xs)
    (ao : Option Addr) (m c : Nat) (hm : 0 < m) (news : List Value) (hx : a.eval x = .slice ao m c) (hsrc : SlR w ao m size news) (h1 : ∀ u ∈ news, u.oneCell' = true)
    (hnm : n + m ≤ 1000000) (hbytes : bytes ≤ 1000) (hbase : base ≤ w.heap.size)
    (h : ∀ v' w', w'.ownsRow base e size v' (n + m) (xs ++ news) → w.grownBy w' v.ownBlock → (v'.ownBlock = v.ownBlock ∨ v'.ownBlock = some w.heap.size) → Below base w w' → wpList P ops Q rest (a.put o.dst v') w') : wpList P ops Q (o :: rest) a w := by
  obtain ⟨i, hi1, hi2, hi3, hi4⟩ := info_parts hi
  obtain ⟨b, o', rfl, hb, hc⟩ := hsrc.2.2 hm
  have hmul : (n + m) * bytes ≤ 1000000 * 1000 := Nat.mul_le_mul hnm hbytes
  refine wpList_append_own_at w hgd s x t ho base e i z size bytes ht hi1 hi2 hi3 hi4 hzs hsz v n xs hs hown ⟨b, o', none⟩ m c news hx hsrc.1 (fun j u hu => by rw [Addr.add_lit]; exact hc j u hu) h1 (by unfold maxLen; omega) (by omega) hbase
    (fun v' w' h2 h3 _ h5 => h v' w' h2 h3 h5 ((Below.refl base w).grown h3 hbase (fun k hk => (hown.lt k hk).1)))
theorem SameX.of_grown {B b0 : Nat} {w w' w0 : World} {ob : Option Nat} (h : SameX B b0 w0 w) (hg : w.grownBy w' ob) (hB : B ≤ w.heap.size) (ho : ∀ q, ob = some q → q = b0) : SameX B b0 w0 w' := fun b o hb hne => by
  rw [← h b o hb hne]
  exact hg.cell_far ⟨b, o, none⟩ (Nat.lt_of_lt_of_le hb hB) (fun e => hne (ho b e.symm))
set_option maxHeartbeats 8000000 in
set_option maxRecDepth 100000 in
theorem crp_main (s e : List (Int × Int)) (X : List Int) (a a1 ax : Option Addr) (n c c1 nx cx : Nat) (g : Bool) (v len : Int) (w : World) (hs : PairsR w a n s) (he : PairsR w a1 n e) (hx : IntsR w ax nx X) (h0 : rngErr s e = 0) (hx0 : 2 * n ≤ nx) (hx1 : nx ≤ 20) (bX : ∀ k, -9223372036854775808 ≤ X.getD k 0 ∧ X.getD k 0 ≤ 9223372036854775807)
    (hv : 1 ≤ v ∧ v ≤ 1000) (hlen : 1 ≤ len ∧ len ≤ 100) :
    Calls Try.prog 5 #[.agg #[.slice a n c, .slice a1 n c1, .bool g], .slice ax nx cx, .agg #[.int .i64 v, .int .i64 len]] w fun e' w' => e' = .returned (.bool true) ∧ Below w.heap.size w w' := by
  obtain ⟨hl0, hel, h6, hbd⟩ := rngErr_zero h0
  have hsl := hs.len
  rw [hsl] at hl0 h6 hel hbd
  obtain ⟨L, hL⟩ : ∃ L : Nat, lastOf n g = L := by
    unfold lastOf
    split
    · exact ⟨n - 1, by omega⟩
    · exact ⟨n, rfl⟩
  have HFS := Lib.hid (fun w' => fewRanges_any a a1 n c n c1 g w' (by omega) (by omega))
  rw [show (decide ((n : Int) ≤ 8) && decide ((n : Int) ≤ 8)) = true by simp; omega] at HFS
  have HLE := Lib.hid (fun (v : World) (hv : Below w.heap.size w v) => rrangesErr_any s e a a1 n c n c1 g v (hs.below hv) (he.below hv))
  rw [h0] at HLE
  have HW1 := Lib.hid (fun w' => bwithin_any v 1 1000 w')
  have HW2 := Lib.hid (fun w' => bwithin_any len 1 100 w')
  rw [wi_iff.2 hv] at HW1
  rw [wi_iff.2 hlen] at HW2
  have HCS := Lib.hid (fun (v : World) (hv : Below w.heap.size w v) => copySpans_any s e a a1 n c n c1 g v (hs.below hv) (he.below hv) (by omega) (by omega))
  have HGS := Lib.hid (fun (v : World) (a3 a4 : Option Addr) (c3 c4 j : Nat) (hj : j < n) (h1 : PairsR v a3 n s) (h2 : PairsR v a4 n e) => gapSpan_ok s e a3 a4 n c3 n c4 L j g (j : Int) rfl v h1 h2 h0 hL hj)
  have HGU := Lib.hid (fun (j : Nat) (hj : j < n) (hi : Bool) => gap_unit (g := g) h0 hsl hL j hj hi)
  have HGG := Lib.hid (fun (j : Nat) (hj : j < n) => (gap_enc (g := g) X h0 hsl hL j hj).2.2)
  have HPE := Lib.hid (gPths_err (g := g) h0 hsl hL hv hlen)
  have HKP := Lib.hid (fun (j : Nat) (hj : j < n) (u : List (Int × Int)) hu => gPth_kept (g := g) (u := u) X h0 hsl hL hv hlen j hj hu)
  have HWE := Lib.hid (fun (j : Nat) (hj : j < n) => worst_enc (g := g) X h0 hsl hL j hj)
  have HLD := Lib.hid (rng_pk (g := g) X h0 hsl hL)
  have HLE0 := Lib.hid (pk_err (g := g) X h0 hsl hL)
  have HLL := Lib.hid hL
  obtain ⟨bs, os, rfl, hbs, hcs⟩ := hs.addr hl0
  obtain ⟨be, oe, rfl, hbe, hce⟩ := he.addr hl0
  obtain ⟨bx, ox, rfl, hbx0, hcx⟩ := hx.addr (by omega)
  have HCC := Lib.hid (And.intro hcs (And.intro hce hcx))
  have HBD := Lib.hid hbd
  have HBX := Lib.hid bX
  clear hs he hx h0 hcs hce hcx hel hsl hL hbd bX
  go_enter Try.func5, Try.ntmps5
  go_wp2_with fail
  refine (topAwake_any _).mono ?_
  rintro e5 w5 ⟨rfl, hb5⟩
  have hz5 := hb5.size
  simp only [World.size_alloc] at hz5
  have q0 : w5.cell? ⟨w.heap.size, 0, none⟩ = some (.slice (some ⟨bs, os, none⟩) n c) := by { rw [cellB hb5 _ _ (by first | (simp; done) | (simp; omega) | omega)]; all_goals (first | assumption | go_simp) }; have q1 : w5.cell? ⟨w.heap.size, 1, none⟩ = some (.slice (some ⟨be, oe, none⟩) n c1) := by { rw [cellB hb5 _ _ (by first | (simp; done) | (simp; omega) | omega)]; all_goals (first | assumption | go_simp) }; have q2 : w5.cell? ⟨w.heap.size, 2, none⟩ = some (.bool g) := by { rw [cellB hb5 _ _ (by first | (simp; done) | (simp; omega) | omega)]; all_goals (first | assumption | go_simp) }; have l0 : w.heap.size < w5.heap.size := by { omega }; have v0 : w5.cell? ⟨w.heap.size + 1, 0, none⟩ = some (.int .i64 v) := by { rw [cellB hb5 _ _ (by first | (simp; done) | (simp; omega) | omega)]; all_goals (first | assumption | go_simp) }; have v1 : w5.cell? ⟨w.heap.size + 1, 1, none⟩ = some (.int .i64 len) := by { rw [cellB hb5 _ _ (by first | (simp; done) | (simp; omega) | omega)]; all_goals (first | assumption | go_simp) }; have l1 : w.heap.size + 1 < w5.heap.size := by { omega }
  have HBv := Lib.hid (show Below w.heap.size w w5 by (repeat' (first | (with_reducible exact Below.refl _ _) | (with_reducible assumption) | (with_reducible refine Below.drewN ?_ _) | (with_reducible refine Below.alloc ?_ ?_ _) | (with_reducible refine Below.drew ?_) | (with_reducible refine Below.setCell ?_ ?_ _) | (with_reducible refine Below.step (by assumption) ?_ ?_) | (with_reducible exact And.left (by assumption)) | go_size)))
  clear hb5 hz5
  go_wp2_with fail
  go_quiet (fail)
  go_wp2_with fail
  refine (HFS.out _).mono ?_
  rintro e6 w6 ⟨rfl, hbx⟩
  have hzx : w5.heap.size ≤ w6.heap.size := hbx.size
  have q0c : w6.cell? ⟨w.heap.size, 0, none⟩ = some (.slice (some ⟨bs, os, none⟩) n c) := by { rw [cellB hbx _ _ (by first | (simp; done) | (simp; omega) | omega)]; all_goals (first | assumption | go_simp) }; have q1c : w6.cell? ⟨w.heap.size, 1, none⟩ = some (.slice (some ⟨be, oe, none⟩) n c1) := by { rw [cellB hbx _ _ (by first | (simp; done) | (simp; omega) | omega)]; all_goals (first | assumption | go_simp) }; have q2c : w6.cell? ⟨w.heap.size, 2, none⟩ = some (.bool g) := by { rw [cellB hbx _ _ (by first | (simp; done) | (simp; omega) | omega)]; all_goals (first | assumption | go_simp) }; have l0c : w.heap.size < w6.heap.size := by { omega }
  have HBv := Lib.hid ((HBv.out.drewN _).trans (hbx.mono HBv.out.size))
  clear hbx q0 q1 q2 l0 v0 v1 l1
  go_wp2_with fail
  refine (HLE.out _ HBv.out).mono ?_
  rintro e7 w7 ⟨rfl, hbx⟩
  have hzy := hbx.size
  have q0 : w7.cell? ⟨w.heap.size, 0, none⟩ = some (.slice (some ⟨bs, os, none⟩) n c) := by { rw [cellB hbx _ _ (by first | (simp; done) | (simp; omega) | omega)]; all_goals (first | assumption | go_simp) }; have q1 : w7.cell? ⟨w.heap.size, 1, none⟩ = some (.slice (some ⟨be, oe, none⟩) n c1) := by { rw [cellB hbx _ _ (by first | (simp; done) | (simp; omega) | omega)]; all_goals (first | assumption | go_simp) }; have q2 : w7.cell? ⟨w.heap.size, 2, none⟩ = some (.bool g) := by { rw [cellB hbx _ _ (by first | (simp; done) | (simp; omega) | omega)]; all_goals (first | assumption | go_simp) }; have l0 : w.heap.size < w7.heap.size := by { omega }
  have HBv := Lib.hid (HBv.out.trans (hbx.mono HBv.out.size))
  have hzv := HBv.out.size
  clear hbx q0c q1c q2c l0c
  have j1 : ¬ (nx : Int) < 2 * (n : Int) := by omega
  have j2 : ¬ (20 : Int) < (nx : Int) := by omega
  go_wp2_with fail
  refine (HW1.out _).mono ?_
  rintro e8 w8 ⟨rfl, rfl⟩
  go_wp2_with fail
  refine (HW2.out _).mono ?_
  rintro e8 w8 ⟨rfl, rfl⟩
  go_wp2_with fail
  generalize hW : w7.alloc _ = w8
  have hb8 : Below w7.heap.size w7 w8 := by rw [← hW]; exact (Below.refl _ _).alloc (Nat.le_refl _) _
  obtain ⟨BL, hBL⟩ : ∃ B, B = w7.heap.size := ⟨_, rfl⟩
  have b0 : w8.cell? ⟨w7.heap.size, 0, none⟩ = some (.slice none 0 0) := by { rw [← hW]; clear hW; go_simp }
  have b1 : w8.cell? ⟨w7.heap.size, 1, none⟩ = some (.slice none 0 0) := by { rw [← hW]; clear hW; go_simp }
  have b2 : w8.cell? ⟨w7.heap.size, 2, none⟩ = some (.slice none 0 0) := by { rw [← hW]; clear hW; go_simp }
  have b3 : w8.cell? ⟨w7.heap.size, 3, none⟩ = some (.bool g) := by { rw [← hW]; clear hW; go_simp }
  have f0 : w8.frozen? ⟨w7.heap.size, 0, none⟩ = false := by { rw [← hW]; clear hW; go_simp }
  have f1 : w8.frozen? ⟨w7.heap.size, 1, none⟩ = false := by { rw [← hW]; clear hW; go_simp }
  have f2 : w8.frozen? ⟨w7.heap.size, 2, none⟩ = false := by { rw [← hW]; clear hW; go_simp }
  have hz8 : w8.heap.size = w7.heap.size + 1 := by rw [← hW]; simp
  rw [← hBL] at b0 b1 b2 b3 f0 f1 f2 hz8 ⊢
  have q0c : w8.cell? ⟨w.heap.size, 0, none⟩ = some (.slice (some ⟨bs, os, none⟩) n c) := by { rw [cellB hb8 _ _ (by first | (simp; done) | (simp; omega) | omega)]; all_goals (first | assumption | go_simp) }; have q1c : w8.cell? ⟨w.heap.size, 1, none⟩ = some (.slice (some ⟨be, oe, none⟩) n c1) := by { rw [cellB hb8 _ _ (by first | (simp; done) | (simp; omega) | omega)]; all_goals (first | assumption | go_simp) }; have q2c : w8.cell? ⟨w.heap.size, 2, none⟩ = some (.bool g) := by { rw [cellB hb8 _ _ (by first | (simp; done) | (simp; omega) | omega)]; all_goals (first | assumption | go_simp) }; have l0c : w.heap.size < w8.heap.size := by { omega }
  have HB8 := Lib.hid (HBv.out.trans (hb8.mono (by omega)))
  have hlB : w.heap.size < BL := by omega
  have hBw : BL < w8.heap.size := by omega
  have HBLE := Lib.hid (And.intro hBL hz8)
  have HQ8 := Lib.hid (And.intro q0c (And.intro q1c q2c))
  clear hW hb8 q0 q1 q2 l0 HBv hBL hz8 hzv
  go_loopw [10, 11] (fun pv i wr => ∃ (k : Nat) (av1 av2 av3 ap : Option Addr) (cv1 cv2 cv3 cp : Nat), pv = .slice ap k cp ∧ i = .int .i64 k ∧ k ≤ n ∧ wr.cell? ⟨BL, 0, none⟩ = some (.slice av1 k cv1) ∧ wr.cell? ⟨BL, 1, none⟩ = some (.slice av2 k cv2) ∧ wr.cell? ⟨BL, 2, none⟩ = some (.slice av3 k cv3) ∧ wr.cell? ⟨BL, 3, none⟩ = some (.bool g) ∧ wr.frozen? ⟨BL, 0, none⟩ = false ∧ wr.frozen? ⟨BL, 1, none⟩ = false ∧ wr.frozen? ⟨BL, 2, none⟩ = false
    ∧ Hid (O4 wr (BL + 1) (.slice av1 k cv1) (.slice av2 k cv2) (.slice av3 k cv3) k k k (pkL s X 0 k) (pkL e X 1 k) (List.replicate k 1) 98 5 (.slice ap k cp) k (ecells pEnc (gPths s e n L v len k))) ∧ Hid (Below BL w8 wr) ∧ BL < wr.heap.size ∧ Hid (∀ j, j < k → smallF (gapFr s e n L j false) = true ∧ smallF (gapFr s e n L j true) = true)) (fun pv i _ => n - (intOf i).toNat)
  case atStart => exact ⟨0, none, none, none, none, 0, 0, 0, 0, rfl, rfl, Nat.zero_le _, b0, b1, b2, b3, f0, f1, f2, Lib.hid (O4.nil _ _ _ _), Lib.hid (Below.refl _ _), hBw, Lib.hid (fun j hj => absurd hj (by omega))⟩
  case round =>
    clear b0 b1 b2 b3 f0 f1 f2
    obtain ⟨k, av1, av2, av3, ap, cv1, cv2, cv3, cp, rfl, rfl, hk, b0, b1, b2, b3, f0, f1, f2, hO, hB, lB, hsm⟩ := hrel
    obtain ⟨wh, rfl⟩ : ∃ w', w' = wr := ⟨wr, rfl⟩
    have HSM := Lib.hid hsm.out
    clear hsm
    have hbh := hB.out
    have q0 : wh.cell? ⟨w.heap.size, 0, none⟩ = some (.slice (some ⟨bs, os, none⟩) n c) := by { rw [cellB hbh _ _ (by first | (simp; done) | (simp; omega) | omega)]; all_goals (first | assumption | go_simp) }; have q1 : wh.cell? ⟨w.heap.size, 1, none⟩ = some (.slice (some ⟨be, oe, none⟩) n c1) := by { rw [cellB hbh _ _ (by first | (simp; done) | (simp; omega) | omega)]; all_goals (first | assumption | go_simp) }; have q2 : wh.cell? ⟨w.heap.size, 2, none⟩ = some (.bool g) := by { rw [cellB hbh _ _ (by first | (simp; done) | (simp; omega) | omega)]; all_goals (first | assumption | go_simp) }; have l0 : w.heap.size < wh.heap.size := by { omega }
    have HBH := Lib.hid (HB8.out.trans (hbh.mono (by omega)))
    have HBb := Lib.hid hB.out
    have HO := Lib.hid hO.out
    have HOH := Lib.hid hO.out
    clear hbh hB hO q0c q1c q2c l0c
    rcases Nat.lt_or_ge k n with hlt | hge
    · skip
      obtain ⟨⟨x, y⟩, hxy⟩ : ∃ p, p = gr s k := ⟨_, rfl⟩
      obtain ⟨⟨z, t⟩, hzt⟩ : ∃ p, p = gr e k := ⟨_, rfl⟩
      obtain ⟨X0, hX0⟩ : ∃ x, x = X.getD (2 * k) 0 := ⟨_, rfl⟩
      obtain ⟨X1, hX1⟩ : ∃ x, x = X.getD (2 * k + 1) 0 := ⟨_, rfl⟩
      have hx := HCC.out.1 k hlt
      have hz := HCC.out.2.1 k hlt
      have hq0 := HCC.out.2.2 (2 * k) (by omega)
      have hq1 := HCC.out.2.2 (2 * k + 1) (by omega)
      have hlb0 : bs < wh.heap.size := by have := HBH.out.size; omega
      have hlb1 : be < wh.heap.size := by have := HBH.out.size; omega
      have hlb2 : bx < wh.heap.size := by have := HBH.out.size; omega
      have cx : wh.cell? ⟨bs, os + k * 2, none⟩ = some (.int .i64 x) := by rw [cellB HBH.out _ _ hbs, hx.1, show x = (gr s k).1 by rw [← hxy]]
      have cy : wh.cell? ⟨bs, os + k * 2 + 1, none⟩ = some (.int .i64 y) := by rw [cellB HBH.out _ _ hbs, hx.2, show y = (gr s k).2 by rw [← hxy]]
      have cz : wh.cell? ⟨be, oe + k * 2, none⟩ = some (.int .i64 z) := by rw [cellB HBH.out _ _ hbe, hz.1, show z = (gr e k).1 by rw [← hzt]]
      have ct : wh.cell? ⟨be, oe + k * 2 + 1, none⟩ = some (.int .i64 t) := by rw [cellB HBH.out _ _ hbe, hz.2, show t = (gr e k).2 by rw [← hzt]]
      have hC0 : wh.cell? ⟨bx, ox + 2 * k, none⟩ = some (.int .i64 X0) := by rw [cellB HBH.out _ _ hbx0, hX0]; exact hq0
      have hC1 : wh.cell? ⟨bx, ox + (2 * k + 1), none⟩ = some (.int .i64 X1) := by rw [cellB HBH.out _ _ hbx0, hX1]; exact hq1
      have hbds := HBD.out k hlt
      rw [← hxy, ← hzt] at hbds
      simp only at hbds
      have bX0 := HBX.out (2 * k)
      have bX1 := HBX.out (2 * k + 1)
      rw [← hX0] at bX0
      rw [← hX1] at bX1
      have HPS := Lib.hid (show pkS s X 0 k = x + X0 % (y - x + 1) by unfold pkS; rw [← hxy, hX0]; rfl)
      have HPE := Lib.hid (show pkS e X 1 k = z + X1 % (t - z + 1) by unfold pkS; rw [← hzt, hX1])
      have hm0 := Int.emod_nonneg X0 (show y - x + 1 ≠ 0 by omega)
      have hm1 := Int.emod_lt_of_pos X0 (show 0 < y - x + 1 by omega)
      have hm2 := Int.emod_nonneg X1 (show t - z + 1 ≠ 0 by omega)
      have hm3 := Int.emod_lt_of_pos X1 (show 0 < t - z + 1 by omega)
      have HM0 := Lib.hid (fun w' => mod_any X0 (y - x + 1) w' (by omega) (by omega) bX0.1 bX0.2)
      have HM1 := Lib.hid (fun w' => mod_any X1 (t - z + 1) w' (by omega) (by omega) bX1.1 bX1.2)
      generalize X0 % (y - x + 1) = m0 at *
      generalize X1 % (t - z + 1) = m1 at *
      have i0 : (0 : Int) ≤ (k : Int) := by omega
      have i1 : (k : Int) < (n : Int) := by omega
      have i2 : 2 * (k : Int) < (nx : Int) := by omega
      have i3 : 2 * (k : Int) + 1 < (nx : Int) := by omega
      have t2 : (2 * (k : Int)).toNat = 2 * k := by omega
      have t3 : (2 * (k : Int) + 1).toNat = 2 * k + 1 := by omega
      clear hx hz hxy hzt hX0 hX1 hq0 hq1
      go_wp2_with fail
      go_cut [12, 13] from 67 to 183 (fun v5 v6 wx => ∃ X5 X6 : Nat, v5 = .pointer (some ⟨X5, 0, none⟩) ∧ v6 = .pointer (some ⟨X6, 0, none⟩) ∧ wx.cell? ⟨X5, 0, none⟩ = some (.int .i64 x) ∧ wx.cell? ⟨X5, 1, none⟩ = some (.int .i64 y) ∧ wx.cell? ⟨X6, 0, none⟩ = some (.int .i64 z) ∧ wx.cell? ⟨X6, 1, none⟩ = some (.int .i64 t) ∧ X5 < wx.heap.size ∧ X6 < wx.heap.size ∧ wh.heap.size ≤ X5 ∧ wh.heap.size ≤ X6 ∧ Hid (Below wh.heap.size wh wx))
      case first =>
        refine wp_region_laterT (B := wh.heap.size) (.head 0 (.head 1 (.head 2 (.head 3 (.head 4 (.head 5 (.head 6 (.head 7 (.head 8 (.head 9 (.two 10 (.one 11 (.one 12 (.one 13 .done))) 11 (.one 10 (.one 12 (.one 13 .done)))))))))))))) (by kernel_rfl) (by kernel_rfl) ?_
        repeat (refine tree_head rfl ?_; (show wpQuiet _ _ _ _ (_ :: _) _; go_big_quiet_step (fail)); refine wpQuiet_nil ?_)
        refine tree_two rfl rfl ?_ ?_
        · go_wp2_with fail
          refine tailL_mk (by (repeat' (first | (with_reducible exact Below.refl _ _) | (with_reducible assumption) | (with_reducible refine Below.drewN ?_ _) | (with_reducible refine Below.alloc ?_ ?_ _) | (with_reducible refine Below.drew ?_) | (with_reducible refine Below.setCell ?_ ?_ _) | (with_reducible refine Below.step (by assumption) ?_ ?_) | (with_reducible exact And.left (by assumption)) | go_size))) ?_
          refine tree_one rfl ?_; go_wp2_with fail
          refine tailL_mk (by (repeat' (first | (with_reducible exact Below.refl _ _) | (with_reducible assumption) | (with_reducible refine Below.drewN ?_ _) | (with_reducible refine Below.alloc ?_ ?_ _) | (with_reducible refine Below.drew ?_) | (with_reducible refine Below.setCell ?_ ?_ _) | (with_reducible refine Below.step (by assumption) ?_ ?_) | (with_reducible exact And.left (by assumption)) | go_size))) ?_
          refine tree_one rfl ?_; go_wp2_with fail
          refine tailL_mk (by (repeat' (first | (with_reducible exact Below.refl _ _) | (with_reducible assumption) | (with_reducible refine Below.drewN ?_ _) | (with_reducible refine Below.alloc ?_ ?_ _) | (with_reducible refine Below.drew ?_) | (with_reducible refine Below.setCell ?_ ?_ _) | (with_reducible refine Below.step (by assumption) ?_ ?_) | (with_reducible exact And.left (by assumption)) | go_size))) ?_
          refine tree_one rfl ?_; go_wp2_with fail
          refine tailL_mk (by (repeat' (first | (with_reducible exact Below.refl _ _) | (with_reducible assumption) | (with_reducible refine Below.drewN ?_ _) | (with_reducible refine Below.alloc ?_ ?_ _) | (with_reducible refine Below.drew ?_) | (with_reducible refine Below.setCell ?_ ?_ _) | (with_reducible refine Below.step (by assumption) ?_ ?_) | (with_reducible exact And.left (by assumption)) | go_size))) ?_
          refine tree_done ?_
          go_wp2_with fail
          go_meet
          case rel => exact ⟨_, _, rfl, rfl, by go_simp, by go_simp, by go_simp, by go_simp, by simp; omega, by simp, by omega, by omega, Lib.hid (by (repeat' (first | (with_reducible exact Below.refl _ _) | (with_reducible assumption) | (with_reducible refine Below.drewN ?_ _) | (with_reducible refine Below.alloc ?_ ?_ _) | (with_reducible refine Below.drew ?_) | (with_reducible refine Below.setCell ?_ ?_ _) | (with_reducible refine Below.step (by assumption) ?_ ?_) | (with_reducible exact And.left (by assumption)) | go_size)))⟩
        · go_wp2_with fail
          refine tailL_mk (by (repeat' (first | (with_reducible exact Below.refl _ _) | (with_reducible assumption) | (with_reducible refine Below.drewN ?_ _) | (with_reducible refine Below.alloc ?_ ?_ _) | (with_reducible refine Below.drew ?_) | (with_reducible refine Below.setCell ?_ ?_ _) | (with_reducible refine Below.step (by assumption) ?_ ?_) | (with_reducible exact And.left (by assumption)) | go_size))) ?_
          refine tree_one rfl ?_; go_wp2_with fail
          refine tailL_mk (by (repeat' (first | (with_reducible exact Below.refl _ _) | (with_reducible assumption) | (with_reducible refine Below.drewN ?_ _) | (with_reducible refine Below.alloc ?_ ?_ _) | (with_reducible refine Below.drew ?_) | (with_reducible refine Below.setCell ?_ ?_ _) | (with_reducible refine Below.step (by assumption) ?_ ?_) | (with_reducible exact And.left (by assumption)) | go_size))) ?_
          refine tree_one rfl ?_; go_wp2_with fail
          refine tailL_mk (by (repeat' (first | (with_reducible exact Below.refl _ _) | (with_reducible assumption) | (with_reducible refine Below.drewN ?_ _) | (with_reducible refine Below.alloc ?_ ?_ _) | (with_reducible refine Below.drew ?_) | (with_reducible refine Below.setCell ?_ ?_ _) | (with_reducible refine Below.step (by assumption) ?_ ?_) | (with_reducible exact And.left (by assumption)) | go_size))) ?_
          refine tree_one rfl ?_; go_wp2_with fail
          refine tailL_mk (by (repeat' (first | (with_reducible exact Below.refl _ _) | (with_reducible assumption) | (with_reducible refine Below.drewN ?_ _) | (with_reducible refine Below.alloc ?_ ?_ _) | (with_reducible refine Below.drew ?_) | (with_reducible refine Below.setCell ?_ ?_ _) | (with_reducible refine Below.step (by assumption) ?_ ?_) | (with_reducible exact And.left (by assumption)) | go_size))) ?_
          refine tree_done ?_
          go_wp2_with fail
          go_meet
          case rel => exact ⟨_, _, rfl, rfl, by go_simp, by go_simp, by go_simp, by go_simp, by simp, by simp; omega, by omega, by omega, Lib.hid (by (repeat' (first | (with_reducible exact Below.refl _ _) | (with_reducible assumption) | (with_reducible refine Below.drewN ?_ _) | (with_reducible refine Below.alloc ?_ ?_ _) | (with_reducible refine Below.drew ?_) | (with_reducible refine Below.setCell ?_ ?_ _) | (with_reducible refine Below.step (by assumption) ?_ ?_) | (with_reducible exact And.left (by assumption)) | go_size)))⟩
      case rest =>
        obtain ⟨wd, rfl⟩ : ∃ w', w' = wc := ⟨wc, rfl⟩
        obtain ⟨X5, X6, rfl, rfl, x0, x1, y0, y1, l7, l8, m7, m8, hN⟩ := hcut
        have hbx := hN.out
        have hzx := hbx.size
        have hBX : BL < X6 := by omega
        have b0d : wd.cell? ⟨BL, 0, none⟩ = some (.slice av1 k cv1) := by { rw [cellB hbx _ _ (by first | (simp; done) | (simp; omega) | omega)]; all_goals (first | assumption | go_simp) }; have b1d : wd.cell? ⟨BL, 1, none⟩ = some (.slice av2 k cv2) := by { rw [cellB hbx _ _ (by first | (simp; done) | (simp; omega) | omega)]; all_goals (first | assumption | go_simp) }; have b2d : wd.cell? ⟨BL, 2, none⟩ = some (.slice av3 k cv3) := by { rw [cellB hbx _ _ (by first | (simp; done) | (simp; omega) | omega)]; all_goals (first | assumption | go_simp) }; have b3d : wd.cell? ⟨BL, 3, none⟩ = some (.bool g) := by { rw [cellB hbx _ _ (by first | (simp; done) | (simp; omega) | omega)]; all_goals (first | assumption | go_simp) }; have f0d : wd.frozen? ⟨BL, 0, none⟩ = false := by { rw [frozenB hbx _ _ (by first | (simp; done) | (simp; omega) | omega)]; all_goals (first | assumption | go_simp) }; have f1d : wd.frozen? ⟨BL, 1, none⟩ = false := by { rw [frozenB hbx _ _ (by first | (simp; done) | (simp; omega) | omega)]; all_goals (first | assumption | go_simp) }; have f2d : wd.frozen? ⟨BL, 2, none⟩ = false := by { rw [frozenB hbx _ _ (by first | (simp; done) | (simp; omega) | omega)]; all_goals (first | assumption | go_simp) }; have lBd : BL < wd.heap.size := by { omega }; have hC0d : wd.cell? ⟨bx, ox + 2 * k, none⟩ = some (.int .i64 X0) := by { rw [cellB hbx _ _ (by first | (simp; done) | (simp; omega) | omega)]; all_goals (first | assumption | go_simp) }; have hC1d : wd.cell? ⟨bx, ox + (2 * k + 1), none⟩ = some (.int .i64 X1) := by { rw [cellB hbx _ _ (by first | (simp; done) | (simp; omega) | omega)]; all_goals (first | assumption | go_simp) }; have hlb2d : bx < wd.heap.size := by { omega }
        have HO := Lib.hid (HO.out.below hbx)
        have HBb := Lib.hid (HBb.out.trans (hbx.mono (by omega)))
        clear hbx hN cx cy cz ct hC0 hC1 b0 b1 b2 b3 f0 f1 f2 lB q0 q1 q2 l0
        go_wp2_with fail
        refine wp_region_laterY (B := wd.heap.size) [0, 1, 2, 3, 4, 5, 6, 7, 8, 9, 10, 11, 12, 13, 14] [15, 16, 17] [18, 19, 20] (by kernel_rfl) (by kernel_rfl) ?_; simp only [List.filterMap_cons, List.filterMap_nil, List.getElem?_cons_zero, List.getElem?_cons_succ]; repeat (show wpQuiet _ _ _ _ (_ :: _) _; go_big_quiet_step (fail))
        refine wpQuiet_nil ?_
        refine tailY_cons ?_
        go_wp2_with fail
        refine (HM0.out _).mono ?_
        rintro ea wa ⟨rfl, rfl⟩
        go_wp2_with fail
        refine tailL_mk (by (repeat' (first | (with_reducible exact Below.refl _ _) | (with_reducible assumption) | (with_reducible refine Below.drewN ?_ _) | (with_reducible refine Below.alloc ?_ ?_ _) | (with_reducible refine Below.drew ?_) | (with_reducible refine Below.setCell ?_ ?_ _) | (with_reducible refine Below.step (by assumption) ?_ ?_) | (with_reducible exact And.left (by assumption)) | go_size))) ?_
        refine tailY_cons ?_
        go_wp2_with fail
        refine tailL_mk (by (repeat' (first | (with_reducible exact Below.refl _ _) | (with_reducible assumption) | (with_reducible refine Below.drewN ?_ _) | (with_reducible refine Below.alloc ?_ ?_ _) | (with_reducible refine Below.drew ?_) | (with_reducible refine Below.setCell ?_ ?_ _) | (with_reducible refine Below.step (by assumption) ?_ ?_) | (with_reducible exact And.left (by assumption)) | go_size))) ?_
        refine tailY_cons ?_
        go_wp2_with fail
        refine tailL_mk (by (repeat' (first | (with_reducible exact Below.refl _ _) | (with_reducible assumption) | (with_reducible refine Below.drewN ?_ _) | (with_reducible refine Below.alloc ?_ ?_ _) | (with_reducible refine Below.drew ?_) | (with_reducible refine Below.setCell ?_ ?_ _) | (with_reducible refine Below.step (by assumption) ?_ ?_) | (with_reducible exact And.left (by assumption)) | go_size))) ?_
        refine tailY_ends ?_
        refine ends_cons ?_
        generalize hW : World.drew _ = wA
        have hbA : Below wd.heap.size wd wA := by rw [← hW]; (repeat' (first | (with_reducible exact Below.refl _ _) | (with_reducible assumption) | (with_reducible refine Below.drewN ?_ _) | (with_reducible refine Below.alloc ?_ ?_ _) | (with_reducible refine Below.drew ?_) | (with_reducible refine Below.setCell ?_ ?_ _) | (with_reducible refine Below.step (by assumption) ?_ ?_) | (with_reducible exact And.left (by assumption)) | go_size))
        have cA : wA.cell? ⟨wd.heap.size, 0, none⟩ = some (.int .i64 (x + m0)) := by { rw [← hW]; clear hW; go_simp }
        have lA : wd.heap.size < wA.heap.size := by { rw [← hW]; clear hW; simp }
        have hzA := hbA.size
        have b0 : wA.cell? ⟨BL, 0, none⟩ = some (.slice av1 k cv1) := by { rw [cellB hbA _ _ (by first | (simp; done) | (simp; omega) | omega)]; all_goals (first | assumption | go_simp) }; have b1 : wA.cell? ⟨BL, 1, none⟩ = some (.slice av2 k cv2) := by { rw [cellB hbA _ _ (by first | (simp; done) | (simp; omega) | omega)]; all_goals (first | assumption | go_simp) }; have b2 : wA.cell? ⟨BL, 2, none⟩ = some (.slice av3 k cv3) := by { rw [cellB hbA _ _ (by first | (simp; done) | (simp; omega) | omega)]; all_goals (first | assumption | go_simp) }; have b3 : wA.cell? ⟨BL, 3, none⟩ = some (.bool g) := by { rw [cellB hbA _ _ (by first | (simp; done) | (simp; omega) | omega)]; all_goals (first | assumption | go_simp) }; have f0 : wA.frozen? ⟨BL, 0, none⟩ = false := by { rw [frozenB hbA _ _ (by first | (simp; done) | (simp; omega) | omega)]; all_goals (first | assumption | go_simp) }; have f1 : wA.frozen? ⟨BL, 1, none⟩ = false := by { rw [frozenB hbA _ _ (by first | (simp; done) | (simp; omega) | omega)]; all_goals (first | assumption | go_simp) }; have f2 : wA.frozen? ⟨BL, 2, none⟩ = false := by { rw [frozenB hbA _ _ (by first | (simp; done) | (simp; omega) | omega)]; all_goals (first | assumption | go_simp) }; have lB : BL < wA.heap.size := by { omega }; have hC1 : wA.cell? ⟨bx, ox + (2 * k + 1), none⟩ = some (.int .i64 X1) := by { rw [cellB hbA _ _ (by first | (simp; done) | (simp; omega) | omega)]; all_goals (first | assumption | go_simp) }; have hlbA : bx < wA.heap.size := by { omega }; have y0A : wA.cell? ⟨X6, 0, none⟩ = some (.int .i64 z) := by { rw [cellB hbA _ _ (by first | (simp; done) | (simp; omega) | omega)]; all_goals (first | assumption | go_simp) }; have y1A : wA.cell? ⟨X6, 1, none⟩ = some (.int .i64 t) := by { rw [cellB hbA _ _ (by first | (simp; done) | (simp; omega) | omega)]; all_goals (first | assumption | go_simp) }
        have HO := Lib.hid (HO.out.below hbA)
        have HBb := Lib.hid (HBb.out.trans (hbA.mono (by omega)))
        clear hW hbA b0d b1d b2d b3d f0d f1d f2d lBd hC0d hC1d hlb2d x0 x1 y0 y1
        go_wp2_with (at_builtin; refine wpList_append_one _ rfl _ _ rfl (BL + 1) k wd.heap.size (.slice av1 k cv1) _ (.int .i64 (x + m0)) rfl HO.out.o.o1 rfl cA rfl (by omega) (by omega) ?_)
        intro v9 w9 hown9 hgr9 hat9 hb9
        obtain ⟨av1', cv1', rfl, _, _⟩ := owns_slice hown9
        have hz9 := hb9.size
        have hX6 : ∀ q, (Value.slice av1 k cv1).ownBlock = some q → q < wh.heap.size := fun q hq => (HOH.out.o.o1.lt q hq).2
        have y0 := hgr9.cell y0A (fun h => by have := hX6 X6 h.symm; omega)
        have y1 := hgr9.cell y1A (fun h => by have := hX6 X6 h.symm; omega)
        have b0d : w9.cell? ⟨BL, 0, none⟩ = some (.slice av1 k cv1) := by { rw [cellB hb9 _ _ (by first | (simp; done) | (simp; omega) | omega)]; all_goals (first | assumption | go_simp) }; have b1d : w9.cell? ⟨BL, 1, none⟩ = some (.slice av2 k cv2) := by { rw [cellB hb9 _ _ (by first | (simp; done) | (simp; omega) | omega)]; all_goals (first | assumption | go_simp) }; have b2d : w9.cell? ⟨BL, 2, none⟩ = some (.slice av3 k cv3) := by { rw [cellB hb9 _ _ (by first | (simp; done) | (simp; omega) | omega)]; all_goals (first | assumption | go_simp) }; have b3d : w9.cell? ⟨BL, 3, none⟩ = some (.bool g) := by { rw [cellB hb9 _ _ (by first | (simp; done) | (simp; omega) | omega)]; all_goals (first | assumption | go_simp) }; have f0d : w9.frozen? ⟨BL, 0, none⟩ = false := by { rw [frozenB hb9 _ _ (by first | (simp; done) | (simp; omega) | omega)]; all_goals (first | assumption | go_simp) }; have f1d : w9.frozen? ⟨BL, 1, none⟩ = false := by { rw [frozenB hb9 _ _ (by first | (simp; done) | (simp; omega) | omega)]; all_goals (first | assumption | go_simp) }; have f2d : w9.frozen? ⟨BL, 2, none⟩ = false := by { rw [frozenB hb9 _ _ (by first | (simp; done) | (simp; omega) | omega)]; all_goals (first | assumption | go_simp) }; have lBd : BL < w9.heap.size := by { omega }; have hC1d : w9.cell? ⟨bx, ox + (2 * k + 1), none⟩ = some (.int .i64 X1) := by { rw [cellB hb9 _ _ (by first | (simp; done) | (simp; omega) | omega)]; all_goals (first | assumption | go_simp) }; have hlbd : bx < w9.heap.size := by { omega }; have lXd : X6 < w9.heap.size := by { omega }
        have HO := Lib.hid (HO.out.step hown9 hgr9 hat9).rot
        rw [← HPS.out, ← pkL_snoc] at HO
        have HBb := Lib.hid (HBb.out.trans (hb9.mono (by omega)))
        clear hown9 hgr9 hat9 hb9 b0 b1 b2 b3 f0 f1 f2 lB hC1 hlbA y0A y1A cA hX6
        refine tailZ_end ?_
        refine ends_cons ?_
        go_wp2_with fail
        refine tailZ_end ?_
        refine ends_cons ?_
        go_wp2_with fail
        refine tailZ_end ?_
        refine ends_nil ?_
        generalize hW : World.setCell _ _ _ = wB
        have b0 : wB.cell? ⟨BL, 0, none⟩ = some (.slice av1' (k + 1) cv1') := by { rw [← hW]; clear hW; go_simp }
        have b1 : wB.cell? ⟨BL, 1, none⟩ = some (.slice av2 k cv2) := by { rw [← hW]; clear hW; go_simp }
        have b2 : wB.cell? ⟨BL, 2, none⟩ = some (.slice av3 k cv3) := by { rw [← hW]; clear hW; go_simp }
        have b3 : wB.cell? ⟨BL, 3, none⟩ = some (.bool g) := by { rw [← hW]; clear hW; go_simp }
        have f0 : wB.frozen? ⟨BL, 0, none⟩ = false := by { rw [← hW]; clear hW; go_simp }
        have f1 : wB.frozen? ⟨BL, 1, none⟩ = false := by { rw [← hW]; clear hW; go_simp }
        have f2 : wB.frozen? ⟨BL, 2, none⟩ = false := by { rw [← hW]; clear hW; go_simp }
        have e0 : wB.cell? ⟨X6, 0, none⟩ = some (.int .i64 z) := by rw [← hW, World.cell?_setCell_other _ ⟨BL, 0, none⟩ ⟨X6, 0, none⟩ _ (by first | (simp; done) | (simp; omega))]; exact y0
        have e1 : wB.cell? ⟨X6, 1, none⟩ = some (.int .i64 t) := by rw [← hW, World.cell?_setCell_other _ ⟨BL, 0, none⟩ ⟨X6, 1, none⟩ _ (by first | (simp; done) | (simp; omega))]; exact y1
        have hC1 : wB.cell? ⟨bx, ox + (2 * k + 1), none⟩ = some (.int .i64 X1) := by rw [← hW, World.cell?_setCell_other _ ⟨BL, 0, none⟩ ⟨bx, ox + (2 * k + 1), none⟩ _ (by first | (simp; done) | (simp; omega))]; exact hC1d
        have hzB : wB.heap.size = w9.heap.size := by rw [← hW]; simp
        have HO := Lib.hid (show O4 wB (BL + 1) _ _ _ _ _ _ _ _ _ _ _ _ _ _ by rw [← hW]; exact HO.out.set (by omega) _)
        have HBb := Lib.hid (show Below BL w8 wB by rw [← hW]; exact HBb.out.setCell (by simp) _)
        have lB : BL < wB.heap.size := by omega
        have hlbB : bx < wB.heap.size := by omega
        have lX : X6 < wB.heap.size := by omega
        have hzB' : w9.heap.size ≤ wB.heap.size := by omega
        clear hW b0d b1d b2d b3d f0d f1d f2d lBd hC1d hlbd lXd y0 y1 hzB
        go_wp2_with fail
        refine wp_region_laterY (B := wB.heap.size) [0, 1, 2, 3, 4, 5, 6, 7, 8, 9, 10, 11, 12, 13, 14, 15] [16, 17, 18] [19, 20, 21] (by kernel_rfl) (by kernel_rfl) ?_; simp only [List.filterMap_cons, List.filterMap_nil, List.getElem?_cons_zero, List.getElem?_cons_succ]; repeat (show wpQuiet _ _ _ _ (_ :: _) _; go_big_quiet_step (fail))
        refine wpQuiet_nil ?_
        refine tailY_cons ?_
        go_wp2_with fail
        refine (HM1.out _).mono ?_
        rintro ea wa ⟨rfl, rfl⟩
        go_wp2_with fail
        refine tailL_mk (by (repeat' (first | (with_reducible exact Below.refl _ _) | (with_reducible assumption) | (with_reducible refine Below.drewN ?_ _) | (with_reducible refine Below.alloc ?_ ?_ _) | (with_reducible refine Below.drew ?_) | (with_reducible refine Below.setCell ?_ ?_ _) | (with_reducible refine Below.step (by assumption) ?_ ?_) | (with_reducible exact And.left (by assumption)) | go_size))) ?_
        refine tailY_cons ?_
        go_wp2_with fail
        refine tailL_mk (by (repeat' (first | (with_reducible exact Below.refl _ _) | (with_reducible assumption) | (with_reducible refine Below.drewN ?_ _) | (with_reducible refine Below.alloc ?_ ?_ _) | (with_reducible refine Below.drew ?_) | (with_reducible refine Below.setCell ?_ ?_ _) | (with_reducible refine Below.step (by assumption) ?_ ?_) | (with_reducible exact And.left (by assumption)) | go_size))) ?_
        refine tailY_cons ?_
        go_wp2_with fail
        refine tailL_mk (by (repeat' (first | (with_reducible exact Below.refl _ _) | (with_reducible assumption) | (with_reducible refine Below.drewN ?_ _) | (with_reducible refine Below.alloc ?_ ?_ _) | (with_reducible refine Below.drew ?_) | (with_reducible refine Below.setCell ?_ ?_ _) | (with_reducible refine Below.step (by assumption) ?_ ?_) | (with_reducible exact And.left (by assumption)) | go_size))) ?_
        refine tailY_ends ?_
        refine ends_cons ?_
        generalize hW : World.drew _ = wC
        have hbC : Below wB.heap.size wB wC := by rw [← hW]; (repeat' (first | (with_reducible exact Below.refl _ _) | (with_reducible assumption) | (with_reducible refine Below.drewN ?_ _) | (with_reducible refine Below.alloc ?_ ?_ _) | (with_reducible refine Below.drew ?_) | (with_reducible refine Below.setCell ?_ ?_ _) | (with_reducible refine Below.step (by assumption) ?_ ?_) | (with_reducible exact And.left (by assumption)) | go_size))
        have cC : wC.cell? ⟨wB.heap.size, 0, none⟩ = some (.int .i64 (z + m1)) := by { rw [← hW]; clear hW; go_simp }
        have lC : wB.heap.size < wC.heap.size := by { rw [← hW]; clear hW; simp }
        have b0c : wC.cell? ⟨BL, 0, none⟩ = some (.slice av1' (k + 1) cv1') := by { rw [cellB hbC _ _ (by first | (simp; done) | (simp; omega) | omega)]; all_goals (first | assumption | go_simp) }; have b1c : wC.cell? ⟨BL, 1, none⟩ = some (.slice av2 k cv2) := by { rw [cellB hbC _ _ (by first | (simp; done) | (simp; omega) | omega)]; all_goals (first | assumption | go_simp) }; have b2c : wC.cell? ⟨BL, 2, none⟩ = some (.slice av3 k cv3) := by { rw [cellB hbC _ _ (by first | (simp; done) | (simp; omega) | omega)]; all_goals (first | assumption | go_simp) }; have b3c : wC.cell? ⟨BL, 3, none⟩ = some (.bool g) := by { rw [cellB hbC _ _ (by first | (simp; done) | (simp; omega) | omega)]; all_goals (first | assumption | go_simp) }; have f0c : wC.frozen? ⟨BL, 0, none⟩ = false := by { rw [frozenB hbC _ _ (by first | (simp; done) | (simp; omega) | omega)]; all_goals (first | assumption | go_simp) }; have f1c : wC.frozen? ⟨BL, 1, none⟩ = false := by { rw [frozenB hbC _ _ (by first | (simp; done) | (simp; omega) | omega)]; all_goals (first | assumption | go_simp) }; have f2c : wC.frozen? ⟨BL, 2, none⟩ = false := by { rw [frozenB hbC _ _ (by first | (simp; done) | (simp; omega) | omega)]; all_goals (first | assumption | go_simp) }; have lBc : BL < wC.heap.size := by { omega }
        have HO := Lib.hid (HO.out.below hbC)
        have HBb := Lib.hid (HBb.out.trans (hbC.mono (by omega)))
        clear hW hbC b0 b1 b2 b3 f0 f1 f2 lB hC1 hlbB e0 e1
        go_wp2_with (at_builtin; refine wpList_append_one _ rfl _ _ rfl (BL + 1) k wB.heap.size (.slice av2 k cv2) _ (.int .i64 (z + m1)) rfl HO.out.o.o1 rfl cC rfl (by omega) (by omega) ?_)
        intro v10 w10 hown10 hgr10 hat10 hb10
        obtain ⟨av2', cv2', rfl, _, _⟩ := owns_slice hown10
        have hz10 := hb10.size
        have b0 : w10.cell? ⟨BL, 0, none⟩ = some (.slice av1' (k + 1) cv1') := by { rw [cellB hb10 _ _ (by first | (simp; done) | (simp; omega) | omega)]; all_goals (first | assumption | go_simp) }; have b1 : w10.cell? ⟨BL, 1, none⟩ = some (.slice av2 k cv2) := by { rw [cellB hb10 _ _ (by first | (simp; done) | (simp; omega) | omega)]; all_goals (first | assumption | go_simp) }; have b2 : w10.cell? ⟨BL, 2, none⟩ = some (.slice av3 k cv3) := by { rw [cellB hb10 _ _ (by first | (simp; done) | (simp; omega) | omega)]; all_goals (first | assumption | go_simp) }; have b3 : w10.cell? ⟨BL, 3, none⟩ = some (.bool g) := by { rw [cellB hb10 _ _ (by first | (simp; done) | (simp; omega) | omega)]; all_goals (first | assumption | go_simp) }; have f0 : w10.frozen? ⟨BL, 0, none⟩ = false := by { rw [frozenB hb10 _ _ (by first | (simp; done) | (simp; omega) | omega)]; all_goals (first | assumption | go_simp) }; have f1 : w10.frozen? ⟨BL, 1, none⟩ = false := by { rw [frozenB hb10 _ _ (by first | (simp; done) | (simp; omega) | omega)]; all_goals (first | assumption | go_simp) }; have f2 : w10.frozen? ⟨BL, 2, none⟩ = false := by { rw [frozenB hb10 _ _ (by first | (simp; done) | (simp; omega) | omega)]; all_goals (first | assumption | go_simp) }; have lB : BL < w10.heap.size := by { omega }
        have HO := Lib.hid (HO.out.step hown10 hgr10 hat10).rot
        rw [← HPE.out, ← pkL_snoc] at HO
        have HBb := Lib.hid (HBb.out.trans (hb10.mono (by omega)))
        clear hown10 hgr10 hat10 hb10 b0c b1c b2c b3c f0c f1c f2c lBc cC
        refine tailZ_end ?_
        refine ends_cons ?_
        go_wp2_with fail
        refine tailZ_end ?_
        refine ends_cons ?_
        go_wp2_with fail
        refine tailZ_end ?_
        refine ends_nil ?_
        generalize hW : World.setCell _ _ _ = wD
        have b0d : wD.cell? ⟨BL, 0, none⟩ = some (.slice av1' (k + 1) cv1') := by { rw [← hW]; clear hW; go_simp }
        have b1d : wD.cell? ⟨BL, 1, none⟩ = some (.slice av2' (k + 1) cv2') := by { rw [← hW]; clear hW; go_simp }
        have b2d : wD.cell? ⟨BL, 2, none⟩ = some (.slice av3 k cv3) := by { rw [← hW]; clear hW; go_simp }
        have b3d : wD.cell? ⟨BL, 3, none⟩ = some (.bool g) := by { rw [← hW]; clear hW; go_simp }
        have f0d : wD.frozen? ⟨BL, 0, none⟩ = false := by { rw [← hW]; clear hW; go_simp }
        have f1d : wD.frozen? ⟨BL, 1, none⟩ = false := by { rw [← hW]; clear hW; go_simp }
        have f2d : wD.frozen? ⟨BL, 2, none⟩ = false := by { rw [← hW]; clear hW; go_simp }
        have HO := Lib.hid (show O4 wD (BL + 1) _ _ _ _ _ _ _ _ _ _ _ _ _ _ by rw [← hW]; exact HO.out.set (by omega) _)
        have HBb := Lib.hid (show Below BL w8 wD by rw [← hW]; exact HBb.out.setCell (by simp) _)
        have lBd : BL < wD.heap.size := by { rw [← hW]; clear hW; simp; omega }
        have hzD : w10.heap.size ≤ wD.heap.size := by { rw [← hW]; clear hW; simp }
        clear hW b0 b1 b2 b3 f0 f1 f2 lB
        go_wp2_with (at_builtin; refine wpList_append_one _ rfl _ _ rfl (BL + 1) k wD.heap.size (.slice av3 k cv3) _ (.int .i64 1) rfl (HO.out.below ((Below.refl _ _).alloc (Nat.le_refl _) _)).o.o1 rfl (by go_simp) rfl (by omega) (by simp; omega) ?_)
        intro v11 w11 hown11 hgr11 hat11 hb11
        obtain ⟨av3', cv3', rfl, _, _⟩ := owns_slice hown11
        have hb11' : Below (BL + 1) wD w11 := ((Below.refl _ _).alloc (by omega) _).trans hb11
        have hz11 := hb11'.size
        have b0 : w11.cell? ⟨BL, 0, none⟩ = some (.slice av1' (k + 1) cv1') := by { rw [cellB hb11' _ _ (by first | (simp; done) | (simp; omega) | omega)]; all_goals (first | assumption | go_simp) }; have b1 : w11.cell? ⟨BL, 1, none⟩ = some (.slice av2' (k + 1) cv2') := by { rw [cellB hb11' _ _ (by first | (simp; done) | (simp; omega) | omega)]; all_goals (first | assumption | go_simp) }; have b2 : w11.cell? ⟨BL, 2, none⟩ = some (.slice av3 k cv3) := by { rw [cellB hb11' _ _ (by first | (simp; done) | (simp; omega) | omega)]; all_goals (first | assumption | go_simp) }; have b3 : w11.cell? ⟨BL, 3, none⟩ = some (.bool g) := by { rw [cellB hb11' _ _ (by first | (simp; done) | (simp; omega) | omega)]; all_goals (first | assumption | go_simp) }; have f0 : w11.frozen? ⟨BL, 0, none⟩ = false := by { rw [frozenB hb11' _ _ (by first | (simp; done) | (simp; omega) | omega)]; all_goals (first | assumption | go_simp) }; have f1 : w11.frozen? ⟨BL, 1, none⟩ = false := by { rw [frozenB hb11' _ _ (by first | (simp; done) | (simp; omega) | omega)]; all_goals (first | assumption | go_simp) }; have f2 : w11.frozen? ⟨BL, 2, none⟩ = false := by { rw [frozenB hb11' _ _ (by first | (simp; done) | (simp; omega) | omega)]; all_goals (first | assumption | go_simp) }; have lB : BL < w11.heap.size := by { omega }
        have HO := Lib.hid ((HO.out.below ((Below.refl _ _).alloc (Nat.le_refl _) _)).step hown11 hgr11 (by rw [World.size_alloc]; exact hat11)).rot
        rw [show List.replicate k (1 : Int) ++ [1] = List.replicate (k + 1) 1 from List.replicate_succ'.symm] at HO
        have HBb := Lib.hid (HBb.out.trans (hb11'.mono (by omega)))
        clear hown11 hgr11 hat11 hb11 hb11' b0d b1d b2d b3d f0d f1d f2d lBd
        obtain ⟨q0c, q1c, q2c⟩ := HQ8.out
        have hbx := HBb.out
        have q0 : w11.cell? ⟨w.heap.size, 0, none⟩ = some (.slice (some ⟨bs, os, none⟩) n c) := by { rw [cellB hbx _ _ (by first | (simp; done) | (simp; omega) | omega)]; all_goals (first | assumption | go_simp) }; have q1 : w11.cell? ⟨w.heap.size, 1, none⟩ = some (.slice (some ⟨be, oe, none⟩) n c1) := by { rw [cellB hbx _ _ (by first | (simp; done) | (simp; omega) | omega)]; all_goals (first | assumption | go_simp) }; have q2 : w11.cell? ⟨w.heap.size, 2, none⟩ = some (.bool g) := by { rw [cellB hbx _ _ (by first | (simp; done) | (simp; omega) | omega)]; all_goals (first | assumption | go_simp) }; have l0 : w.heap.size < w11.heap.size := by { omega }
        clear q0c q1c q2c hbx
        go_wp2_with fail
        generalize hW : World.setCell _ _ _ = wE
        have b0d : wE.cell? ⟨BL, 0, none⟩ = some (.slice av1' (k + 1) cv1') := by { rw [← hW]; clear hW; go_simp }
        have b1d : wE.cell? ⟨BL, 1, none⟩ = some (.slice av2' (k + 1) cv2') := by { rw [← hW]; clear hW; go_simp }
        have b2d : wE.cell? ⟨BL, 2, none⟩ = some (.slice av3' (k + 1) cv3') := by { rw [← hW]; clear hW; go_simp }
        have b3d : wE.cell? ⟨BL, 3, none⟩ = some (.bool g) := by { rw [← hW]; clear hW; go_simp }
        have f0d : wE.frozen? ⟨BL, 0, none⟩ = false := by { rw [← hW]; clear hW; go_simp }
        have f1d : wE.frozen? ⟨BL, 1, none⟩ = false := by { rw [← hW]; clear hW; go_simp }
        have f2d : wE.frozen? ⟨BL, 2, none⟩ = false := by { rw [← hW]; clear hW; go_simp }
        have HO := Lib.hid (show O4 wE (BL + 1) _ _ _ _ _ _ _ _ _ _ _ _ _ _ by rw [← hW]; exact HO.out.set (by omega) _)
        have HBb := Lib.hid (show Below BL w8 wE by rw [← hW]; exact HBb.out.setCell (by simp) _)
        have lBd : BL < wE.heap.size := by { rw [← hW]; clear hW; simp; omega }
        have hzE : w11.heap.size ≤ wE.heap.size := by { rw [← hW]; clear hW; simp }
        have hzWE : wh.heap.size ≤ wE.heap.size := by omega
        clear hW b0 b1 b2 b3 f0 f1 f2 lB q0 q1 q2 l0
        refine (HCS.out _ (HB8.out.trans (HBb.out.mono (by omega)))).mono ?_
        rintro ec wF ⟨a6, c6, a7, c7, rfl, hbx, hs1, hs2⟩
        have hzx := hbx.size
        have HN := Lib.hid (HGS.out wF a6 a7 c6 c7 k hlt hs1 hs2)
        have b0 : wF.cell? ⟨BL, 0, none⟩ = some (.slice av1' (k + 1) cv1') := by { rw [cellB hbx _ _ (by first | (simp; done) | (simp; omega) | omega)]; all_goals (first | assumption | go_simp) }; have b1 : wF.cell? ⟨BL, 1, none⟩ = some (.slice av2' (k + 1) cv2') := by { rw [cellB hbx _ _ (by first | (simp; done) | (simp; omega) | omega)]; all_goals (first | assumption | go_simp) }; have b2 : wF.cell? ⟨BL, 2, none⟩ = some (.slice av3' (k + 1) cv3') := by { rw [cellB hbx _ _ (by first | (simp; done) | (simp; omega) | omega)]; all_goals (first | assumption | go_simp) }; have b3 : wF.cell? ⟨BL, 3, none⟩ = some (.bool g) := by { rw [cellB hbx _ _ (by first | (simp; done) | (simp; omega) | omega)]; all_goals (first | assumption | go_simp) }; have f0 : wF.frozen? ⟨BL, 0, none⟩ = false := by { rw [frozenB hbx _ _ (by first | (simp; done) | (simp; omega) | omega)]; all_goals (first | assumption | go_simp) }; have f1 : wF.frozen? ⟨BL, 1, none⟩ = false := by { rw [frozenB hbx _ _ (by first | (simp; done) | (simp; omega) | omega)]; all_goals (first | assumption | go_simp) }; have f2 : wF.frozen? ⟨BL, 2, none⟩ = false := by { rw [frozenB hbx _ _ (by first | (simp; done) | (simp; omega) | omega)]; all_goals (first | assumption | go_simp) }; have lB : BL < wF.heap.size := by { omega }
        have HO := Lib.hid (HO.out.below hbx)
        have HBb := Lib.hid (HBb.out.trans (hbx.mono (by omega)))
        clear hbx hs1 hs2 b0d b1d b2d b3d f0d f1d f2d lBd
        obtain ⟨⟨p0, q0⟩, hf0⟩ : ∃ f, f = gapFr s e n L k false := ⟨_, rfl⟩
        obtain ⟨⟨p1, q1⟩, hf1⟩ : ∃ f, f = gapFr s e n L k true := ⟨_, rfl⟩
        have hu1 := HGU.out k hlt true
        have hg1 := (HGG.out k hlt).2 true
        rw [← hf0, ← hf1] at HN
        rw [← hf1] at hu1 hg1
        simp only at HN hu1 hg1
        obtain ⟨sm, hsm⟩ : ∃ b, b = (smallF (p0, q0) && smallF (p1, q1)) := ⟨_, rfl⟩
        rw [← hsm] at HN
        have HF := Lib.hid (And.intro hsm (And.intro hf0 hf1))
        clear hsm hf0 hf1
        go_wp2_with fail
        refine HN.out.mono ?_
        rintro ed wG ⟨rfl, hbx⟩
        have hzx := hbx.size
        have b0d : wG.cell? ⟨BL, 0, none⟩ = some (.slice av1' (k + 1) cv1') := by { rw [cellB hbx _ _ (by first | (simp; done) | (simp; omega) | omega)]; all_goals (first | assumption | go_simp) }; have b1d : wG.cell? ⟨BL, 1, none⟩ = some (.slice av2' (k + 1) cv2') := by { rw [cellB hbx _ _ (by first | (simp; done) | (simp; omega) | omega)]; all_goals (first | assumption | go_simp) }; have b2d : wG.cell? ⟨BL, 2, none⟩ = some (.slice av3' (k + 1) cv3') := by { rw [cellB hbx _ _ (by first | (simp; done) | (simp; omega) | omega)]; all_goals (first | assumption | go_simp) }; have b3d : wG.cell? ⟨BL, 3, none⟩ = some (.bool g) := by { rw [cellB hbx _ _ (by first | (simp; done) | (simp; omega) | omega)]; all_goals (first | assumption | go_simp) }; have f0d : wG.frozen? ⟨BL, 0, none⟩ = false := by { rw [frozenB hbx _ _ (by first | (simp; done) | (simp; omega) | omega)]; all_goals (first | assumption | go_simp) }; have f1d : wG.frozen? ⟨BL, 1, none⟩ = false := by { rw [frozenB hbx _ _ (by first | (simp; done) | (simp; omega) | omega)]; all_goals (first | assumption | go_simp) }; have f2d : wG.frozen? ⟨BL, 2, none⟩ = false := by { rw [frozenB hbx _ _ (by first | (simp; done) | (simp; omega) | omega)]; all_goals (first | assumption | go_simp) }; have lBd : BL < wG.heap.size := by { omega }
        have HO := Lib.hid (HO.out.below hbx)
        have HBb := Lib.hid (HBb.out.trans (hbx.mono (by omega)))
        clear hbx HN b0 b1 b2 b3 f0 f1 f2 lB
        cases sm
        · go_wp2
          go_ret
          exact ⟨rfl, (HB8.out.trans (HBb.out.mono (by omega))).alloc (by omega) _⟩
        · have hfs : FrS (p1, q1) := by
            have h1 := HF.out.1
            simp only [smallF, Bool.true_eq, Bool.and_eq_true, wi_iff, decide_eq_true_eq] at h1
            exact ⟨hg1.1, h1.2.2, hg1.2, h1.2.1.1, h1.2.1.2⟩
          have HIL := Lib.hid (fun w' => show Calls Try.prog 22 #[.agg #[.int .i64 p1, .int .i64 q1]] w' fun e' w'' => e' = .returned (.bool true) ∧ Below w'.heap.size w' w'' from lowS_any hfs w')
          have HIS := Lib.hid (fun w' => show Calls Try.prog 35 #[.agg #[.int .i64 p1, .int .i64 q1]] w' fun e' w'' => e' = .returned (.bool true) ∧ Below w'.heap.size w' w'' from smallS_any hfs w')
          obtain ⟨hp0, hpq, hq0⟩ := hu1
          have hq9 : q1 ≤ 1000000000 := hfs.2.1
          clear hfs hg1
          go_wp2_with fail
          generalize hW : World.alloc _ _ = wH
          have hbx : Below wG.heap.size wG wH := by rw [← hW]; (repeat' (first | (with_reducible exact Below.refl _ _) | (with_reducible assumption) | (with_reducible refine Below.drewN ?_ _) | (with_reducible refine Below.alloc ?_ ?_ _) | (with_reducible refine Below.drew ?_) | (with_reducible refine Below.setCell ?_ ?_ _) | (with_reducible refine Below.step (by assumption) ?_ ?_) | (with_reducible exact And.left (by assumption)) | go_size))
          obtain ⟨XS, hXS⟩ : ∃ x, x = wG.heap.size := ⟨_, rfl⟩
          have s2 : wH.cell? ⟨wG.heap.size, 2, none⟩ = some (.int .i64 p1) := by { rw [← hW]; clear hW; go_simp }
          have s3 : wH.cell? ⟨wG.heap.size, 3, none⟩ = some (.int .i64 q1) := by { rw [← hW]; clear hW; go_simp }
          have hlX : wG.heap.size < wH.heap.size := by { rw [← hW]; clear hW; simp }
          rw [← hXS] at s2 s3 hlX
          simp only [← hXS]
          have hXG : wG.heap.size ≤ XS := by omega
          have hzx' := hbx.size
          have b0 : wH.cell? ⟨BL, 0, none⟩ = some (.slice av1' (k + 1) cv1') := by { rw [cellB hbx _ _ (by first | (simp; done) | (simp; omega) | omega)]; all_goals (first | assumption | go_simp) }; have b1 : wH.cell? ⟨BL, 1, none⟩ = some (.slice av2' (k + 1) cv2') := by { rw [cellB hbx _ _ (by first | (simp; done) | (simp; omega) | omega)]; all_goals (first | assumption | go_simp) }; have b2 : wH.cell? ⟨BL, 2, none⟩ = some (.slice av3' (k + 1) cv3') := by { rw [cellB hbx _ _ (by first | (simp; done) | (simp; omega) | omega)]; all_goals (first | assumption | go_simp) }; have b3 : wH.cell? ⟨BL, 3, none⟩ = some (.bool g) := by { rw [cellB hbx _ _ (by first | (simp; done) | (simp; omega) | omega)]; all_goals (first | assumption | go_simp) }; have f0 : wH.frozen? ⟨BL, 0, none⟩ = false := by { rw [frozenB hbx _ _ (by first | (simp; done) | (simp; omega) | omega)]; all_goals (first | assumption | go_simp) }; have f1 : wH.frozen? ⟨BL, 1, none⟩ = false := by { rw [frozenB hbx _ _ (by first | (simp; done) | (simp; omega) | omega)]; all_goals (first | assumption | go_simp) }; have f2 : wH.frozen? ⟨BL, 2, none⟩ = false := by { rw [frozenB hbx _ _ (by first | (simp; done) | (simp; omega) | omega)]; all_goals (first | assumption | go_simp) }; have lB : BL < wH.heap.size := by { omega }
          have HO := Lib.hid (HO.out.below hbx)
          have HBb := Lib.hid (HBb.out.trans (hbx.mono (by omega)))
          clear hbx hW hXS b0d b1d b2d b3d f0d f1d f2d lBd
          refine (HIL.out _).mono ?_
          rintro e9 wI ⟨rfl, hbx⟩
          have hzx := hbx.size
          have b0d : wI.cell? ⟨BL, 0, none⟩ = some (.slice av1' (k + 1) cv1') := by { rw [cellB hbx _ _ (by first | (simp; done) | (simp; omega) | omega)]; all_goals (first | assumption | go_simp) }; have b1d : wI.cell? ⟨BL, 1, none⟩ = some (.slice av2' (k + 1) cv2') := by { rw [cellB hbx _ _ (by first | (simp; done) | (simp; omega) | omega)]; all_goals (first | assumption | go_simp) }; have b2d : wI.cell? ⟨BL, 2, none⟩ = some (.slice av3' (k + 1) cv3') := by { rw [cellB hbx _ _ (by first | (simp; done) | (simp; omega) | omega)]; all_goals (first | assumption | go_simp) }; have b3d : wI.cell? ⟨BL, 3, none⟩ = some (.bool g) := by { rw [cellB hbx _ _ (by first | (simp; done) | (simp; omega) | omega)]; all_goals (first | assumption | go_simp) }; have f0d : wI.frozen? ⟨BL, 0, none⟩ = false := by { rw [frozenB hbx _ _ (by first | (simp; done) | (simp; omega) | omega)]; all_goals (first | assumption | go_simp) }; have f1d : wI.frozen? ⟨BL, 1, none⟩ = false := by { rw [frozenB hbx _ _ (by first | (simp; done) | (simp; omega) | omega)]; all_goals (first | assumption | go_simp) }; have f2d : wI.frozen? ⟨BL, 2, none⟩ = false := by { rw [frozenB hbx _ _ (by first | (simp; done) | (simp; omega) | omega)]; all_goals (first | assumption | go_simp) }; have lBd : BL < wI.heap.size := by { omega }; have s2d : wI.cell? ⟨XS, 2, none⟩ = some (.int .i64 p1) := by { rw [cellB hbx _ _ (by first | (simp; done) | (simp; omega) | omega)]; all_goals (first | assumption | go_simp) }; have s3d : wI.cell? ⟨XS, 3, none⟩ = some (.int .i64 q1) := by { rw [cellB hbx _ _ (by first | (simp; done) | (simp; omega) | omega)]; all_goals (first | assumption | go_simp) }; have hlXd : XS < wI.heap.size := by { omega }
          have HO := Lib.hid (HO.out.below hbx)
          have HBb := Lib.hid (HBb.out.trans (hbx.mono (by omega)))
          clear hbx b0 b1 b2 b3 f0 f1 f2 lB s2 s3 hlX
          go_wp2_with fail
          refine (HIS.out _).mono ?_
          rintro e9 wJ ⟨rfl, hbx⟩
          have hzx := hbx.size
          have b0 : wJ.cell? ⟨BL, 0, none⟩ = some (.slice av1' (k + 1) cv1') := by { rw [cellB hbx _ _ (by first | (simp; done) | (simp; omega) | omega)]; all_goals (first | assumption | go_simp) }; have b1 : wJ.cell? ⟨BL, 1, none⟩ = some (.slice av2' (k + 1) cv2') := by { rw [cellB hbx _ _ (by first | (simp; done) | (simp; omega) | omega)]; all_goals (first | assumption | go_simp) }; have b2 : wJ.cell? ⟨BL, 2, none⟩ = some (.slice av3' (k + 1) cv3') := by { rw [cellB hbx _ _ (by first | (simp; done) | (simp; omega) | omega)]; all_goals (first | assumption | go_simp) }; have b3 : wJ.cell? ⟨BL, 3, none⟩ = some (.bool g) := by { rw [cellB hbx _ _ (by first | (simp; done) | (simp; omega) | omega)]; all_goals (first | assumption | go_simp) }; have f0 : wJ.frozen? ⟨BL, 0, none⟩ = false := by { rw [frozenB hbx _ _ (by first | (simp; done) | (simp; omega) | omega)]; all_goals (first | assumption | go_simp) }; have f1 : wJ.frozen? ⟨BL, 1, none⟩ = false := by { rw [frozenB hbx _ _ (by first | (simp; done) | (simp; omega) | omega)]; all_goals (first | assumption | go_simp) }; have f2 : wJ.frozen? ⟨BL, 2, none⟩ = false := by { rw [frozenB hbx _ _ (by first | (simp; done) | (simp; omega) | omega)]; all_goals (first | assumption | go_simp) }; have lB : BL < wJ.heap.size := by { omega }; have s2 : wJ.cell? ⟨XS, 2, none⟩ = some (.int .i64 p1) := by { rw [cellB hbx _ _ (by first | (simp; done) | (simp; omega) | omega)]; all_goals (first | assumption | go_simp) }; have s3 : wJ.cell? ⟨XS, 3, none⟩ = some (.int .i64 q1) := by { rw [cellB hbx _ _ (by first | (simp; done) | (simp; omega) | omega)]; all_goals (first | assumption | go_simp) }; have hlX : XS < wJ.heap.size := by { omega }
          have HO := Lib.hid (HO.out.below hbx)
          have HBb := Lib.hid (HBb.out.trans (hbx.mono (by omega)))
          clear hbx b0d b1d b2d b3d f0d f1d f2d lBd s2d s3d hlXd
          go_wp2_with fail
          have hv1 : 0 ≤ v * p1 := Int.mul_nonneg (by omega) hp0
          have hv2 : v * p1 ≤ 1000 * 1000000000 := Int.mul_le_mul (by omega) (by omega) hp0 (by omega)
          have hw1 : 0 < q1 * len := Int.mul_pos hq0 (by omega)
          have hw2 : q1 * len ≤ 1000000000 * 100 := Int.mul_le_mul hq9 (by omega) (by omega) (by omega)
          have HDE := Lib.hid (fun w' => decimal_any k w' (by omega))
          have HCE := Lib.hid (fun w' => ceil_any (v * p1) (q1 * len) w' (by omega) (by omega) hw1 (by omega))
          have HLM := Lib.hid (show gLim v len (gapFr s e n L k true) = -((-(v * p1)) / (q1 * len)) by rw [← HF.out.2.2]; rfl)
          have hl0 : -1 ≤ -((-(v * p1)) / (q1 * len)) := by
            have := (gLim_bd (f := (p1, q1)) (v := v) (len := len) hv.1 hv.2 hlen.1 hp0 hpq hq0).1
            simp only [gLim] at this; omega
          generalize -((-(v * p1)) / (q1 * len)) = LM at *
          have m1 : IntKind.i64.wrap (v * p1) = v * p1 := IntWalk.i64_in _ (by omega)
          have m2 : IntKind.i64.wrap (q1 * len) = q1 * len := IntWalk.i64_in _ (by omega)
          have m3 : IntKind.i64.wrap ((k : Int) + 1) = (k : Int) + 1 := IntWalk.i64_in _ (by omega)
          obtain ⟨PB, hPB, hPX⟩ : ∃ PB, (∀ q, (Value.slice ap k cp).ownBlock = some q → q = PB) ∧ PB ≠ XS := by
            cases hq : (Value.slice ap k cp).ownBlock with
            | none => exact ⟨BL, (fun q h => by cases h), by omega⟩
            | some q => exact ⟨q, fun q' h => (Option.some.inj h).symm, by have := (HOH.out.op.lt q hq).2; omega⟩
          have HPB := Lib.hid hPB
          have ok0 : OkB XS wJ.heap.size PB := ⟨hlX, fun h => hPX h.symm⟩
          obtain ⟨DG, hDG⟩ : ∃ D, D = digS k := ⟨_, rfl⟩
          rw [← hDG] at HDE
          have kc : ∀ w : World, (Op.stringOp .add ⟨#[103]⟩ DG).run Try.prog w = .ok (.string (gNm k)) w := fun w => by rw [hDG]; exact run_string_add_sum w _ _ (by simp [digS, ByteArray.size])
          clear hPB hv1 hv2 hw1 hw2 HIL HIS hDG
          refine wp_region_laterC (B := wJ.heap.size) (b0 :=  PB) [(true, 0), (true, 1), (true, 4), (true, 5), (true, 6), (true, 7), (true, 8), (true, 9), (true, 10), (true, 11), (true, 12), (true, 13), (true, 14), (true, 15), (true, 16), (true, 17), (false, 2), (true, 3), (false, 18), (true, 19), (false, 20), (false, 21), (true, 22)] (by kernel_rfl) (by kernel_rfl) ?_; simp only [opsOf, List.filterMap_cons, List.filterMap_nil, List.getElem?_toArray, List.getElem?_cons_zero, List.getElem?_cons_succ, Option.map_some]
          repeat (refine mixc_head ?_; (show wpQuiet _ _ _ _ (_ :: _) _; go_big_quiet_step (fail)); refine wpQuiet_nil ?_)
          refine mixc_tail ?_; go_wp2_with fail
          refine (HDE.out _).mono ?_
          rintro e9 wK ⟨rfl, hbx⟩
          have hzx : wJ.heap.size ≤ wK.heap.size := hbx.size
          have HN := Lib.hid ((Below.refl wJ.heap.size wJ).drew.trans hbx)
          clear hbx
          go_wp2_with fail
          refine tailC_stay (SameX.of_below HN.out) ?_
          repeat (refine mixc_head ?_; (show wpQuiet _ _ _ _ (_ :: _) _; go_big_quiet_step (fail)); refine wpQuiet_nil ?_)
          refine mixc_tail ?_; go_wp2_with fail
          refine (HCE.out _).mono ?_
          rintro e9 wL ⟨rfl, hbx⟩
          have hzx' : wK.heap.size ≤ wL.heap.size := hbx.size
          have HN := Lib.hid (HN.out.trans (hbx.mono hzx))
          clear hbx
          go_wp2_with fail
          refine tailC_stay (SameX.of_below HN.out) ?_
          repeat (refine mixc_head ?_; (show wpQuiet _ _ _ _ (_ :: _) _; go_big_quiet_step (fail)); refine wpQuiet_nil ?_)
          refine mixc_tail ?_; go_wp2_with fail
          refine tailC_stay (SameX.of_below (HN.out.alloc (by omega) _)) ?_
          refine mixc_tail ?_
          go_wp2_with (at_builtin; refine wpList_append_sl_at _ rfl _ _ 88 rfl (BL + 1) 98 _ 5 48 Try.underlying88 infoPath' rfl (by omega) (.slice ap k cp) k (ecells pEnc (gPths s e n L v len k)) rfl (HO.out.below (HN.out.alloc (by omega) _)).op (some ⟨wL.heap.size, 0, none⟩) 1 1 (by omega) [.string (gNm k), .int .i64 (k : Int), .int .i64 ((k : Int) + 1), .int .i64 len, .int .i64 LM] rfl (SlR.lit wL _ [.string (gNm k), .int .i64 (k : Int), .int .i64 ((k : Int) + 1), .int .i64 len, .int .i64 LM] 98 wL.heap.size 1 5 rfl rfl rfl (by omega)) (by simp [Value.oneCell']) (by omega) (by omega) (by simp; omega) ?_)
          intro v12 w12 hown12 hgr12 hat12 hb12
          obtain ⟨ap', cp', rfl, _, _⟩ := owns_slice hown12
          have hz12 := hb12.size
          simp only [World.size_alloc] at hz12
          have hbx : Below (BL + 1) wJ w12 := ((HN.out.mono (by omega)).alloc (by omega) _).trans hb12
          have b0d : w12.cell? ⟨BL, 0, none⟩ = some (.slice av1' (k + 1) cv1') := by { rw [cellB hbx _ _ (by first | (simp; done) | (simp; omega) | omega)]; all_goals (first | assumption | go_simp) }; have b1d : w12.cell? ⟨BL, 1, none⟩ = some (.slice av2' (k + 1) cv2') := by { rw [cellB hbx _ _ (by first | (simp; done) | (simp; omega) | omega)]; all_goals (first | assumption | go_simp) }; have b2d : w12.cell? ⟨BL, 2, none⟩ = some (.slice av3' (k + 1) cv3') := by { rw [cellB hbx _ _ (by first | (simp; done) | (simp; omega) | omega)]; all_goals (first | assumption | go_simp) }; have b3d : w12.cell? ⟨BL, 3, none⟩ = some (.bool g) := by { rw [cellB hbx _ _ (by first | (simp; done) | (simp; omega) | omega)]; all_goals (first | assumption | go_simp) }; have f0d : w12.frozen? ⟨BL, 0, none⟩ = false := by { rw [frozenB hbx _ _ (by first | (simp; done) | (simp; omega) | omega)]; all_goals (first | assumption | go_simp) }; have f1d : w12.frozen? ⟨BL, 1, none⟩ = false := by { rw [frozenB hbx _ _ (by first | (simp; done) | (simp; omega) | omega)]; all_goals (first | assumption | go_simp) }; have f2d : w12.frozen? ⟨BL, 2, none⟩ = false := by { rw [frozenB hbx _ _ (by first | (simp; done) | (simp; omega) | omega)]; all_goals (first | assumption | go_simp) }; have lBd : BL < w12.heap.size := by { omega }
          have HS := Lib.hid (SameX.of_grown (b0 := PB) (SameX.of_below (b0 := PB) (HN.out.alloc (by omega) _)) hgr12 (by simp; omega) HPB.out)
          have HO := Lib.hid ((HO.out.below (HN.out.alloc (by omega) _)).stepP hown12 hgr12 (by rw [World.size_alloc]; exact hat12))
          rw [show ecells pEnc (gPths s e n L v len k) ++ [.string (gNm k), .int .i64 (k : Int), .int .i64 ((k : Int) + 1), .int .i64 len, .int .i64 LM] = ecells pEnc (gPths s e n L v len (k + 1)) by rw [gPths_snoc, ecells_append, ecells_one, ← HLM.out]; rfl] at HO
          have HBb := Lib.hid (HBb.out.trans (hbx.mono (by omega)))
          have HSM := Lib.hid (show ∀ j, j < k + 1 → smallF (gapFr s e n L j false) = true ∧ smallF (gapFr s e n L j true) = true from fun j hj => by
            rcases Nat.lt_or_ge j k with h | h
            · exact HSM.out j h
            · obtain rfl : j = k := by omega
              have h1 := HF.out.1.symm
              rw [HF.out.2.1, HF.out.2.2, Bool.and_eq_true] at h1
              exact h1)
          clear hbx hown12 hgr12 hat12 hb12 b0 b1 b2 b3 f0 f1 f2 lB
          refine tailC_stay HS.out ?_
          repeat (refine mixc_head ?_; (show wpQuiet _ _ _ _ (_ :: _) _; go_big_quiet_step (fail)); refine wpQuiet_nil ?_)
          refine mixc_nil ?_
          go_wp2_with fail
          go_roundw
          case rel => exact ⟨k + 1, av1', av2', av3', ap', cv1', cv2', cv3', cp', rfl, by go_num, by omega, b0d, b1d, b2d, b3d, f0d, f1d, f2d, HO, HBb, lBd, HSM⟩
          case measure => simp [intOf]; omega
    · skip
      obtain rfl : n = k := by omega
      have HR1 := Lib.hid (fun (v : World) (hv : Below wh.heap.size wh v) => copyLadder_any (pkL s X 0 n) (pkL e X 1 n) (List.replicate n 1) av1 av2 av3 n cv1 n cv2 n cv3 g v ((SlR.of_owns HO.out.o.o1).below hv) ((SlR.of_owns HO.out.o.o2).below hv) ((SlR.of_owns HO.out.o.o3).below hv) (by omega) (by omega) (by omega))
      have HPP := Lib.hid (show PathsR wh ap n (gPths s e n L v len n) from ER.of_owns (gPths_len ..) HO.out.op)
      have HQA := Lib.hid (And.intro q0 (And.intro q1 q2))
      have HBq := Lib.hid (And.intro b0 (And.intro b1 (And.intro b2 b3)))
      have HX := Lib.hid (Below.refl wh.heap.size wh)
      go_wp2_with fail
      refine (HR1.out _ HX.out).mono ?_
      rintro e9 w9 ⟨a3, c3, a4, c4, a5, c5, rfl, hbx, hi1, hi2, hi3⟩
      have HI := Lib.hid (initialOf_ok (pkL s X 0 n) (pkL e X 1 n) (List.replicate n 1) a3 a4 a5 n c3 n c4 n c5 L g w9 hi1 hi2 hi3 HLE0.out HLL.out)
      clear hi1 hi2 hi3 b0 b1 b2 b3 f0 f1 f2 HO HOH q0 q1 q2 l0 HBb
      have HX := Lib.hid (HX.out.trans (hbx.mono HX.out.size))
      clear hbx
      go_wp2_with fail
      refine HI.out.mono ?_
      rintro e10 w10 ⟨hbx, hfr⟩
      have HFR := Lib.hid hfr
      have HX := Lib.hid (HX.out.trans (hbx.mono HX.out.size))
      clear hfr HI hbx
      rcases HFR.out with ⟨_, rfl⟩ | ⟨hsm, au, cu, rfl, hu⟩
      · go_wp2
        go_ret
        exact ⟨rfl, HBH.out.trans (HX.out.mono HBH.out.size)⟩
      · have HU := Lib.hid hu
        have HUF := Lib.hid (fun (j : Nat) (hj : j ≤ n) => show gp (initOf (pkL s X 0 n) (pkL e X 1 n) n L) j = uFr (pkL s X 0 n) (pkL e X 1 n) L j ∧ FrS (uFr (pkL s X 0 n) (pkL e X 1 n) L j) by
          have h1 := init_gp (s := pkL s X 0 n) (e := pkL e X 1 n) (L := L) (j := j) (show j < n + 1 by omega)
          refine ⟨h1, frS_low HLD.out.D ?_⟩
          rw [← h1]
          have h2 : gp (initOf (pkL s X 0 n) (pkL e X 1 n) n L) j ∈ initOf (pkL s X 0 n) (pkL e X 1 n) n L := by
            have hlt : j < (initOf (pkL s X 0 n) (pkL e X 1 n) n L).length := by rw [init_len]; omega
            unfold gp
            rw [List.getD_eq_getElem?_getD, List.getElem?_eq_getElem hlt]; simp
          rw [List.any_eq_false] at hsm
          have h3 := hsm _ h2
          simpa using h3)
        obtain ⟨U, hU⟩ : ∃ U, U = initOf (pkL s X 0 n) (pkL e X 1 n) n L := ⟨_, rfl⟩
        rw [← hU] at HU HUF
        clear hsm HFR hu hU
        have HUB := Lib.hid (show ∀ i, i < n + 1 → -9223372036854775808 ≤ (gp U i).1 ∧ (gp U i).1 ≤ 9223372036854775807 ∧ (gp U i).2 ≤ 9223372036854775807 from fun i hi => by
          obtain ⟨h1, _, h3, _, h4, h5⟩ := HUF.out i (by omega)
          rw [h1]; omega)
        have HDZ := Lib.hid (show dstErr U (n + 1) = 0 by
          have hf : ∀ j, j ≤ n → frE (gp U j).1 (gp U j).2 = 0 := fun j hj => by
            obtain ⟨h1, f1, f2, f3, f4, f5⟩ := HUF.out j hj
            rw [h1]
            unfold frE
            rw [if_pos (by rw [f3]; simp; omega), if_pos (by rw [wi_iff.2 ⟨f4, f5⟩, wi_iff.2 ⟨f1, f2⟩]; rfl)]
          have hk : ∀ j, j ≤ n + 1 → duE U (n + 1) j = 0 := fun j => by
            induction j with
            | zero => intro _; exact dst_start (by omega) (by omega)
            | succ j ih => intro hj; rw [duE_zero (ih (by omega))]; exact hf j (by omega)
          exact hk (n + 1) (Nat.le_refl _))
        have HRK := Lib.hid (show rkE1 v U (n + 1) n = 0 by
          unfold rkE1
          rw [first_three, HDZ.out, wi_iff.2 ⟨hv.1, by omega⟩, show decide ((n : Int) ≤ 12) = true by simp; omega]; rfl)
        have HPZ := Lib.hid (show pthsErr (gPths s e n L v len n) ((n + 1 : Nat) : Int) = 0 by rw [show ((n + 1 : Nat) : Int) = (n : Int) + 1 by omega]; exact HPE.out)
        have HDE := Lib.hid (rdistributionErr_any U au (n + 1) cu w10 HU.out (by omega) HUB.out)
        rw [HDZ.out] at HDE
        go_wp2_with fail
        refine HDE.out.mono ?_
        rintro e11 w11 ⟨rfl, hbx⟩
        have HU := Lib.hid (HU.out.below hbx)
        have HX := Lib.hid (HX.out.trans (hbx.mono HX.out.size))
        clear hbx HDE
        obtain ⟨b0, b1, b2, b3⟩ := HBq.out
        have hbx := HX.out
        have hzx := hbx.size
        have b0d : w11.cell? ⟨BL, 0, none⟩ = some (.slice av1 n cv1) := by { rw [cellB hbx _ _ (by first | (simp; done) | (simp; omega) | omega)]; all_goals (first | assumption | go_simp) }; have lBd : BL < w11.heap.size := by { omega }
        clear b0 b1 b2 b3 hbx
        have g1 : (((n : Int) + 1) != (n : Int) + 1) = false := by simp
        go_wp2_with fail
        refine (copyFracs_any U au (n + 1) cu w11 HU.out (by omega)).mono ?_
        rintro e12 w12 ⟨a6, c6, rfl, hbx, ho6⟩
        have HU6 := Lib.hid (show PairsR w12 a6 (n + 1) U from SlR.of_owns ho6)
        have HX := Lib.hid (HX.out.trans (hbx.mono HX.out.size))
        clear hbx ho6 b0d lBd hzx g1
        go_wp2_with fail
        refine (copyPaths_any' (gPths s e n L v len n) ap n cp w12 (HPP.out.below HX.out) (by omega)).mono ?_
        rintro e13 w13 ⟨a7, c7, rfl, hnc, hbx, hp7⟩
        have HU7 := Lib.hid (HU6.out.below hbx)
        have HP7 := Lib.hid hp7
        have HX := Lib.hid (HX.out.trans (hbx.mono HX.out.size))
        clear hbx hp7 HU6
        go_wp2_with fail
        refine (rankPaths_any v U (gPths s e n L v len n) a6 a7 (n + 1) c6 n c7 w13 HU7.out HP7.out (by omega) (by omega) hnc HUB.out (fun p hp => by
          obtain ⟨i, _, rfl⟩ := gPths_mem hp
          have := gNm_small i
          simp only [gPth]; unfold maxLen; omega)).mono ?_
        rintro e14 w14 ⟨hbx, hcase⟩
        have HX := Lib.hid (HX.out.trans (hbx.mono HX.out.size))
        clear hbx HU7 HP7 hnc
        rcases hcase with ⟨hE, _⟩ | ⟨_, hP, _⟩ | ⟨_, _, _, rfl⟩ | ⟨_, _, _, a8, c8, S, rfl, hER, hperm, _⟩
        · exact absurd HRK.out hE
        · exact absurd HPZ.out hP
        · go_wp2
          go_ret
          exact ⟨rfl, HBH.out.trans (HX.out.mono HBH.out.size)⟩
        · have hkc : ∃ b8 o8, a8 = some ⟨b8, o8, none⟩ ∧ b8 < w14.heap.size ∧ ∀ i, i < n → w14.cell? ⟨b8, o8 + i * 4 + 3, none⟩ = some (.bool true) := by
            obtain ⟨b8, o8, ha, hb, hc⟩ := ER.addr sEnc_len hER hl0
            refine ⟨b8, o8, ha, hb, fun i hi => ?_⟩
            obtain ⟨x, hx⟩ := hER.get hi
            have h3 := hc i x hx 3 (by omega)
            have hm : x.1 ∈ List.map (rkOf v U) (gPths s e n L v len n) := hperm.mem_iff.1 (List.mem_map_of_mem (List.mem_of_getElem? hx))
            obtain ⟨p, hp, hpx⟩ := List.mem_map.1 hm
            obtain ⟨j, hj, rfl⟩ := gPths_mem hp
            have hk := HKP.out j hj U (fun j hj => (HUF.out j hj).1)
            rw [hpx] at hk
            rw [← Nat.add_assoc] at h3
            rw [h3]
            show some (Value.bool x.1.kp) = _
            rw [hk]
          obtain ⟨b8, o8, rfl, hlb8, hkc⟩ := hkc
          have HKC := Lib.hid hkc
          clear hER hperm hkc
          have g1 : ((n : Int) != (n : Int)) = false := by simp
          go_wp2_with fail
          go_loop [20] (fun i => ∃ j : Nat, i = .int .i64 j ∧ j ≤ n) (fun i => n - (intOf i).toNat)
          case atStart => exact ⟨0, rfl, Nat.zero_le _⟩
          case round =>
            obtain ⟨j, rfl, hj⟩ := hrel
            rcases Nat.lt_or_ge j n with hjn | hjn
            · have c8 := HKC.out j hjn
              have q0 : (0 : Int) ≤ (j : Int) := by omega
              have q1 : (j : Int) < (n : Int) := by omega
              go_wp2
              go_round
              case rel => exact ⟨j + 1, by go_num, by omega⟩
              case measure => simp [intOf]; omega
            · obtain rfl : n = j := by omega
              obtain ⟨b0, b1, b2, b3⟩ := HBq.out
              obtain ⟨q0, q1, q2⟩ := HQA.out
              have hbx := HX.out
              have hzx := hbx.size
              have b0d : w14.cell? ⟨BL, 0, none⟩ = some (.slice av1 n cv1) := by { rw [cellB hbx _ _ (by first | (simp; done) | (simp; omega) | omega)]; all_goals (first | assumption | go_simp) }; have b1d : w14.cell? ⟨BL, 1, none⟩ = some (.slice av2 n cv2) := by { rw [cellB hbx _ _ (by first | (simp; done) | (simp; omega) | omega)]; all_goals (first | assumption | go_simp) }; have b2d : w14.cell? ⟨BL, 2, none⟩ = some (.slice av3 n cv3) := by { rw [cellB hbx _ _ (by first | (simp; done) | (simp; omega) | omega)]; all_goals (first | assumption | go_simp) }; have b3d : w14.cell? ⟨BL, 3, none⟩ = some (.bool g) := by { rw [cellB hbx _ _ (by first | (simp; done) | (simp; omega) | omega)]; all_goals (first | assumption | go_simp) }; have lBd : BL < w14.heap.size := by { omega }; have q0d : w14.cell? ⟨w.heap.size, 0, none⟩ = some (.slice (some ⟨bs, os, none⟩) n c) := by { rw [cellB hbx _ _ (by first | (simp; done) | (simp; omega) | omega)]; all_goals (first | assumption | go_simp) }; have q1d : w14.cell? ⟨w.heap.size, 1, none⟩ = some (.slice (some ⟨be, oe, none⟩) n c1) := by { rw [cellB hbx _ _ (by first | (simp; done) | (simp; omega) | omega)]; all_goals (first | assumption | go_simp) }; have q2d : w14.cell? ⟨w.heap.size, 2, none⟩ = some (.bool g) := by { rw [cellB hbx _ _ (by first | (simp; done) | (simp; omega) | omega)]; all_goals (first | assumption | go_simp) }; have l0d : w.heap.size < w14.heap.size := by { omega }
              clear b0 b1 b2 b3 q0 q1 q2 hbx
              go_wp2_with fail
              refine (HR1.out _ HX.out).mono ?_
              rintro e9 w15 ⟨a3, c3, a4, c4, a5, c5, rfl, hbx, hi1, hi2, hi3⟩
              have HI := Lib.hid (worstGap_ok (pkL s X 0 n) (pkL e X 1 n) (List.replicate n 1) a3 a4 a5 n c3 c4 c5 L g w15 hi1 hi2 hi3 HLE0.out HLD.out)
              have hzy := hbx.size
              have q0 : w15.cell? ⟨w.heap.size, 0, none⟩ = some (.slice (some ⟨bs, os, none⟩) n c) := by { rw [cellB hbx _ _ (by first | (simp; done) | (simp; omega) | omega)]; all_goals (first | assumption | go_simp) }; have q1 : w15.cell? ⟨w.heap.size, 1, none⟩ = some (.slice (some ⟨be, oe, none⟩) n c1) := by { rw [cellB hbx _ _ (by first | (simp; done) | (simp; omega) | omega)]; all_goals (first | assumption | go_simp) }; have q2 : w15.cell? ⟨w.heap.size, 2, none⟩ = some (.bool g) := by { rw [cellB hbx _ _ (by first | (simp; done) | (simp; omega) | omega)]; all_goals (first | assumption | go_simp) }; have l0 : w.heap.size < w15.heap.size := by { omega }
              have HV := Lib.hid ((HBH.out.trans (HX.out.mono HBH.out.size)).trans (hbx.mono (by omega)))
              clear hi1 hi2 hi3 hbx b0d b1d b2d b3d lBd q0d q1d q2d l0d HX HBq HQA
              obtain ⟨ok, hok⟩ : ∃ b, b = wOk (pkL s X 0 n) (pkL e X 1 n) n L := ⟨_, rfl⟩
              have HOK := Lib.hid hok
              unfold wI wP wQ wE at HI
              rw [← hok] at HI
              clear hok
              cases ok
              · simp only [Bool.false_eq_true, if_false] at HI
                go_wp2_with fail
                refine HI.out.mono ?_
                rintro e16 w16 ⟨rfl, hbx⟩
                have HV := Lib.hid (HV.out.trans (hbx.mono HV.out.size))
                clear hbx HI
                go_wp2
                go_ret
                exact ⟨rfl, HV.out.alloc (by have := HV.out.size; omega) _⟩
              · simp only [if_true] at HI
                obtain ⟨W, hW⟩ : ∃ W, W = wst (gpN (pkL s X 0 n) (pkL e X 1 n) L) n := ⟨_, rfl⟩
                have hWn : W < n := by rw [hW]; exact wst_lt _ hl0
                obtain ⟨⟨P, Q⟩, hPQ⟩ : ∃ f, f = wF (pkL s X 0 n) (pkL e X 1 n) n L := ⟨_, rfl⟩
                have hfs : FrS (P, Q) := by
                  have h1 := HOK.out
                  unfold wOk at h1
                  rw [Bool.true_eq, Bool.and_eq_true] at h1
                  rw [hPQ]
                  exact frS_low HLD.out.D h1.2
                have hwe := HWE.out W hWn
                have hlw : low (gpN (pkL s X 0 n) (pkL e X 1 n) L W) (dd (pkL s X 0 n) (pkL e X 1 n) L L) = (P, Q) := by rw [hPQ, hW]; rfl
                rw [hlw] at hwe
                rw [← hW, ← hPQ] at HI
                simp only at HI hwe
                clear hW hPQ hlw
                have HGS1 := Lib.hid (fun (v : World) (a3 a4 : Option Addr) (c3 c4 : Nat) (h1 : PairsR v a3 n s) (h2 : PairsR v a4 n e) => HGS.out v a3 a4 c3 c4 W hWn h1 h2)
                obtain ⟨⟨y0, y1⟩, hf0⟩ : ∃ f, f = gapFr s e n L W false := ⟨_, rfl⟩
                obtain ⟨⟨y2, y3⟩, hf1⟩ : ∃ f, f = gapFr s e n L W true := ⟨_, rfl⟩
                have hsm := HSM.out W hWn
                have hgg := (HGG.out W hWn).2
                have hd0 := hgg false
                have hd1 := hgg true
                rw [← hf0, ← hf1] at HGS1 hwe hsm
                rw [← hf0] at hd0
                rw [← hf1] at hd1
                rw [hsm.1, hsm.2] at HGS1
                simp only [Bool.and_self, if_true] at HGS1
                simp only [smallF, Bool.and_eq_true, wi_iff, decide_eq_true_eq] at hsm
                have hlo : FrS (y0, y1) := ⟨hd0.1, hsm.1.2, hd0.2, hsm.1.1.1, hsm.1.1.2⟩
                have hhi : FrS (y2, y3) := ⟨hd1.1, hsm.2.2, hd1.2, hsm.2.1.1, hsm.2.1.2⟩
                obtain ⟨d1, hd1', hc1⟩ := cmpS_any hlo hfs hwe.1
                obtain ⟨d2, hd2', hc2⟩ := cmpS_any hfs hhi hwe.2
                have HC1 := Lib.hid (fun w' => show Calls Try.prog 45 #[.agg #[.int .i64 y0, .int .i64 y1], .agg #[.int .i64 P, .int .i64 Q]] w' fun e' w'' => e' = .returned (.int .i64 d1) ∧ Below w'.heap.size w' w'' from hc1 w')
                have HC2 := Lib.hid (fun w' => show Calls Try.prog 45 #[.agg #[.int .i64 P, .int .i64 Q], .agg #[.int .i64 y2, .int .i64 y3]] w' fun e' w'' => e' = .returned (.int .i64 d2) ∧ Below w'.heap.size w' w'' from hc2 w')
                have HLP := Lib.hid (fun w' => show Calls Try.prog 22 #[.agg #[.int .i64 P, .int .i64 Q]] w' fun e' w'' => e' = .returned (.bool true) ∧ Below w'.heap.size w' w'' from lowS_any hfs w')
                have HSP := Lib.hid (fun w' => show Calls Try.prog 35 #[.agg #[.int .i64 P, .int .i64 Q]] w' fun e' w'' => e' = .returned (.bool true) ∧ Below w'.heap.size w' w'' from smallS_any hfs w')
                have HL0 := Lib.hid (fun w' => show Calls Try.prog 22 #[.agg #[.int .i64 y0, .int .i64 y1]] w' fun e' w'' => e' = .returned (.bool true) ∧ Below w'.heap.size w' w'' from lowS_any hlo w')
                have HS0 := Lib.hid (fun w' => show Calls Try.prog 35 #[.agg #[.int .i64 y0, .int .i64 y1]] w' fun e' w'' => e' = .returned (.bool true) ∧ Below w'.heap.size w' w'' from smallS_any hlo w')
                have HL2 := Lib.hid (fun w' => show Calls Try.prog 22 #[.agg #[.int .i64 y2, .int .i64 y3]] w' fun e' w'' => e' = .returned (.bool true) ∧ Below w'.heap.size w' w'' from lowS_any hhi w')
                have HS2 := Lib.hid (fun w' => show Calls Try.prog 35 #[.agg #[.int .i64 y2, .int .i64 y3]] w' fun e' w'' => e' = .returned (.bool true) ∧ Below w'.heap.size w' w'' from smallS_any hhi w')
                have HWI := Lib.hid (fun w' => bwithin_any (W : Int) 0 ((n : Int) - 1) w')
                rw [wi_iff.2 (show 0 ≤ (W : Int) ∧ (W : Int) ≤ (n : Int) - 1 by omega)] at HWI
                have hdb1 : decide (d1 ≤ 0) = true := by simpa using hd1'
                have hdb2 : decide (d2 ≤ 0) = true := by simpa using hd2'
                clear hf0 hf1 hsm hgg hd0 hd1 hlo hhi hfs hwe hc1 hc2
                go_wp2_with fail
                refine HI.out.mono ?_
                rintro e16 w16 ⟨rfl, hbx⟩
                have hzx := hbx.size
                have q0d : w16.cell? ⟨w.heap.size, 0, none⟩ = some (.slice (some ⟨bs, os, none⟩) n c) := by { rw [cellB hbx _ _ (by first | (simp; done) | (simp; omega) | omega)]; all_goals (first | assumption | go_simp) }; have q1d : w16.cell? ⟨w.heap.size, 1, none⟩ = some (.slice (some ⟨be, oe, none⟩) n c1) := by { rw [cellB hbx _ _ (by first | (simp; done) | (simp; omega) | omega)]; all_goals (first | assumption | go_simp) }; have q2d : w16.cell? ⟨w.heap.size, 2, none⟩ = some (.bool g) := by { rw [cellB hbx _ _ (by first | (simp; done) | (simp; omega) | omega)]; all_goals (first | assumption | go_simp) }; have l0d : w.heap.size < w16.heap.size := by { omega }
                have HV := Lib.hid (HV.out.trans (hbx.mono HV.out.size))
                clear hbx HI q0 q1 q2 l0
                go_wp2_with fail
                generalize hWd : World.alloc _ _ = w17
                obtain ⟨XT, hXT⟩ : ∃ x, x = w16.heap.size := ⟨_, rfl⟩
                have hbx : Below w16.heap.size w16 w17 := by rw [← hWd]; (repeat' (first | (with_reducible exact Below.refl _ _) | (with_reducible assumption) | (with_reducible refine Below.drewN ?_ _) | (with_reducible refine Below.alloc ?_ ?_ _) | (with_reducible refine Below.drew ?_) | (with_reducible refine Below.setCell ?_ ?_ _) | (with_reducible refine Below.step (by assumption) ?_ ?_) | (with_reducible exact And.left (by assumption)) | go_size))
                have t0 : w17.cell? ⟨w16.heap.size, 0, none⟩ = some (.int .i64 P) := by { rw [← hWd]; clear hWd; go_simp }
                have t1 : w17.cell? ⟨w16.heap.size, 1, none⟩ = some (.int .i64 Q) := by { rw [← hWd]; clear hWd; go_simp }
                have lT : w16.heap.size < w17.heap.size := by { rw [← hWd]; clear hWd; simp }
                rw [← hXT] at t0 t1 lT
                simp only [← hXT]
                have q0 : w17.cell? ⟨w.heap.size, 0, none⟩ = some (.slice (some ⟨bs, os, none⟩) n c) := by { rw [cellB hbx _ _ (by first | (simp; done) | (simp; omega) | omega)]; all_goals (first | assumption | go_simp) }; have q1 : w17.cell? ⟨w.heap.size, 1, none⟩ = some (.slice (some ⟨be, oe, none⟩) n c1) := by { rw [cellB hbx _ _ (by first | (simp; done) | (simp; omega) | omega)]; all_goals (first | assumption | go_simp) }; have q2 : w17.cell? ⟨w.heap.size, 2, none⟩ = some (.bool g) := by { rw [cellB hbx _ _ (by first | (simp; done) | (simp; omega) | omega)]; all_goals (first | assumption | go_simp) }; have l0 : w.heap.size < w17.heap.size := by { omega }
                have HV := Lib.hid (HV.out.trans (hbx.mono HV.out.size))
                have hzt : w.heap.size ≤ w17.heap.size := HV.out.size
                clear hWd hbx hXT q0d q1d q2d l0d
                refine (HWI.out _).mono ?_
                rintro e17 w' ⟨rfl, rfl⟩
                go_wp2_with fail
                refine (HLP.out _).mono ?_
                rintro e18 w18 ⟨rfl, hbx⟩
                have hzx := hbx.size
                have q0d : w18.cell? ⟨w.heap.size, 0, none⟩ = some (.slice (some ⟨bs, os, none⟩) n c) := by { rw [cellB hbx _ _ (by first | (simp; done) | (simp; omega) | omega)]; all_goals (first | assumption | go_simp) }; have q1d : w18.cell? ⟨w.heap.size, 1, none⟩ = some (.slice (some ⟨be, oe, none⟩) n c1) := by { rw [cellB hbx _ _ (by first | (simp; done) | (simp; omega) | omega)]; all_goals (first | assumption | go_simp) }; have q2d : w18.cell? ⟨w.heap.size, 2, none⟩ = some (.bool g) := by { rw [cellB hbx _ _ (by first | (simp; done) | (simp; omega) | omega)]; all_goals (first | assumption | go_simp) }; have l0d : w.heap.size < w18.heap.size := by { omega }; have t0d : w18.cell? ⟨XT, 0, none⟩ = some (.int .i64 P) := by { rw [cellB hbx _ _ (by first | (simp; done) | (simp; omega) | omega)]; all_goals (first | assumption | go_simp) }; have t1d : w18.cell? ⟨XT, 1, none⟩ = some (.int .i64 Q) := by { rw [cellB hbx _ _ (by first | (simp; done) | (simp; omega) | omega)]; all_goals (first | assumption | go_simp) }; have lTd : XT < w18.heap.size := by { omega }
                have HV := Lib.hid (HV.out.trans (hbx.mono HV.out.size))
                clear hbx q0 q1 q2 l0 t0 t1 lT
                go_wp2_with fail
                refine (HSP.out _).mono ?_
                rintro e19 w19 ⟨rfl, hbx⟩
                have hzx := hbx.size
                have q0 : w19.cell? ⟨w.heap.size, 0, none⟩ = some (.slice (some ⟨bs, os, none⟩) n c) := by { rw [cellB hbx _ _ (by first | (simp; done) | (simp; omega) | omega)]; all_goals (first | assumption | go_simp) }; have q1 : w19.cell? ⟨w.heap.size, 1, none⟩ = some (.slice (some ⟨be, oe, none⟩) n c1) := by { rw [cellB hbx _ _ (by first | (simp; done) | (simp; omega) | omega)]; all_goals (first | assumption | go_simp) }; have q2 : w19.cell? ⟨w.heap.size, 2, none⟩ = some (.bool g) := by { rw [cellB hbx _ _ (by first | (simp; done) | (simp; omega) | omega)]; all_goals (first | assumption | go_simp) }; have l0 : w.heap.size < w19.heap.size := by { omega }; have t0 : w19.cell? ⟨XT, 0, none⟩ = some (.int .i64 P) := by { rw [cellB hbx _ _ (by first | (simp; done) | (simp; omega) | omega)]; all_goals (first | assumption | go_simp) }; have t1 : w19.cell? ⟨XT, 1, none⟩ = some (.int .i64 Q) := by { rw [cellB hbx _ _ (by first | (simp; done) | (simp; omega) | omega)]; all_goals (first | assumption | go_simp) }; have lT : XT < w19.heap.size := by { omega }
                have HV := Lib.hid (HV.out.trans (hbx.mono HV.out.size))
                clear hbx q0d q1d q2d l0d t0d t1d lTd
                go_wp2_with fail
                refine (HCS.out _ HV.out).mono ?_
                rintro e20 w20 ⟨a6, c6, a7, c7, rfl, hbx, hs1, hs2⟩
                have hzx := hbx.size
                have HN := Lib.hid (HGS1.out w20 a6 a7 c6 c7 hs1 hs2)
                have t0d : w20.cell? ⟨XT, 0, none⟩ = some (.int .i64 P) := by { rw [cellB hbx _ _ (by first | (simp; done) | (simp; omega) | omega)]; all_goals (first | assumption | go_simp) }; have t1d : w20.cell? ⟨XT, 1, none⟩ = some (.int .i64 Q) := by { rw [cellB hbx _ _ (by first | (simp; done) | (simp; omega) | omega)]; all_goals (first | assumption | go_simp) }; have lTd : XT < w20.heap.size := by { omega }
                have HV := Lib.hid (HV.out.trans (hbx.mono HV.out.size))
                clear hbx hs1 hs2 q0 q1 q2 l0 t0 t1 lT
                go_wp2_with fail
                refine HN.out.mono ?_
                rintro e21 w21 ⟨rfl, hbx⟩
                have hzx := hbx.size
                have t0 : w21.cell? ⟨XT, 0, none⟩ = some (.int .i64 P) := by { rw [cellB hbx _ _ (by first | (simp; done) | (simp; omega) | omega)]; all_goals (first | assumption | go_simp) }; have t1 : w21.cell? ⟨XT, 1, none⟩ = some (.int .i64 Q) := by { rw [cellB hbx _ _ (by first | (simp; done) | (simp; omega) | omega)]; all_goals (first | assumption | go_simp) }; have lT : XT < w21.heap.size := by { omega }
                have HV := Lib.hid (HV.out.trans (hbx.mono HV.out.size))
                clear hbx HN t0d t1d lTd
                go_wp2_with fail
                generalize hWd : World.alloc _ _ = w22
                obtain ⟨XU, hXU⟩ : ∃ x, x = w21.heap.size := ⟨_, rfl⟩
                have hbx : Below w21.heap.size w21 w22 := by rw [← hWd]; (repeat' (first | (with_reducible exact Below.refl _ _) | (with_reducible assumption) | (with_reducible refine Below.drewN ?_ _) | (with_reducible refine Below.alloc ?_ ?_ _) | (with_reducible refine Below.drew ?_) | (with_reducible refine Below.setCell ?_ ?_ _) | (with_reducible refine Below.step (by assumption) ?_ ?_) | (with_reducible exact And.left (by assumption)) | go_size))
                have u0 : w22.cell? ⟨w21.heap.size, 0, none⟩ = some (.int .i64 y0) := by { rw [← hWd]; clear hWd; go_simp }
                have u1 : w22.cell? ⟨w21.heap.size, 1, none⟩ = some (.int .i64 y1) := by { rw [← hWd]; clear hWd; go_simp }
                have u2 : w22.cell? ⟨w21.heap.size, 2, none⟩ = some (.int .i64 y2) := by { rw [← hWd]; clear hWd; go_simp }
                have u3 : w22.cell? ⟨w21.heap.size, 3, none⟩ = some (.int .i64 y3) := by { rw [← hWd]; clear hWd; go_simp }
                have lU : w21.heap.size < w22.heap.size := by { rw [← hWd]; clear hWd; simp }
                rw [← hXU] at u0 u1 u2 u3 lU
                simp only [← hXU]
                have t0d : w22.cell? ⟨XT, 0, none⟩ = some (.int .i64 P) := by { rw [cellB hbx _ _ (by first | (simp; done) | (simp; omega) | omega)]; all_goals (first | assumption | go_simp) }; have t1d : w22.cell? ⟨XT, 1, none⟩ = some (.int .i64 Q) := by { rw [cellB hbx _ _ (by first | (simp; done) | (simp; omega) | omega)]; all_goals (first | assumption | go_simp) }; have lTd : XT < w22.heap.size := by { omega }
                have HV := Lib.hid (HV.out.trans (hbx.mono HV.out.size))
                clear hWd hbx hXU t0 t1 lT
                refine (HL0.out _).mono ?_
                rintro ex w23 ⟨rfl, hbx⟩
                have hzx := hbx.size
                have u0a : w23.cell? ⟨XU, 0, none⟩ = some (.int .i64 y0) := by { rw [cellB hbx _ _ (by first | (simp; done) | (simp; omega) | omega)]; all_goals (first | assumption | go_simp) }; have u1a : w23.cell? ⟨XU, 1, none⟩ = some (.int .i64 y1) := by { rw [cellB hbx _ _ (by first | (simp; done) | (simp; omega) | omega)]; all_goals (first | assumption | go_simp) }; have u2a : w23.cell? ⟨XU, 2, none⟩ = some (.int .i64 y2) := by { rw [cellB hbx _ _ (by first | (simp; done) | (simp; omega) | omega)]; all_goals (first | assumption | go_simp) }; have u3a : w23.cell? ⟨XU, 3, none⟩ = some (.int .i64 y3) := by { rw [cellB hbx _ _ (by first | (simp; done) | (simp; omega) | omega)]; all_goals (first | assumption | go_simp) }; have lUa : XU < w23.heap.size := by { omega }; have t0a : w23.cell? ⟨XT, 0, none⟩ = some (.int .i64 P) := by { rw [cellB hbx _ _ (by first | (simp; done) | (simp; omega) | omega)]; all_goals (first | assumption | go_simp) }; have t1a : w23.cell? ⟨XT, 1, none⟩ = some (.int .i64 Q) := by { rw [cellB hbx _ _ (by first | (simp; done) | (simp; omega) | omega)]; all_goals (first | assumption | go_simp) }; have lTa : XT < w23.heap.size := by { omega }
                have HV := Lib.hid (HV.out.trans (hbx.mono HV.out.size))
                clear hbx t0d t1d lTd u0 u1 u2 u3 lU
                go_wp2_with fail
                refine (HL2.out _).mono ?_
                rintro ex w24 ⟨rfl, hbx⟩
                have hzx := hbx.size
                have u0b : w24.cell? ⟨XU, 0, none⟩ = some (.int .i64 y0) := by { rw [cellB hbx _ _ (by first | (simp; done) | (simp; omega) | omega)]; all_goals (first | assumption | go_simp) }; have u1b : w24.cell? ⟨XU, 1, none⟩ = some (.int .i64 y1) := by { rw [cellB hbx _ _ (by first | (simp; done) | (simp; omega) | omega)]; all_goals (first | assumption | go_simp) }; have u2b : w24.cell? ⟨XU, 2, none⟩ = some (.int .i64 y2) := by { rw [cellB hbx _ _ (by first | (simp; done) | (simp; omega) | omega)]; all_goals (first | assumption | go_simp) }; have u3b : w24.cell? ⟨XU, 3, none⟩ = some (.int .i64 y3) := by { rw [cellB hbx _ _ (by first | (simp; done) | (simp; omega) | omega)]; all_goals (first | assumption | go_simp) }; have lUb : XU < w24.heap.size := by { omega }; have t0b : w24.cell? ⟨XT, 0, none⟩ = some (.int .i64 P) := by { rw [cellB hbx _ _ (by first | (simp; done) | (simp; omega) | omega)]; all_goals (first | assumption | go_simp) }; have t1b : w24.cell? ⟨XT, 1, none⟩ = some (.int .i64 Q) := by { rw [cellB hbx _ _ (by first | (simp; done) | (simp; omega) | omega)]; all_goals (first | assumption | go_simp) }; have lTb : XT < w24.heap.size := by { omega }
                have HV := Lib.hid (HV.out.trans (hbx.mono HV.out.size))
                clear hbx t0a t1a lTa u0a u1a u2a u3a lUa
                go_wp2_with fail
                refine (HS0.out _).mono ?_
                rintro ex w25 ⟨rfl, hbx⟩
                have hzx := hbx.size
                have u0a : w25.cell? ⟨XU, 0, none⟩ = some (.int .i64 y0) := by { rw [cellB hbx _ _ (by first | (simp; done) | (simp; omega) | omega)]; all_goals (first | assumption | go_simp) }; have u1a : w25.cell? ⟨XU, 1, none⟩ = some (.int .i64 y1) := by { rw [cellB hbx _ _ (by first | (simp; done) | (simp; omega) | omega)]; all_goals (first | assumption | go_simp) }; have u2a : w25.cell? ⟨XU, 2, none⟩ = some (.int .i64 y2) := by { rw [cellB hbx _ _ (by first | (simp; done) | (simp; omega) | omega)]; all_goals (first | assumption | go_simp) }; have u3a : w25.cell? ⟨XU, 3, none⟩ = some (.int .i64 y3) := by { rw [cellB hbx _ _ (by first | (simp; done) | (simp; omega) | omega)]; all_goals (first | assumption | go_simp) }; have lUa : XU < w25.heap.size := by { omega }; have t0a : w25.cell? ⟨XT, 0, none⟩ = some (.int .i64 P) := by { rw [cellB hbx _ _ (by first | (simp; done) | (simp; omega) | omega)]; all_goals (first | assumption | go_simp) }; have t1a : w25.cell? ⟨XT, 1, none⟩ = some (.int .i64 Q) := by { rw [cellB hbx _ _ (by first | (simp; done) | (simp; omega) | omega)]; all_goals (first | assumption | go_simp) }; have lTa : XT < w25.heap.size := by { omega }
                have HV := Lib.hid (HV.out.trans (hbx.mono HV.out.size))
                clear hbx t0b t1b lTb u0b u1b u2b u3b lUb
                go_wp2_with fail
                refine (HS2.out _).mono ?_
                rintro ex w26 ⟨rfl, hbx⟩
                have hzx := hbx.size
                have u0b : w26.cell? ⟨XU, 0, none⟩ = some (.int .i64 y0) := by { rw [cellB hbx _ _ (by first | (simp; done) | (simp; omega) | omega)]; all_goals (first | assumption | go_simp) }; have u1b : w26.cell? ⟨XU, 1, none⟩ = some (.int .i64 y1) := by { rw [cellB hbx _ _ (by first | (simp; done) | (simp; omega) | omega)]; all_goals (first | assumption | go_simp) }; have u2b : w26.cell? ⟨XU, 2, none⟩ = some (.int .i64 y2) := by { rw [cellB hbx _ _ (by first | (simp; done) | (simp; omega) | omega)]; all_goals (first | assumption | go_simp) }; have u3b : w26.cell? ⟨XU, 3, none⟩ = some (.int .i64 y3) := by { rw [cellB hbx _ _ (by first | (simp; done) | (simp; omega) | omega)]; all_goals (first | assumption | go_simp) }; have lUb : XU < w26.heap.size := by { omega }; have t0b : w26.cell? ⟨XT, 0, none⟩ = some (.int .i64 P) := by { rw [cellB hbx _ _ (by first | (simp; done) | (simp; omega) | omega)]; all_goals (first | assumption | go_simp) }; have t1b : w26.cell? ⟨XT, 1, none⟩ = some (.int .i64 Q) := by { rw [cellB hbx _ _ (by first | (simp; done) | (simp; omega) | omega)]; all_goals (first | assumption | go_simp) }; have lTb : XT < w26.heap.size := by { omega }
                have HV := Lib.hid (HV.out.trans (hbx.mono HV.out.size))
                clear hbx t0a t1a lTa u0a u1a u2a u3a lUa
                go_wp2_with fail
                refine (HC1.out _).mono ?_
                rintro ex w27 ⟨rfl, hbx⟩
                have hzx := hbx.size
                have u0a : w27.cell? ⟨XU, 0, none⟩ = some (.int .i64 y0) := by { rw [cellB hbx _ _ (by first | (simp; done) | (simp; omega) | omega)]; all_goals (first | assumption | go_simp) }; have u1a : w27.cell? ⟨XU, 1, none⟩ = some (.int .i64 y1) := by { rw [cellB hbx _ _ (by first | (simp; done) | (simp; omega) | omega)]; all_goals (first | assumption | go_simp) }; have u2a : w27.cell? ⟨XU, 2, none⟩ = some (.int .i64 y2) := by { rw [cellB hbx _ _ (by first | (simp; done) | (simp; omega) | omega)]; all_goals (first | assumption | go_simp) }; have u3a : w27.cell? ⟨XU, 3, none⟩ = some (.int .i64 y3) := by { rw [cellB hbx _ _ (by first | (simp; done) | (simp; omega) | omega)]; all_goals (first | assumption | go_simp) }; have lUa : XU < w27.heap.size := by { omega }; have t0a : w27.cell? ⟨XT, 0, none⟩ = some (.int .i64 P) := by { rw [cellB hbx _ _ (by first | (simp; done) | (simp; omega) | omega)]; all_goals (first | assumption | go_simp) }; have t1a : w27.cell? ⟨XT, 1, none⟩ = some (.int .i64 Q) := by { rw [cellB hbx _ _ (by first | (simp; done) | (simp; omega) | omega)]; all_goals (first | assumption | go_simp) }; have lTa : XT < w27.heap.size := by { omega }
                have HV := Lib.hid (HV.out.trans (hbx.mono HV.out.size))
                clear hbx t0b t1b lTb u0b u1b u2b u3b lUb
                go_wp2_with fail
                refine (HC2.out _).mono ?_
                rintro e28 w28 ⟨rfl, hbx⟩
                have HV := Lib.hid (HV.out.trans (hbx.mono HV.out.size))
                clear hbx
                go_wp2
                go_ret
                exact ⟨rfl, HV.out⟩
end Go.Proofs.Ytbjgklifmillgaa
