import Derived.Test.YthkekjgdknnaiaaGreatBlk
import Derived.Test.YthkekjgdknnaiaaGreatMDLvl
import Derived.Test.YthkekjgdknnaiaaGreatMDRErr
import Derived.Test.YthkekjgdknnaiaaGreatMDRows
import Derived.Test.YthkekjgdknnaiaaGreatMDSmall
import Derived.Test.YthkekjgdknnaiaaGreatRLvP
import Derived.Test.YthkekjgdknnaiaaGreatRSer
/- Pulses from outside, and the series without them: the program's functions. -/
namespace Go.Proofs.YthkekjgdknnaiaaGreat
open Go.RowKit
set_option linter.unusedVariables false

theorem cf_out1 (args : Array Value) (w : World) : (callFunc 106 args).run Tryz.prog w = .ok (.enter 106 args) w := by kernel_rfl
set_option maxRecDepth 100000 in
theorem out1_any (q : T3) (x win : Int) (BP BW : Nat) (w : World) (hx : -9000000000000000000 ≤ x - q.x ∧ x - q.x ≤ 9000000000000000000) (h1 : BP < w.heap.size) (h2 : BW < w.heap.size)
    (hc1 : w.cell? ⟨BP, 0, none⟩ = some (.int .i64 x)) (hc2 : w.cell? ⟨BW, 0, none⟩ = some (.int .i64 win)) :
    Calls Tryz.prog 106 #[.agg #[.int .i64 q.x, .int .i64 q.y, .int .i64 q.z], .pointer (some ⟨BP, 0, none⟩), .pointer (some ⟨BW, 0, none⟩)] w fun e' w' => e' = .returned (.bool (decide (sz (x - q.x) ≤ win))) ∧ Below w.heap.size w w' := by
  have w1 : IntKind.i64.wrap (x - q.x) = x - q.x := by rw [IntKind.wrap_i64]; omega
  have HS := Lib.hid (fun w' => d_size_any (x - q.x) w' (by omega) (by omega))
  obtain ⟨qx, qy, qz⟩ := q
  simp only at *
  generalize hd : x - qx = dx at *
  have HD := Lib.hid hd
  clear hx hd
  obtain ⟨V, hV⟩ : ∃ V, V = decide (sz dx ≤ win) := ⟨_, rfl⟩
  have HV := Lib.hid hV
  rw [← hV]
  clear hV
  generalize sz dx = D at *
  have hd := HD.out
  rw [← hd] at HS w1
  clear hd HD
  go_enter Tryz.func106, Tryz.ntmps106
  go_wp2_with fail
  refine later_all (by kernel_rfl) (by kernel_rfl) ?_; repeat go_big_quiet_step((with_reducible exact calls_later_same (HS.out _)))
  refine wpQuiet_nil ?_; intro w5 hb5
  have HB5 := Lib.hid (show Below w.heap.size w w5 by (repeat' (first | (with_reducible exact Below.refl _ _) | (with_reducible assumption) | (with_reducible refine Below.drewN ?_ _) | (with_reducible refine Below.alloc ?_ ?_ _) | (with_reducible refine Below.drew ?_) | (with_reducible refine Below.setCell ?_ ?_ _) | (with_reducible refine Below.step (by assumption) ?_ ?_) | (with_reducible exact And.left (by assumption)) | go_size)))
  clear hb5
  go_wp2
  go_ret
  exact ⟨ret_bool (by rw [HV.out]), HB5.out⟩
theorem drop_consP {α : Type} {l : List α} {k : Nat} {x : α} (h : l[k]? = some x) : l.drop k = x :: l.drop (k + 1) := by
  obtain ⟨h1, h2⟩ := List.getElem?_eq_some_iff.1 h
  rw [List.drop_eq_getElem_cons h1, h2]
set_option maxHeartbeats 1000000 in
set_option maxRecDepth 100000 in
theorem indexPul_any (x win : Int) (BP BW : Nat) (l : List T3) (a : Option Addr) (n c : Nat) (w : World) (hl : T3R w a n l) (hx : ∀ q ∈ l, -9000000000000000000 ≤ x - q.x ∧ x - q.x ≤ 9000000000000000000) (h1 : BP < w.heap.size) (h2 : BW < w.heap.size)
    (hc1 : w.cell? ⟨BP, 0, none⟩ = some (.int .i64 x)) (hc2 : w.cell? ⟨BW, 0, none⟩ = some (.int .i64 win)) :
    Calls Tryz.prog 155 #[.slice a n c, .func (.func 106) #[] #[.pointer (some ⟨BP, 0, none⟩), .pointer (some ⟨BW, 0, none⟩)]] w fun e' w' => e' = .returned (.int .i64 (idxFrom (fun q : T3 => decide (sz (x - q.x) ≤ win)) l 0)) ∧ Below w.heap.size w w' := by
  have HL := Lib.hid hl
  have HO := Lib.hid (fun (q : T3) (hq : q ∈ l) (W : World) (hb : Below w.heap.size w W) => out1_any q x win BP BW W (hx q hq) (Nat.lt_of_lt_of_le h1 hb.size) (Nat.lt_of_lt_of_le h2 hb.size) (by rw [cellB hb _ _ h1]; exact hc1) (by rw [cellB hb _ _ h2]; exact hc2))
  have hn := ER.small hl
  clear hl hc1 hc2 hx h1 h2
  go_enter Tryz.func155, Tryz.ntmps155
  go_wp2
  go_loopw [8] (fun i wr => ∃ k : Nat, i = .int .i64 k ∧ k ≤ n ∧ Hid (idxFrom (fun q : T3 => decide (sz (x - q.x) ≤ win)) (l.drop k) k = idxFrom (fun q : T3 => decide (sz (x - q.x) ≤ win)) l 0) ∧ Hid (Below w.heap.size w wr)) (fun i _ => n - (intOf i).toNat)
  case atStart => exact ⟨0, rfl, Nat.zero_le _, rfl, Lib.hid (Below.refl _ _)⟩
  case round =>
    obtain ⟨k, rfl, hk, hF, hB'⟩ := hrel
    by_cases hlt : k < n
    · obtain ⟨b, o, rfl, hb, hc⟩ := HL.out.addr (by omega)
      obtain ⟨⟨qx, qy, qz⟩, hx⟩ := ER.get HL.out hlt
      obtain ⟨q0, q1, q2⟩ := hc k _ hx
      rw [← cellB hB'.out _ _ hb] at q0 q1 q2
      clear hc
      have hF' := hF.out
      rw [drop_consP hx, idxFrom] at hF'
      have HF := Lib.hid hF'
      have HQ := Lib.hid (HO.out _ (List.mem_of_getElem? hx) wr hB'.out)
      clear hF' hF hx
      have i0 : (0 : Int) ≤ (k : Int) := by omega
      have hz := hB'.out.size
      simp only at HQ HF q0 q1 q2
      generalize decide (sz (x - qx) ≤ win) = b1 at *
      go_wp2_with fail
      refine HQ.out.mono ?_
      rintro e w' ⟨rfl, hb'⟩
      have HB := Lib.hid (hB'.out.trans (hb'.mono hB'.out.size))
      clear hb' hB'
      cases b1
      · rw [if_neg (by decide)] at HF
        go_wp2
        go_roundw
        case rel => exact ⟨k + 1, by go_num, by omega, HF, HB⟩
        case measure => simp [intOf]; omega
      · rw [if_pos rfl] at HF
        go_wp2
        go_ret
        exact ⟨ret_int HF.out, HB.out⟩
    · have HE := Lib.hid (show (-1 : Int) = idxFrom (fun q : T3 => decide (sz (x - q.x) ≤ win)) l 0 by
        rw [← hF.out, drop_end l k (by rw [ER.len HL.out]; omega)]; rfl)
      clear hF
      go_wp2
      go_ret
      exact ⟨ret_int HE.out, hB'.out⟩
set_option maxRecDepth 100000 in
theorem containsPul_any (x win : Int) (BP BW : Nat) (l : List T3) (a : Option Addr) (n c : Nat) (w : World) (hl : T3R w a n l) (hx : ∀ q ∈ l, -9000000000000000000 ≤ x - q.x ∧ x - q.x ≤ 9000000000000000000) (h1 : BP < w.heap.size) (h2 : BW < w.heap.size)
    (hc1 : w.cell? ⟨BP, 0, none⟩ = some (.int .i64 x)) (hc2 : w.cell? ⟨BW, 0, none⟩ = some (.int .i64 win)) :
    Calls Tryz.prog 105 #[.slice a n c, .func (.func 106) #[] #[.pointer (some ⟨BP, 0, none⟩), .pointer (some ⟨BW, 0, none⟩)]] w fun e' w' => e' = .returned (.bool (l.any (fun q : T3 => decide (sz (x - q.x) ≤ win)))) ∧ Below w.heap.size w w' := by
  have HI := Lib.hid (indexPul_any x win BP BW l a n c w hl hx h1 h2 hc1 hc2)
  clear hl hc1 hc2 hx h1 h2
  go_enter Tryz.func105, Tryz.ntmps105
  go_wp2_with fail
  refine HI.out.mono ?_
  rintro e w' ⟨rfl, hb⟩
  go_wp2
  go_ret
  exact ⟨ret_bool (idxFrom_any _ l 0), hb⟩
set_option maxHeartbeats 1000000 in
set_option maxRecDepth 100000 in
theorem indexInt_any (x : Int) (l : List Int) (a : Option Addr) (n c : Nat) (w : World) (hl : IntsR w a n l) :
    Calls Tryz.prog 156 #[.slice a n c, .int .i64 x] w fun e' w' => e' = .returned (.int .i64 (idxFrom (fun q : Int => decide (x = q)) l 0)) ∧ w = w' := by
  have HL := Lib.hid hl
  have hn := hl.small
  clear hl
  go_enter Tryz.func156, Tryz.ntmps156
  go_wp2
  go_loop [8] (fun i => ∃ k : Nat, i = .int .i64 k ∧ k ≤ n ∧ Hid (idxFrom (fun q : Int => decide (x = q)) (l.drop k) k = idxFrom (fun q : Int => decide (x = q)) l 0)) (fun i => n - (intOf i).toNat)
  case atStart => exact ⟨0, rfl, Nat.zero_le _, rfl⟩
  case round =>
    obtain ⟨k, rfl, hk, hF⟩ := hrel
    by_cases hlt : k < n
    · obtain ⟨b, o, rfl, hb, hc⟩ := HL.out.addr (by omega)
      have hck := hc k hlt
      clear hc
      have hF' := hF.out
      rw [drop_at l k 0 (by rw [HL.out.len]; exact hlt), idxFrom] at hF'
      have HF := Lib.hid hF'; clear hF' hF
      generalize l.getD k 0 = y at *
      by_cases hx : x = y
      · subst hx
        rw [if_pos (by simp)] at HF
        go_wp2
        go_ret
        exact ⟨ret_int HF.out, rfl⟩
      · rw [if_neg (by simpa using hx)] at HF
        have hx' : (x == y) = false := by simpa using hx
        clear hx
        go_wp2
        go_round
        case rel => exact ⟨k + 1, by go_num, by omega, HF⟩
        case measure => simp [intOf]; omega
    · go_wp2
      go_ret
      exact ⟨ret_int (by rw [← hF.out, drop_end l k (by rw [HL.out.len]; omega)]; rfl), rfl⟩
set_option maxRecDepth 100000 in
theorem containsInt_any (x : Int) (l : List Int) (a : Option Addr) (n c : Nat) (w : World) (hl : IntsR w a n l) :
    Calls Tryz.prog 107 #[.slice a n c, .int .i64 x] w fun e' w' => e' = .returned (.bool (l.any (fun q : Int => decide (x = q)))) ∧ w = w' := by
  have HI := Lib.hid (indexInt_any x l a n c w hl)
  clear hl
  go_enter Tryz.func107, Tryz.ntmps107
  go_wp2_with fail
  refine HI.out.mono ?_
  rintro e w' ⟨rfl, rfl⟩
  go_wp2
  go_ret
  exact ⟨ret_bool (idxFrom_any _ l 0), rfl⟩
def foV (s o : Ser) (win : Int) : List Nat := if outE s o win ≠ 0 then [] else frO s.l o.l win s.l.length
theorem outE_zero {s o : Ser} {win : Int} (h : outE s o win = 0) : (serE s).2 = 0 ∧ (serE o).2 = 0 ∧ 0 ≤ win ∧ win ≤ 1000000 := by
  unfold outE at h
  simp only [firstErr_cons] at h
  obtain ⟨h1, h2, h3, _⟩ := h
  rw [unl_eq_zero (by omega), wi_iff] at h3
  exact ⟨h1, h2, h3⟩
theorem ser_x {s : Ser} (h : (serE s).2 = 0) : ∀ p ∈ s.l, 0 ≤ p.x ∧ p.x ≤ 1000000000000 := fun p hp => by
  obtain ⟨k, hk, rfl⟩ := List.mem_iff_getElem.1 hp
  have := (pulE_zero ((serE_zero h).2.2 k hk)).1
  rwa [pAt_get (List.getElem?_eq_getElem hk)] at this
theorem ser_60 {s : Ser} (h : (serE s).2 = 0) : s.l.length ≤ 60 := (headE_zero (serE_zero h).2.1).2.2.2.2
theorem nats_snocD (A : List Nat) (i : Nat) : icells (nats (A ++ [i])) = icells (nats A) ++ [.int .i64 (i : Int)] := by simp [nats, icells]
theorem IntsT.nil (w : World) (c : Nat) : IntsT w none 0 [] := ⟨IntsR.nil w none, fun B o z h => by cases h⟩
set_option maxHeartbeats 2000000 in
set_option maxRecDepth 100000 in
theorem fromOutside_any (s o : Ser) (win : Int) (ap bp : Option Addr) (n cp m dp : Nat) (w : World) (hs : SerW s) (ho : SerW o) (hl : T3R w ap n s.l) (hm : T3R w bp m o.l) :
    Calls Tryz.prog 34 #[.agg #[.string s.nm, .int .i64 s.per, .int .i64 s.least, .int .i64 s.a, .int .i64 s.b, .int .i64 s.c, .int .i64 s.d, .slice ap n cp], .agg #[.string o.nm, .int .i64 o.per, .int .i64 o.least, .int .i64 o.a, .int .i64 o.b, .int .i64 o.c, .int .i64 o.d, .slice bp m dp], .int .i64 win] w fun e' w' => ∃ a' k' c', e' = .returned (.tuple #[.slice a' k' c', .int .i64 (outE s o win)]) ∧ Below w.heap.size w w' ∧ IntsT w' a' k' (nats (foV s o win)) := by
  have hn := hl.small
  have HOS := Lib.hid (fun (W : World) (hb : Below w.heap.size w W) => openS_any s ap n cp W hs (hl.below hb))
  have HOO := Lib.hid (fun (W : World) (hb : Below w.heap.size w W) => openS_any o bp m dp W ho (hm.below hb))
  have HX := Lib.hid (fun w' => d_within_any win 0 1000000 w')
  have HU := Lib.hid (fun (b : Bool) (e : Int) w' => d_unless_any b e w')
  have HE := Lib.hid (show outE s o win = firstErr [(serE s).2, (serE o).2, unl (wi win 0 1000000) 2] from rfl)
  have HV := Lib.hid (show foV s o win = if outE s o win ≠ 0 then [] else frO s.l o.l win n by unfold foV; rw [hl.len])
  have HZ := Lib.hid (fun h => And.intro (ser_x (outE_zero (s := s) (o := o) (win := win) h).1) (And.intro (ser_x (outE_zero (s := s) (o := o) (win := win) h).2.1) (ser_60 (outE_zero (s := s) (o := o) (win := win) h).1)))
  have HSL := Lib.hid hl
  have HOL := Lib.hid hm
  clear hl hm hs ho
  generalize outE s o win = E at *
  generalize foV s o win = V at *
  generalize (serE s).2 = E1 at *
  generalize (serE o).2 = E2 at *
  generalize wi win 0 1000000 = B1 at *
  obtain ⟨snm, sper, sleast, sa, sb, sc, sd, sl⟩ := s
  obtain ⟨onm, oper, oleast, oa, ob, oc, od, ol⟩ := o
  simp only at *
  go_enter Tryz.func34, Tryz.ntmps34
  go_wp2_with fail
  generalize hW : World.alloc _ _ = w4
  have hb4 : Below w.heap.size w w4 := by rw [← hW]; (repeat' (first | (with_reducible exact Below.refl _ _) | (with_reducible assumption) | (with_reducible refine Below.drewN ?_ _) | (with_reducible refine Below.alloc ?_ ?_ _) | (with_reducible refine Below.drew ?_) | (with_reducible refine Below.setCell ?_ ?_ _) | (with_reducible refine Below.step (by assumption) ?_ ?_) | (with_reducible exact And.left (by assumption)) | go_size))
  have y0 : w4.cell? ⟨w.heap.size + 1, 0, none⟩ = some (.string onm) := by { rw [← hW]; clear hW; go_simp }
  have y1 : w4.cell? ⟨w.heap.size + 1, 1, none⟩ = some (.int .i64 oper) := by { rw [← hW]; clear hW; go_simp }
  have y2 : w4.cell? ⟨w.heap.size + 1, 2, none⟩ = some (.int .i64 oleast) := by { rw [← hW]; clear hW; go_simp }
  have y3 : w4.cell? ⟨w.heap.size + 1, 3, none⟩ = some (.int .i64 oa) := by { rw [← hW]; clear hW; go_simp }
  have y4 : w4.cell? ⟨w.heap.size + 1, 4, none⟩ = some (.int .i64 ob) := by { rw [← hW]; clear hW; go_simp }
  have y5 : w4.cell? ⟨w.heap.size + 1, 5, none⟩ = some (.int .i64 oc) := by { rw [← hW]; clear hW; go_simp }
  have y6 : w4.cell? ⟨w.heap.size + 1, 6, none⟩ = some (.int .i64 od) := by { rw [← hW]; clear hW; go_simp }
  have y7 : w4.cell? ⟨w.heap.size + 1, 7, none⟩ = some (.slice bp m dp) := by { rw [← hW]; clear hW; go_simp }
  have z0 : w4.cell? ⟨w.heap.size + 2, 0, none⟩ = some (.int .i64 win) := by { rw [← hW]; clear hW; go_simp }
  have l2 : w.heap.size + 2 < w4.heap.size := by { rw [← hW]; clear hW; simp }
  have l1 : w.heap.size + 1 < w4.heap.size := by omega
  have HB := Lib.hid hb4
  clear hW hb4
  refine (HOS.out _ HB.out).mono ?_
  rintro e5 w5 ⟨rfl, hb5⟩
  have hz5 := hb5.size
  have y0d : w5.cell? ⟨w.heap.size + 1, 0, none⟩ = some (.string onm) := by { rw [cellB hb5 _ _ (by first | (simp; done) | (simp; omega) | omega)]; all_goals (first | assumption | go_simp) }; have y1d : w5.cell? ⟨w.heap.size + 1, 1, none⟩ = some (.int .i64 oper) := by { rw [cellB hb5 _ _ (by first | (simp; done) | (simp; omega) | omega)]; all_goals (first | assumption | go_simp) }; have y2d : w5.cell? ⟨w.heap.size + 1, 2, none⟩ = some (.int .i64 oleast) := by { rw [cellB hb5 _ _ (by first | (simp; done) | (simp; omega) | omega)]; all_goals (first | assumption | go_simp) }; have y3d : w5.cell? ⟨w.heap.size + 1, 3, none⟩ = some (.int .i64 oa) := by { rw [cellB hb5 _ _ (by first | (simp; done) | (simp; omega) | omega)]; all_goals (first | assumption | go_simp) }; have y4d : w5.cell? ⟨w.heap.size + 1, 4, none⟩ = some (.int .i64 ob) := by { rw [cellB hb5 _ _ (by first | (simp; done) | (simp; omega) | omega)]; all_goals (first | assumption | go_simp) }; have y5d : w5.cell? ⟨w.heap.size + 1, 5, none⟩ = some (.int .i64 oc) := by { rw [cellB hb5 _ _ (by first | (simp; done) | (simp; omega) | omega)]; all_goals (first | assumption | go_simp) }; have y6d : w5.cell? ⟨w.heap.size + 1, 6, none⟩ = some (.int .i64 od) := by { rw [cellB hb5 _ _ (by first | (simp; done) | (simp; omega) | omega)]; all_goals (first | assumption | go_simp) }; have y7d : w5.cell? ⟨w.heap.size + 1, 7, none⟩ = some (.slice bp m dp) := by { rw [cellB hb5 _ _ (by first | (simp; done) | (simp; omega) | omega)]; all_goals (first | assumption | go_simp) }; have z0d : w5.cell? ⟨w.heap.size + 2, 0, none⟩ = some (.int .i64 win) := by { rw [cellB hb5 _ _ (by first | (simp; done) | (simp; omega) | omega)]; all_goals (first | assumption | go_simp) }; have l1d : w.heap.size + 1 < w5.heap.size := by { omega }; have l2d : w.heap.size + 2 < w5.heap.size := by { omega }
  have HB := Lib.hid (HB.out.trans (hb5.mono HB.out.size))
  clear hb5 hz5 z0 l1 l2 y0 y1 y2 y3 y4 y5 y6 y7
  go_wp2_with fail
  generalize hW : World.alloc _ _ = w6
  have hb6 : Below w5.heap.size w5 w6 := by rw [← hW]; (repeat' (first | (with_reducible exact Below.refl _ _) | (with_reducible assumption) | (with_reducible refine Below.drewN ?_ _) | (with_reducible refine Below.alloc ?_ ?_ _) | (with_reducible refine Below.drew ?_) | (with_reducible refine Below.setCell ?_ ?_ _) | (with_reducible refine Below.step (by assumption) ?_ ?_) | (with_reducible exact And.left (by assumption)) | go_size))
  have u7 : w6.cell? ⟨w5.heap.size, 7, none⟩ = some (.slice ap n cp) := by { rw [← hW]; clear hW; go_simp }
  have lu : w5.heap.size < w6.heap.size := by { rw [← hW]; clear hW; simp }
  have hz6 := hb6.size
  have z0 : w6.cell? ⟨w.heap.size + 2, 0, none⟩ = some (.int .i64 win) := by { rw [cellB hb6 _ _ (by first | (simp; done) | (simp; omega) | omega)]; all_goals (first | assumption | go_simp) }; have l2 : w.heap.size + 2 < w6.heap.size := by { omega }
  have HB := Lib.hid (HB.out.trans (hb6.mono HB.out.size))
  obtain ⟨X8, hX8⟩ : ∃ X, X = w5.heap.size := ⟨_, rfl⟩
  rw [← hX8] at u7 lu ⊢
  have hw8 : w.heap.size + 2 < X8 := by omega
  clear hW hb6 hX8 hz6 z0d l2d l1d y0d y1d y2d y3d y4d y5d y6d y7d
  refine (HOO.out _ HB.out).mono ?_
  rintro e7 w7 ⟨rfl, hb7⟩
  have hz7 := hb7.size
  have z0d : w7.cell? ⟨w.heap.size + 2, 0, none⟩ = some (.int .i64 win) := by { rw [cellB hb7 _ _ (by first | (simp; done) | (simp; omega) | omega)]; all_goals (first | assumption | go_simp) }; have l2d : w.heap.size + 2 < w7.heap.size := by { omega }; have u7d : w7.cell? ⟨X8, 7, none⟩ = some (.slice ap n cp) := by { rw [cellB hb7 _ _ (by first | (simp; done) | (simp; omega) | omega)]; all_goals (first | assumption | go_simp) }; have lud : X8 < w7.heap.size := by { omega }
  have HB := Lib.hid (HB.out.trans (hb7.mono HB.out.size))
  clear hb7 hz7 z0 l2 u7 lu HOS HOO
  go_wp2_with fail
  generalize hW : World.alloc w7 _ = w8
  have hb8 : Below w7.heap.size w7 w8 := by rw [← hW]; (repeat' (first | (with_reducible exact Below.refl _ _) | (with_reducible assumption) | (with_reducible refine Below.drewN ?_ _) | (with_reducible refine Below.alloc ?_ ?_ _) | (with_reducible refine Below.drew ?_) | (with_reducible refine Below.setCell ?_ ?_ _) | (with_reducible refine Below.step (by assumption) ?_ ?_) | (with_reducible exact And.left (by assumption)) | go_size))
  have v7 : w8.cell? ⟨w7.heap.size, 7, none⟩ = some (.slice bp m dp) := by { rw [← hW]; clear hW; go_simp }
  have lv : w7.heap.size < w8.heap.size := by { rw [← hW]; clear hW; simp }
  have hz8 := hb8.size
  have z0 : w8.cell? ⟨w.heap.size + 2, 0, none⟩ = some (.int .i64 win) := by { rw [cellB hb8 _ _ (by first | (simp; done) | (simp; omega) | omega)]; all_goals (first | assumption | go_simp) }; have l2 : w.heap.size + 2 < w8.heap.size := by { omega }; have u7 : w8.cell? ⟨X8, 7, none⟩ = some (.slice ap n cp) := by { rw [cellB hb8 _ _ (by first | (simp; done) | (simp; omega) | omega)]; all_goals (first | assumption | go_simp) }; have lu : X8 < w8.heap.size := by { omega }
  have HB := Lib.hid (HB.out.trans (hb8.mono HB.out.size))
  obtain ⟨X10, hX10⟩ : ∃ X, X = w7.heap.size := ⟨_, rfl⟩
  rw [← hX10] at v7 lv ⊢
  clear hW hb8 hX10 hz8 z0d l2d u7d lud
  refine (HX.out _).mono ?_
  rintro e9 w9 ⟨rfl, rfl⟩
  go_wp2_with (first | (go_at_call 88; (with_reducible refine (HX.out _).mono ?_); rintro e w' ⟨rfl, rfl⟩) | (go_at_call 87; (with_reducible refine (HU.out _ _ _).mono ?_); rintro e w' ⟨rfl, rfl⟩))
  refine (d_first3 _ _ _ _ _ _ _ (by rfl) (by first | rfl | simp)).mono ?_
  rintro e9 w9 ⟨rfl, hw9⟩
  have hb9 : Below w8.heap.size w8 w9 := by rw [← hw9]; (repeat' (first | (with_reducible exact Below.refl _ _) | (with_reducible assumption) | (with_reducible refine Below.drewN ?_ _) | (with_reducible refine Below.alloc ?_ ?_ _) | (with_reducible refine Below.drew ?_) | (with_reducible refine Below.setCell ?_ ?_ _) | (with_reducible refine Below.step (by assumption) ?_ ?_) | (with_reducible exact And.left (by assumption)) | go_size))
  have hz9 := hb9.size
  rw [← HE.out]
  have z0d : w9.cell? ⟨w.heap.size + 2, 0, none⟩ = some (.int .i64 win) := by { rw [cellB hb9 _ _ (by first | (simp; done) | (simp; omega) | omega)]; all_goals (first | assumption | go_simp) }; have l2d : w.heap.size + 2 < w9.heap.size := by { omega }; have u7d : w9.cell? ⟨X8, 7, none⟩ = some (.slice ap n cp) := by { rw [cellB hb9 _ _ (by first | (simp; done) | (simp; omega) | omega)]; all_goals (first | assumption | go_simp) }; have lud : X8 < w9.heap.size := by { omega }; have v7d : w9.cell? ⟨X10, 7, none⟩ = some (.slice bp m dp) := by { rw [cellB hb9 _ _ (by first | (simp; done) | (simp; omega) | omega)]; all_goals (first | assumption | go_simp) }; have lvd : X10 < w9.heap.size := by { omega }
  have HB := Lib.hid (HB.out.trans (hb9.mono HB.out.size))
  clear hw9 hb9 hz9 z0 l2 u7 lu v7 lv HE
  have hv := HV.out
  by_cases h0 : E = 0
  · subst h0
    rw [if_neg (by decide)] at hv
    obtain ⟨hx1, hx2, h60⟩ := HZ.out (by first | rfl | trivial)
    have hn60 : n ≤ 60 := by rw [← HSL.out.len]; exact h60
    have HX1 := Lib.hid hx1
    have HX2 := Lib.hid hx2
    have HVV := Lib.hid hv
    clear hv HV HZ hx1 hx2 h60
    have HIS := Lib.hid (HSL.out.below HB.out)
    have HIO := Lib.hid (HOL.out.below HB.out)
    go_wp2_with fail
    go_loopw [12, 39] (fun v i wr => ∃ (k q : Nat) (av : Option Addr) (cv : Nat), i = .int .i64 (k : Int) ∧ v = .slice av q cv ∧ k ≤ n ∧ q ≤ k ∧ Hid (wr.ownsRow w9.heap.size 3 1 (.slice av q cv) q (icells (nats (frO sl ol win k)))) ∧ Hid (Below w9.heap.size w9 wr)) (fun _ i _ => n - (intOf i).toNat)
    case atStart => exact ⟨0, 0, none, 0, rfl, rfl, Nat.zero_le _, Nat.le_refl _, Lib.hid (World.ownsRow_nil _ _ _ _), Lib.hid (Below.refl _ _)⟩
    case round =>
      obtain ⟨k, q, av, cv, rfl, rfl, hk, hq, hO, hB⟩ := hrel
      have i0 : (0 : Int) ≤ (k : Int) := by omega
      have hbr := hB.out
      have hzr := hbr.size
      have HBW := Lib.hid (HB.out.trans (hbr.mono HB.out.size))
      have z0 : wr.cell? ⟨w.heap.size + 2, 0, none⟩ = some (.int .i64 win) := by { rw [cellB hbr _ _ (by first | (simp; done) | (simp; omega) | omega)]; all_goals (first | assumption | go_simp) }; have l2 : w.heap.size + 2 < wr.heap.size := by { omega }; have v7 : wr.cell? ⟨X10, 7, none⟩ = some (.slice bp m dp) := by { rw [cellB hbr _ _ (by first | (simp; done) | (simp; omega) | omega)]; all_goals (first | assumption | go_simp) }; have lv : X10 < wr.heap.size := by { omega }
      by_cases hlt : k < n
      · have i1 : (k : Int) < (n : Int) := by omega
        obtain ⟨b0, o0, rfl, hb0, hcs⟩ := (HIS.out.below hbr).addr (by omega)
        obtain ⟨⟨px, py, pz⟩, hx⟩ := ER.get HSL.out hlt
        obtain ⟨c0, c1, c2⟩ := hcs k _ hx
        have hpx := HX1.out _ (List.mem_of_getElem? hx)
        have hA := pAt_get hx
        have HFS := Lib.hid (show frO sl ol win (k + 1) = if isO ol win ⟨px, py, pz⟩ = true then frO sl ol win k ++ [k] else frO sl ol win k by rw [frO_succ, hA])
        have HXD := Lib.hid (show ∀ q ∈ ol, -9000000000000000000 ≤ px - q.x ∧ px - q.x ≤ 9000000000000000000 from fun q hq => by have := HX2.out q hq; simp only at hpx; omega)
        simp only at c0 c1 c2
        clear hcs hx hpx hA
        go_wp2_with fail
        generalize hW : World.alloc _ _ = wa
        have hba : Below wr.heap.size wr wa := by rw [← hW]; (repeat' (first | (with_reducible exact Below.refl _ _) | (with_reducible assumption) | (with_reducible refine Below.drewN ?_ _) | (with_reducible refine Below.alloc ?_ ?_ _) | (with_reducible refine Below.drew ?_) | (with_reducible refine Below.setCell ?_ ?_ _) | (with_reducible refine Below.step (by assumption) ?_ ?_) | (with_reducible exact And.left (by assumption)) | go_size))
        have p0 : wa.cell? ⟨wr.heap.size, 0, none⟩ = some (.int .i64 px) := by { rw [← hW]; clear hW; go_simp }
        have lp : wr.heap.size < wa.heap.size := by { rw [← hW]; clear hW; simp }
        have z0d : wa.cell? ⟨w.heap.size + 2, 0, none⟩ = some (.int .i64 win) := by { rw [cellB hba _ _ (by first | (simp; done) | (simp; omega) | omega)]; all_goals (first | assumption | go_simp) }; have l2d : w.heap.size + 2 < wa.heap.size := by { omega }; have v7d : wa.cell? ⟨X10, 7, none⟩ = some (.slice bp m dp) := by { rw [cellB hba _ _ (by first | (simp; done) | (simp; omega) | omega)]; all_goals (first | assumption | go_simp) }; have lvd : X10 < wa.heap.size := by { omega }
        have HBA := Lib.hid (hB.out.trans (hba.mono hB.out.size))
        have HO := Lib.hid (owns_below hO.out hba (fun z hz => (hO.out.lt z hz).2))
        have HIOA := Lib.hid (HIO.out.below HBA.out)
        obtain ⟨XP, hXP⟩ : ∃ X, X = wr.heap.size := ⟨_, rfl⟩
        rw [← hXP] at p0 lp ⊢
        clear hW hba hXP c0 c1 c2 hb0 hO hB hbr z0 l2 v7 lv
        have hcp := containsPul_any px win XP (w.heap.size + 2) ol bp m dp wa HIOA.out HXD.out lp l2d p0 z0d
        have HCP := Lib.hid (show Calls Tryz.prog 105 #[.slice bp m dp, .func (.func 106) #[] #[.pointer (some ⟨XP, 0, none⟩), .pointer (some ⟨w.heap.size + 2, 0, none⟩)]] wa fun e' w' => e' = .returned (.bool (isO ol win ⟨px, py, pz⟩)) ∧ Below wa.heap.size wa w' from hcp)
        clear hcp HXD
        generalize isO ol win ⟨px, py, pz⟩ = bb at *
        refine HCP.out.mono ?_
        rintro e10 wb ⟨rfl, hbb⟩
        have HBB := Lib.hid (HBA.out.trans (hbb.mono HBA.out.size))
        have HO := Lib.hid (owns_below HO.out hbb (fun z hz => (HO.out.lt z hz).2))
        clear hbb HCP p0 lp z0d l2d v7d lvd HIOA HBA
        cases bb
        · rw [if_neg (by decide)] at HFS
          rw [← HFS.out] at HO
          go_wp2
          go_roundw
          case rel => exact ⟨k + 1, q, av, cv, by go_num, rfl, by omega, by omega, HO, HBB⟩
          case measure => simp [intOf]; omega
        · rw [if_pos rfl] at HFS
          have hzb := HBB.out.size
          go_wp2_with (at_builtin; refine wpList_append_sl _ rfl _ _ 26 rfl w9.heap.size 3 _ 1 8 Tryz.underlying26 infoInt rfl (by omega) (.slice av q cv) q _ rfl (HO.out.alloc _) _ 1 1 [.int .i64 (k : Int)] rfl (SlR.lit _ _ _ _ _ 1 1 (by rfl) (by simp) rfl (by omega)) (by simp [Value.oneCell']) (by omega) (by omega) (by simp; omega) ?_)
          intro v2 w2' hown2 hgr2 hb2
          obtain ⟨av2, cv2, rfl, _, _⟩ := owns_slice hown2
          rw [← nats_snocD, ← HFS.out] at hown2
          have HO2 := Lib.hid hown2
          have HB2 := Lib.hid ((HBB.out.alloc (by omega) _).trans hb2)
          clear hown2 hgr2 hb2 HO
          go_wp2
          go_roundw
          case rel => exact ⟨k + 1, q + 1, av2, cv2, by go_num, rfl, by omega, by omega, HO2, HB2⟩
          case measure => simp [intOf]; omega
      · obtain rfl : k = n := by omega
        have HF := Lib.hid (show IntsT wr av q (nats V) by rw [HVV.out]; exact IntsT.of_owns hO.out)
        go_wp2
        go_ret2
        exact ⟨av, q, cv, rfl, HBW.out, HF.out⟩
  · rw [if_pos h0] at hv
    subst hv
    have s1 := bne_iff_ne.2 h0
    clear HV HZ h0
    go_wp2
    go_ret2
    exact ⟨none, 0, 0, rfl, HB.out, IntsT.nil _ 0⟩
def clS (s o : Ser) (win : Int) : Ser := if outE s o win ≠ 0 then ⟨⟨#[]⟩, 0, 0, 0, 0, 0, 0, []⟩ else { s with l := clO s.l o.l win }
theorem heap_set_neO {W : World} {b i k : Nat} {v : Value} (h : k ≠ b) : (W.setCell ⟨b, i, none⟩ v).heap[k]? = W.heap[k]? := by
  simp [World.setCell, Array.getElem?_modify, h.symm]
theorem fr_any {l o : List T3} {win : Int} {n k : Nat} (hk : k < n) : ((nats (frO l o win n)).any (fun q => decide ((k : Int) = q))) = isO o win (pAt l k) := by
  cases h : isO o win (pAt l k)
  · rw [List.any_eq_false]
    intro q hq
    unfold nats at hq
    obtain ⟨j, hj, rfl⟩ := List.mem_map.1 hq
    rw [frO_mem] at hj
    simp only [decide_eq_true_eq]
    intro e
    obtain rfl : k = j := by omega
    rw [h] at hj; exact absurd hj.2 (by decide)
  · rw [List.any_eq_true]
    refine ⟨(k : Int), ?_, by simp⟩
    unfold nats
    exact List.mem_map.2 ⟨k, frO_mem.2 ⟨hk, h⟩, rfl⟩
theorem own_ints {w w' : World} {base n sz : Nat} {v : Value} {xs : List Value} (h : w.ownsRow base 127 sz v n xs) (hg : w.grownBy w' v.ownBlock) : ∀ (B : Nat) cur z, w.heap[B]? = some (.cells cur 3 z) → w'.heap[B]? = some (.cells cur 3 z) := fun B cur z hB => by
  rw [hg.block B (Array.getElem?_eq_some_iff.1 hB).1 (fun e => ?_)]
  · exact hB
  · rcases h.2 with ⟨rfl, _⟩ | ⟨g, cap, cur', rfl, _, hgg, _⟩
    · simp [Value.ownBlock] at e
    · simp only [Value.ownBlock, Option.some.injEq] at e
      subst e
      rw [hgg] at hB
      simp only [Option.some.injEq, Obj.cells.injEq] at hB
      exact absurd hB.2.1 (by decide)
theorem set_ints {w : World} {X i : Nat} {c : Array Value} {v : Value} (hx : w.heap[X]? = some (.cells c 56)) : ∀ (B : Nat) cur z, w.heap[B]? = some (.cells cur 3 z) → (w.setCell ⟨X, i, none⟩ v).heap[B]? = some (.cells cur 3 z) := fun B cur z' hB => by
  have hne : B ≠ X := by
    rintro rfl
    rw [hx] at hB
    simp only [Option.some.injEq, Obj.cells.injEq] at hB
    exact absurd hB.2.1 (by decide)
  rw [World.setCell]
  simp [Array.getElem?_modify, hne.symm, hB]
set_option maxHeartbeats 2000000 in
set_option maxRecDepth 100000 in
theorem cleaned_any (s o : Ser) (win : Int) (ap bp : Option Addr) (n cp m dp : Nat) (w : World) (hs : SerW s) (ho : SerW o) (hl : T3R w ap n s.l) (hm : T3R w bp m o.l) :
    Calls Tryz.prog 35 #[.agg #[.string s.nm, .int .i64 s.per, .int .i64 s.least, .int .i64 s.a, .int .i64 s.b, .int .i64 s.c, .int .i64 s.d, .slice ap n cp], .agg #[.string o.nm, .int .i64 o.per, .int .i64 o.least, .int .i64 o.a, .int .i64 o.b, .int .i64 o.c, .int .i64 o.d, .slice bp m dp], .int .i64 win] w fun e' w' => ∃ a' k' c', e' = .returned (.tuple #[.agg #[.string (clS s o win).nm, .int .i64 (clS s o win).per, .int .i64 (clS s o win).least, .int .i64 (clS s o win).a, .int .i64 (clS s o win).b, .int .i64 (clS s o win).c, .int .i64 (clS s o win).d, .slice a' k' c'], .int .i64 (outE s o win)]) ∧ Below w.heap.size w w' ∧ w'.ownsRow w.heap.size 127 3 (.slice a' k' c') k' (ecells e3 (clS s o win).l) := by
  have HFO := Lib.hid (fun (W : World) (hb : Below w.heap.size w W) => fromOutside_any s o win ap bp n cp m dp W hs ho (hl.below hb) (hm.below hb))
  have HSL := Lib.hid hl
  have HLN := Lib.hid hl.len
  have HV := Lib.hid (show foV s o win = if outE s o win ≠ 0 then [] else frO s.l o.l win n by unfold foV; rw [hl.len])
  have HC := Lib.hid (show clS s o win = if outE s o win ≠ 0 then ⟨⟨#[]⟩, 0, 0, 0, 0, 0, 0, []⟩ else { s with l := clO s.l o.l win } from rfl)
  have HZ := Lib.hid (fun h => show n ≤ 60 by rw [← hl.len]; exact ser_60 (outE_zero (s := s) (o := o) (win := win) h).1)
  clear hl hm hs ho
  generalize outE s o win = E at *
  generalize foV s o win = V at *
  generalize clS s o win = C at *
  obtain ⟨cnm, cper, cleast, ca, cb, cc, cd, cl⟩ := C
  obtain ⟨snm, sper, sleast, sa, sb, sc, sd, sl⟩ := s
  obtain ⟨onm, oper, oleast, oa, ob, oc, od, ol⟩ := o
  simp only at *
  go_enter Tryz.func35, Tryz.ntmps35
  go_wp2_with fail
  obtain ⟨w4, hW⟩ : ∃ w4, w4 = ((w.alloc (Obj.cells #[.string snm, .int .i64 sper, .int .i64 sleast, .int .i64 sa, .int .i64 sb, .int .i64 sc, .int .i64 sd, .slice ap n cp] 56)).alloc (Obj.cells #[.string onm, .int .i64 oper, .int .i64 oleast, .int .i64 oa, .int .i64 ob, .int .i64 oc, .int .i64 od, .slice bp m dp] 56)).alloc (Obj.cells #[.string ⟨#[]⟩, .int .i64 0, .int .i64 0, .int .i64 0, .int .i64 0, .int .i64 0, .int .i64 0, .slice none 0 0] 56) := ⟨_, rfl⟩
  rw [← hW]
  have hb4 : Below w.heap.size w w4 := by rw [hW]; (repeat' (first | (with_reducible exact Below.refl _ _) | (with_reducible assumption) | (with_reducible refine Below.drewN ?_ _) | (with_reducible refine Below.alloc ?_ ?_ _) | (with_reducible refine Below.drew ?_) | (with_reducible refine Below.setCell ?_ ?_ _) | (with_reducible refine Below.step (by assumption) ?_ ?_) | (with_reducible exact And.left (by assumption)) | go_size))
  have k0 : w4.heap[w.heap.size]? = some (Obj.cells #[.string snm, .int .i64 sper, .int .i64 sleast, .int .i64 sa, .int .i64 sb, .int .i64 sc, .int .i64 sd, .slice ap n cp] 56) := by
    rw [hW, Below.heap_alloc _ _ _ (by simp; omega), Below.heap_alloc _ _ _ (by simp)]; exact heap_alloc_new _ _
  have k2 : w4.heap[w.heap.size + 2]? = some (Obj.cells #[.string ⟨#[]⟩, .int .i64 0, .int .i64 0, .int .i64 0, .int .i64 0, .int .i64 0, .int .i64 0, .slice none 0 0] 56) := by
    rw [hW]
    have := heap_alloc_new ((w.alloc (Obj.cells #[.string snm, .int .i64 sper, .int .i64 sleast, .int .i64 sa, .int .i64 sb, .int .i64 sc, .int .i64 sd, .slice ap n cp] 56)).alloc (Obj.cells #[.string onm, .int .i64 oper, .int .i64 oleast, .int .i64 oa, .int .i64 ob, .int .i64 oc, .int .i64 od, .slice bp m dp] 56)) (Obj.cells #[.string ⟨#[]⟩, .int .i64 0, .int .i64 0, .int .i64 0, .int .i64 0, .int .i64 0, .int .i64 0, .slice none 0 0] 56)
    simpa using this
  have hz4 : w4.heap.size = w.heap.size + 3 := by rw [hW]; simp
  have HB := Lib.hid hb4
  clear hW hb4
  refine (HFO.out _ HB.out).mono ?_
  rintro e5 w5 ⟨aF, kF, cF, rfl, hb5, hI5⟩
  have hz5 := hb5.size
  have k0 := blk_below k0 hb5
  have k2 := blk_below k2 hb5
  have HB := Lib.hid (HB.out.trans (hb5.mono HB.out.size))
  have HI := Lib.hid hI5
  clear hb5 hI5 HFO
  have hv := HV.out
  have hc := HC.out
  have l0 : w.heap.size < w5.heap.size := by omega
  obtain ⟨X2, hX2⟩ : ∃ X, X = w.heap.size + 1 + 1 := ⟨_, rfl⟩
  have k2 : w5.heap[X2]? = some (Obj.cells #[.string ⟨#[]⟩, .int .i64 0, .int .i64 0, .int .i64 0, .int .i64 0, .int .i64 0, .int .i64 0, .slice none 0 0] 56) := by rw [hX2]; exact k2
  have l2 : X2 < w5.heap.size := by omega
  have hx02 : w.heap.size < X2 := by omega
  rw [← hX2]
  clear hX2 hz4 hz5
  by_cases h0 : E = 0
  · subst h0
    rw [if_neg (by decide)] at hv hc
    have hn60 := HZ.out (by first | rfl | trivial)
    simp only [Ser.mk.injEq] at hc
    obtain ⟨e0, e1, e2, e3', e4, e5', e6, hcl⟩ := hc
    obtain rfl := e0.symm
    obtain rfl := e1.symm
    obtain rfl := e2.symm
    obtain rfl := e3'.symm
    obtain rfl := e4.symm
    obtain rfl := e5'.symm
    obtain rfl := e6.symm
    have HCL := Lib.hid hcl
    have HI := Lib.hid (show IntsT w5 aF kF (nats (frO sl ol win n)) by rw [← hv]; exact HI.out)
    clear HV HZ hv hcl HC
    have x7 := blk_cell k0 (i := 7) rfl
    have g7 := blk_fz k0 7
    go_wp2_with fail
    obtain ⟨w6, hW⟩ : ∃ w6, w6 = w5.setCell ⟨w.heap.size, 7, none⟩ (.slice none 0 0) := ⟨_, rfl⟩
    rw [← hW]
    have k0 : w6.heap[w.heap.size]? = some (Obj.cells #[.string snm, .int .i64 sper, .int .i64 sleast, .int .i64 sa, .int .i64 sb, .int .i64 sc, .int .i64 sd, .slice none 0 0] 56) := by rw [hW]; exact blk_set k0 7 _
    have k2 : w6.heap[X2]? = some (Obj.cells #[.string ⟨#[]⟩, .int .i64 0, .int .i64 0, .int .i64 0, .int .i64 0, .int .i64 0, .int .i64 0, .slice none 0 0] 56) := by rw [hW]; exact (heap_set_neO (show X2 ≠ w.heap.size by omega)).trans k2
    have HI := Lib.hid (show IntsT w6 aF kF (nats (frO sl ol win n)) by rw [hW]; exact HI.out.keep (by simp) (set_ints (by assumption)))
    have hz6 : w6.heap.size = w5.heap.size := by rw [hW]; simp
    have HB := Lib.hid (show Below w.heap.size w w6 by rw [hW]; have := HB.out; (repeat' (first | (with_reducible exact Below.refl _ _) | (with_reducible assumption) | (with_reducible refine Below.drewN ?_ _) | (with_reducible refine Below.alloc ?_ ?_ _) | (with_reducible refine Below.drew ?_) | (with_reducible refine Below.setCell ?_ ?_ _) | (with_reducible refine Below.step (by assumption) ?_ ?_) | (with_reducible exact And.left (by assumption)) | go_size)))
    have l0 : w.heap.size < w6.heap.size := by omega
    have l2 : X2 < w6.heap.size := by omega
    clear hW x7 g7 hz6
    go_loopw [29] (fun i wr => ∃ (k q : Nat) (av : Option Addr) (cv : Nat), i = .int .i64 (k : Int) ∧ k ≤ n ∧ q ≤ k ∧ Hid (wr.heap[w.heap.size]? = some (Obj.cells #[.string snm, .int .i64 sper, .int .i64 sleast, .int .i64 sa, .int .i64 sb, .int .i64 sc, .int .i64 sd, .slice av q cv] 56)) ∧ Hid (wr.heap[X2]? = some (Obj.cells #[.string ⟨#[]⟩, .int .i64 0, .int .i64 0, .int .i64 0, .int .i64 0, .int .i64 0, .int .i64 0, .slice none 0 0] 56)) ∧ Hid (wr.ownsRow w6.heap.size 127 3 (.slice av q cv) q (ecells e3 (clO (sl.take k) ol win))) ∧ Hid (IntsT wr aF kF (nats (frO sl ol win n))) ∧ Hid (Below w.heap.size w wr) ∧ w6.heap.size ≤ wr.heap.size) (fun i _ => n - (intOf i).toNat)
    case atStart => exact ⟨0, 0, none, 0, rfl, Nat.zero_le _, Nat.le_refl _, Lib.hid k0, Lib.hid k2, Lib.hid (World.ownsRow_nil _ _ _ _), HI, HB, Nat.le_refl _⟩
    case round =>
      obtain ⟨k, q, av, cv, rfl, hk, hq, hK0, hK2, hO, hI, hB, hZ⟩ := hrel
      clear k0 k2 HI HB
      have i0 : (0 : Int) ≤ (k : Int) := by omega
      by_cases hlt : k < n
      · have i1 : (k : Int) < (n : Int) := by omega
        obtain ⟨b0, o0, rfl, hb0, hcs⟩ := (HSL.out.below hB.out).addr (by omega)
        obtain ⟨⟨px, py, pz⟩, hx⟩ := ER.get HSL.out hlt
        obtain ⟨c0, c1, c2⟩ := hcs k _ hx
        have hA := pAt_get hx
        have hks : k < sl.length := by rw [HLN.out]; exact hlt
        have HFA := Lib.hid (show ((nats (frO sl ol win n)).any (fun q => decide ((k : Int) = q))) = isO ol win ⟨px, py, pz⟩ by rw [fr_any hlt, hA])
        have HCS := Lib.hid (show clO (sl.take (k + 1)) ol win = if isO ol win ⟨px, py, pz⟩ = true then clO (sl.take k) ol win else clO (sl.take k) ol win ++ [⟨px, py, pz⟩] by rw [clO_take sl ol win hks, hA])
        simp only at c0 c1 c2
        clear hcs hx hA hks
        go_wp2_with fail
        generalize hW : World.alloc _ _ = wa
        have hba : Below wr.heap.size wr wa := by rw [← hW]; (repeat' (first | (with_reducible exact Below.refl _ _) | (with_reducible assumption) | (with_reducible refine Below.drewN ?_ _) | (with_reducible refine Below.alloc ?_ ?_ _) | (with_reducible refine Below.drew ?_) | (with_reducible refine Below.setCell ?_ ?_ _) | (with_reducible refine Below.step (by assumption) ?_ ?_) | (with_reducible exact And.left (by assumption)) | go_size))
        have p0 : wa.cell? ⟨wr.heap.size, 0, none⟩ = some (.int .i64 px) := by { rw [← hW]; clear hW; go_simp }
        have p1 : wa.cell? ⟨wr.heap.size, 1, none⟩ = some (.int .i64 py) := by { rw [← hW]; clear hW; go_simp }
        have p2 : wa.cell? ⟨wr.heap.size, 2, none⟩ = some (.int .i64 pz) := by { rw [← hW]; clear hW; go_simp }
        have lp : wr.heap.size < wa.heap.size := by { rw [← hW]; clear hW; simp }
        have HBA := Lib.hid (hB.out.trans (hba.mono hB.out.size))
        have HO := Lib.hid (owns_below hO.out hba (fun z hz => (hO.out.lt z hz).2))
        have HIA := Lib.hid (hI.out.keep hba.size (fun B c z hBz => (hba.block B (Array.getElem?_eq_some_iff.1 hBz).1).trans hBz))
        have HK0 := Lib.hid (blk_below hK0.out hba)
        have HK2 := Lib.hid (blk_below hK2.out hba)
        have hza : w6.heap.size ≤ wa.heap.size := by omega
        obtain ⟨XP, hXP⟩ : ∃ X, X = wr.heap.size := ⟨_, rfl⟩
        rw [← hXP] at p0 p1 p2 lp ⊢
        clear hW hba hXP c0 c1 c2 hb0 hO hB hI hK0 hK2
        refine (containsInt_any (k : Int) _ aF kF cF wa HIA.out.1).mono ?_
        rintro e10 wb ⟨rfl, rfl⟩
        rw [HFA.out]
        clear HFA
        generalize isO ol win ⟨px, py, pz⟩ = bb at *
        cases bb
        rotate_left
        · rw [if_pos rfl] at HCS
          rw [← HCS.out] at HO
          clear p0 p1 p2 lp
          go_wp2
          go_roundw
          case rel => exact ⟨k + 1, q, av, cv, by go_num, by omega, by omega, HK0, HK2, HO, HIA, HBA, hza⟩
          case measure => simp [intOf]; omega
        · rw [if_neg (by decide)] at HCS
          have x7 : wa.cell? ⟨w.heap.size, 7, none⟩ = some (.slice av q cv) := blk_cell HK0.out (i := 7) rfl
          have g7 := blk_fz HK0.out 7
          have la : w.heap.size < wa.heap.size := by omega
          have HT := Lib.hid (show ecells e3 (clO (sl.take (k + 1)) ol win) = ecells e3 (clO (sl.take k) ol win) ++ [.int .i64 px, .int .i64 py, .int .i64 pz] by rw [HCS.out, ecells_append, ecells_one]; rfl)
          go_wp2_with (at_builtin; refine wpList_append_sl _ rfl _ _ 54 rfl w6.heap.size 127 _ 3 24 Tryz.underlying54 infoPul rfl (by omega) (.slice av q cv) q _ rfl (HO.out.alloc _) _ 1 1 [.int .i64 px, .int .i64 py, .int .i64 pz] rfl (SlR.lit _ _ _ _ _ 1 3 (by rfl) (by simp) rfl (by omega)) (by simp [Value.oneCell']) (by omega) (by omega) (by simp; omega) ?_)
          intro v2 w2' hown2 hgr2 hb2
          obtain ⟨av2, cv2, rfl, _, _⟩ := owns_slice hown2
          rw [← HT.out] at hown2
          have HIB := Lib.hid ((HIA.out.keep (w' := wa.alloc (Obj.cells #[.int .i64 px, .int .i64 py, .int .i64 pz] 127)) (by simp) (fun B c z hBz => (Below.heap_alloc _ _ _ (Array.getElem?_eq_some_iff.1 hBz).1).trans hBz)).keep (by have := hb2.size; exact this) (own_ints (HO.out.alloc _) hgr2))
          have HK0 := Lib.hid ((hb2.block _ l0).trans ((Below.heap_alloc _ _ _ la).trans HK0.out))
          have HK2 := Lib.hid ((hb2.block _ l2).trans ((Below.heap_alloc _ _ _ (by omega)).trans HK2.out))
          have HB2 := Lib.hid ((HBA.out.alloc (by omega) _).trans (hb2.mono (by omega)))
          have HO2 := Lib.hid hown2
          have hz2 : w6.heap.size ≤ w2'.heap.size := by have := hb2.size; simp at this; omega
          have x7' : w2'.cell? ⟨w.heap.size, 7, none⟩ = some (.slice av q cv) := blk_cell HK0.out (i := 7) rfl
          have g7' := blk_fz HK0.out 7
          have la' : w.heap.size < w2'.heap.size := by omega
          clear hown2 hgr2 hb2 HO HIA HBA hza x7 g7 la p0 p1 p2 lp HT HCS
          go_wp2
          go_roundw
          case rel => exact ⟨k + 1, q + 1, av2, cv2, by go_num, by omega, by omega, Lib.hid (blk_set HK0.out 7 _), Lib.hid ((heap_set_neO (by omega)).trans HK2.out), Lib.hid (ownsRow_setCell_below HO2.out (a := ⟨w.heap.size, 7, none⟩) l0 _), Lib.hid (HIB.out.keep (by simp) (set_ints HK0.out)), Lib.hid (HB2.out.setCell (Nat.le_refl _) _), by simpa using hz2⟩
          case measure => simp [intOf]; omega
      · obtain rfl : k = n := by omega
        have hO := hO.out
        rw [List.take_of_length_le (by rw [HLN.out]; omega), ← HCL.out] at hO
        have HO := Lib.hid hO
        have hk0 := hK0.out
        have hk2 := hK2.out
        have l0' : w.heap.size < wr.heap.size := by omega
        have l2' : X2 < wr.heap.size := by omega
        clear hO hK0 hK2 hI
        have x0 : wr.cell? ⟨w.heap.size, 0, none⟩ = some (.string snm) := blk_cell hk0 (i := 0) rfl
        have z0 := blk_cell hk2 (i := 0) rfl
        have f0 := blk_fz hk2 0
        have x1 : wr.cell? ⟨w.heap.size, 1, none⟩ = some (.int .i64 sper) := blk_cell hk0 (i := 1) rfl
        have z1 := blk_cell hk2 (i := 1) rfl
        have f1 := blk_fz hk2 1
        have x2 : wr.cell? ⟨w.heap.size, 2, none⟩ = some (.int .i64 sleast) := blk_cell hk0 (i := 2) rfl
        have z2 := blk_cell hk2 (i := 2) rfl
        have f2 := blk_fz hk2 2
        have x3 : wr.cell? ⟨w.heap.size, 3, none⟩ = some (.int .i64 sa) := blk_cell hk0 (i := 3) rfl
        have z3 := blk_cell hk2 (i := 3) rfl
        have f3 := blk_fz hk2 3
        have x4 : wr.cell? ⟨w.heap.size, 4, none⟩ = some (.int .i64 sb) := blk_cell hk0 (i := 4) rfl
        have z4 := blk_cell hk2 (i := 4) rfl
        have f4 := blk_fz hk2 4
        have x5 : wr.cell? ⟨w.heap.size, 5, none⟩ = some (.int .i64 sc) := blk_cell hk0 (i := 5) rfl
        have z5 := blk_cell hk2 (i := 5) rfl
        have f5 := blk_fz hk2 5
        have x6 : wr.cell? ⟨w.heap.size, 6, none⟩ = some (.int .i64 sd) := blk_cell hk0 (i := 6) rfl
        have z6 := blk_cell hk2 (i := 6) rfl
        have f6 := blk_fz hk2 6
        have x7 : wr.cell? ⟨w.heap.size, 7, none⟩ = some (.slice av q cv) := blk_cell hk0 (i := 7) rfl
        have z7 := blk_cell hk2 (i := 7) rfl
        have f7 := blk_fz hk2 7
        clear hk0 hk2
        go_wp2_with fail
        generalize hW : World.setCell _ _ _ = w9
        have r0 : w9.cell? ⟨X2, 0, none⟩ = some (.string snm) := by { rw [← hW]; clear hW; go_simp }
        have r1 : w9.cell? ⟨X2, 1, none⟩ = some (.int .i64 sper) := by { rw [← hW]; clear hW; go_simp }
        have r2 : w9.cell? ⟨X2, 2, none⟩ = some (.int .i64 sleast) := by { rw [← hW]; clear hW; go_simp }
        have r3 : w9.cell? ⟨X2, 3, none⟩ = some (.int .i64 sa) := by { rw [← hW]; clear hW; go_simp }
        have r4 : w9.cell? ⟨X2, 4, none⟩ = some (.int .i64 sb) := by { rw [← hW]; clear hW; go_simp }
        have r5 : w9.cell? ⟨X2, 5, none⟩ = some (.int .i64 sc) := by { rw [← hW]; clear hW; go_simp }
        have r6 : w9.cell? ⟨X2, 6, none⟩ = some (.int .i64 sd) := by { rw [← hW]; clear hW; go_simp }
        have r7 : w9.cell? ⟨X2, 7, none⟩ = some (.slice av q cv) := by { rw [← hW]; clear hW; go_simp }
        have hb9 : Below w.heap.size w w9 := by { rw [← hW]; have := hB.out; (repeat' (first | (with_reducible exact Below.refl _ _) | (with_reducible assumption) | (with_reducible refine Below.drewN ?_ _) | (with_reducible refine Below.alloc ?_ ?_ _) | (with_reducible refine Below.drew ?_) | (with_reducible refine Below.setCell ?_ ?_ _) | (with_reducible refine Below.step (by assumption) ?_ ?_) | (with_reducible exact And.left (by assumption)) | go_size)) }
        have ho9 : w9.ownsRow w6.heap.size 127 3 (.slice av q cv) q (ecells e3 cl) := by { rw [← hW]; have := HO.out; (repeat' (first | (with_reducible assumption) | ((with_reducible refine owns_lit ?_ ?_ ?_ ?_) <;> first | (simp; done) | (simp; omega) | omega) | (with_reducible refine World.ownsRow.alloc ?_ _) | (with_reducible refine World.ownsRow.drew ?_) | (with_reducible refine owns_drewN ?_ _) | (with_reducible refine ownsRow_setCell_below ?_ ?_ _) | (simp; done) | (simp; omega) | omega)) }
        clear hW
        exact bodyPost_ret (v := .tuple #[.agg #[.string snm, .int .i64 sper, .int .i64 sleast, .int .i64 sa, .int .i64 sb, .int .i64 sc, .int .i64 sd, .slice av q cv], .int .i64 0]) (by simp [results, Tryz.results35, go_sem, r0, r1, r2, r3, r4, r5, r6, r7]) rfl ⟨av, q, cv, rfl, hb9, owns_mono ho9 (by omega)⟩
  · rw [if_pos h0] at hv hc
    simp only [Ser.mk.injEq] at hc
    obtain ⟨rfl, rfl, rfl, rfl, rfl, rfl, rfl, rfl⟩ := hc
    have s1 := bne_iff_ne.2 h0
    clear HV HZ h0 hv HC
    have z0 := blk_cell k2 (i := 0) rfl
    have f0 := blk_fz k2 0
    have z1 := blk_cell k2 (i := 1) rfl
    have f1 := blk_fz k2 1
    have z2 := blk_cell k2 (i := 2) rfl
    have f2 := blk_fz k2 2
    have z3 := blk_cell k2 (i := 3) rfl
    have f3 := blk_fz k2 3
    have z4 := blk_cell k2 (i := 4) rfl
    have f4 := blk_fz k2 4
    have z5 := blk_cell k2 (i := 5) rfl
    have f5 := blk_fz k2 5
    have z6 := blk_cell k2 (i := 6) rfl
    have f6 := blk_fz k2 6
    have z7 := blk_cell k2 (i := 7) rfl
    have f7 := blk_fz k2 7
    go_wp2_with fail
    generalize hW : World.setCell _ _ _ = w9
    have r0 : w9.cell? ⟨X2, 0, none⟩ = some (.string ⟨#[]⟩) := by { rw [← hW]; clear hW; go_simp }
    have r1 : w9.cell? ⟨X2, 1, none⟩ = some (.int .i64 0) := by { rw [← hW]; clear hW; go_simp }
    have r2 : w9.cell? ⟨X2, 2, none⟩ = some (.int .i64 0) := by { rw [← hW]; clear hW; go_simp }
    have r3 : w9.cell? ⟨X2, 3, none⟩ = some (.int .i64 0) := by { rw [← hW]; clear hW; go_simp }
    have r4 : w9.cell? ⟨X2, 4, none⟩ = some (.int .i64 0) := by { rw [← hW]; clear hW; go_simp }
    have r5 : w9.cell? ⟨X2, 5, none⟩ = some (.int .i64 0) := by { rw [← hW]; clear hW; go_simp }
    have r6 : w9.cell? ⟨X2, 6, none⟩ = some (.int .i64 0) := by { rw [← hW]; clear hW; go_simp }
    have r7 : w9.cell? ⟨X2, 7, none⟩ = some (.slice none 0 0) := by { rw [← hW]; clear hW; go_simp }
    have hb9 : Below w.heap.size w w9 := by { rw [← hW]; have := HB.out; (repeat' (first | (with_reducible exact Below.refl _ _) | (with_reducible assumption) | (with_reducible refine Below.drewN ?_ _) | (with_reducible refine Below.alloc ?_ ?_ _) | (with_reducible refine Below.drew ?_) | (with_reducible refine Below.setCell ?_ ?_ _) | (with_reducible refine Below.step (by assumption) ?_ ?_) | (with_reducible exact And.left (by assumption)) | go_size)) }
    clear hW
    exact bodyPost_ret (v := .tuple #[.agg #[.string ⟨#[]⟩, .int .i64 0, .int .i64 0, .int .i64 0, .int .i64 0, .int .i64 0, .int .i64 0, .slice none 0 0], .int .i64 E]) (by simp [results, Tryz.results35, go_sem, r0, r1, r2, r3, r4, r5, r6, r7]) rfl ⟨none, 0, 0, rfl, hb9, World.ownsRow_nil _ _ _ _⟩
end Go.Proofs.YthkekjgdknnaiaaGreat
