import Derived.Test.YtbjgklifmillgaaGreatMLd
import Derived.Test.YtbjgklifmillgaaGreatMSch
import Derived.Test.YtbjgklifmillgaaGreatRef1
/- The reference's ladders. -/
namespace Go.Proofs.YtbjgklifmillgaaGreat
open Go.RowKit
set_option linter.unusedVariables false

abbrev g0_ (l : List Int) (i : Nat) : Int := l.getD i 0
theorem few_any (a a1 a2 : Option Addr) (n c n1 c1 n2 c2 : Nat) (g : Bool) (w : World) (hn : n ≤ 9223372036854775807) (hn1 : n1 ≤ 9223372036854775807) (hn2 : n2 ≤ 9223372036854775807) :
    Calls Tryz.prog 7 #[.agg #[.slice a n c, .slice a1 n1 c1, .slice a2 n2 c2, .bool g]] w fun e' w' => e' = .returned (.bool (decide ((n : Int) ≤ 8) && decide ((n1 : Int) ≤ 8) && decide ((n2 : Int) ≤ 8))) ∧ Below w.heap.size w w' := by
  cases h0 : decide ((n : Int) ≤ 8) <;> cases h1 : decide ((n1 : Int) ≤ 8) <;> cases h2 : decide ((n2 : Int) ≤ 8)
  all_goals
    go_enter Tryz.func7, Tryz.ntmps7
    go_wp2
    go_ret
    exact ⟨rfl, by (repeat' (first | (with_reducible exact Below.refl _ _) | (with_reducible assumption) | (with_reducible refine Below.drewN ?_ _) | (with_reducible refine Below.alloc ?_ ?_ _) | (with_reducible refine Below.drew ?_) | (with_reducible refine Below.setCell ?_ ?_ _) | (with_reducible refine Below.step (by assumption) ?_ ?_) | (with_reducible exact And.left (by assumption)) | go_size))⟩
set_option maxHeartbeats 1000000 in
set_option maxRecDepth 100000 in
theorem copyLadder_any (s e t : List Int) (a a1 a2 : Option Addr) (n c n1 c1 n2 c2 : Nat) (g : Bool) (w : World) (hs : IntsR w a n s) (he : IntsR w a1 n1 e) (ht : IntsR w a2 n2 t) (hn : n ≤ 100000) (hn1 : n1 ≤ 100000) (hn2 : n2 ≤ 100000) :
    Calls Tryz.prog 9 #[.agg #[.slice a n c, .slice a1 n1 c1, .slice a2 n2 c2, .bool g]] w fun e' w' => ∃ a3 c3 a4 c4 a5 c5, e' = .returned (.agg #[.slice a3 n c3, .slice a4 n1 c4, .slice a5 n2 c5, .bool g]) ∧ Below w.heap.size w w' ∧ IntsR w' a3 n s ∧ IntsR w' a4 n1 e ∧ IntsR w' a5 n2 t := by
  have H1 := Lib.hid (fun (w' : World) (hb' : Below w.heap.size w w') => copyInts_any s a n c w' (hs.below hb') hn)
  have H2 := Lib.hid (fun (w' : World) (hb' : Below w.heap.size w w') => copyInts_any e a1 n1 c1 w' (he.below hb') hn1)
  have H3 := Lib.hid (fun (w' : World) (hb' : Below w.heap.size w w') => copyInts_any t a2 n2 c2 w' (ht.below hb') hn2)
  clear hs he ht
  go_enter Tryz.func9, Tryz.ntmps9
  go_wp2_with fail
  generalize hW : (w.alloc _).alloc _ = w5
  have q0 : w5.cell? ⟨w.heap.size, 0, none⟩ = some (.slice a n c) := by { rw [← hW]; clear hW; go_simp }
  have q1 : w5.cell? ⟨w.heap.size, 1, none⟩ = some (.slice a1 n1 c1) := by { rw [← hW]; clear hW; go_simp }
  have q2 : w5.cell? ⟨w.heap.size, 2, none⟩ = some (.slice a2 n2 c2) := by { rw [← hW]; clear hW; go_simp }
  have q3 : w5.cell? ⟨w.heap.size, 3, none⟩ = some (.bool g) := by { rw [← hW]; clear hW; go_simp }
  have hr : w5.heap[w.heap.size + 1]? = some (.cells #[.slice none 0 0, .slice none 0 0, .slice none 0 0, .bool false] 24) := by
    rw [← hW]
    have := heap_alloc_new (w.alloc (Obj.cells #[.slice a n c, .slice a1 n1 c1, .slice a2 n2 c2, .bool g] 24)) (Obj.cells #[.slice none 0 0, .slice none 0 0, .slice none 0 0, .bool false] 24)
    rwa [World.size_alloc] at this
  have HB5 := Lib.hid (show Below w.heap.size w w5 by rw [← hW]; (repeat' (first | (with_reducible exact Below.refl _ _) | (with_reducible assumption) | (with_reducible refine Below.drewN ?_ _) | (with_reducible refine Below.alloc ?_ ?_ _) | (with_reducible refine Below.drew ?_) | (with_reducible refine Below.setCell ?_ ?_ _) | (with_reducible refine Below.step (by assumption) ?_ ?_) | (with_reducible exact And.left (by assumption)) | go_size)))
  have hsz : w5.heap.size = w.heap.size + 1 + 1 := by rw [← hW]; simp
  clear hW
  obtain ⟨X, hX⟩ : ∃ X, X = w.heap.size + 1 := ⟨_, rfl⟩
  rw [← hX] at hr
  simp only [← hX]
  have j0 : w.heap.size < w5.heap.size := by omega
  have j1 : X < w5.heap.size := by omega
  have j2 : w.heap.size ≤ X := by omega
  have HXX := Lib.hid hX
  clear hX hsz
  have HNv := Lib.hid (Below.refl w5.heap.size w5).drew
  refine wp_region_mixZ (B := w5.heap.size) [(true, 0), (true, 1), (true, 3), (true, 4), (true, 6), (true, 7), (true, 9), (true, 10), (false, 2), (false, 5), (false, 8), (true, 11), (false, 12)] 12 (by kernel_rfl) (by kernel_rfl) ?_; simp only [opsOf, List.filterMap_cons, List.filterMap_nil, List.getElem?_toArray, List.getElem?_cons_zero, List.getElem?_cons_succ, Option.map_some]
  repeat (refine mixz_head ?_; (show wpQuiet _ _ _ _ (_ :: _) _; go_big_quiet_step (fail)); refine wpQuiet_nil ?_)
  refine mixz_tail ?_; go_wp2_with fail
  refine (H1.out _ (HB5.out.trans (HNv.out.mono HB5.out.size))).mono ?_
  rintro e6 w6 ⟨a3, c3, rfl, hb6, ho6⟩
  have HI1 := Lib.hid (owns_mono (base' := w5.heap.size) ho6 HNv.out.size)
  have HNv := Lib.hid (HNv.out.trans (hb6.mono HNv.out.size))
  clear hb6 ho6
  go_wp2_with fail
  refine tailL_mk HNv.out ?_
  repeat (refine mixz_head ?_; (show wpQuiet _ _ _ _ (_ :: _) _; go_big_quiet_step (fail)); refine wpQuiet_nil ?_)
  refine mixz_tail ?_; go_wp2_with fail
  refine (H2.out _ (HB5.out.trans (HNv.out.mono HB5.out.size))).mono ?_
  rintro e7 w7 ⟨a4, c4, rfl, hb7, ho7⟩
  have HI1 := Lib.hid (owns_below HI1.out hb7 (fun z hz => (HI1.out.lt z hz).2))
  have HI2 := Lib.hid (owns_mono (base' := w5.heap.size) ho7 HNv.out.size)
  have HNv := Lib.hid (HNv.out.trans (hb7.mono HNv.out.size))
  clear hb7 ho7
  go_wp2_with fail
  refine tailL_mk HNv.out ?_
  repeat (refine mixz_head ?_; (show wpQuiet _ _ _ _ (_ :: _) _; go_big_quiet_step (fail)); refine wpQuiet_nil ?_)
  refine mixz_tail ?_; go_wp2_with fail
  refine (H3.out _ (HB5.out.trans (HNv.out.mono HB5.out.size))).mono ?_
  rintro e8 w8 ⟨a5, c5, rfl, hb8, ho8⟩
  have HI1 := Lib.hid (owns_below HI1.out hb8 (fun z hz => (HI1.out.lt z hz).2))
  have HI2 := Lib.hid (owns_below HI2.out hb8 (fun z hz => (HI2.out.lt z hz).2))
  have HI3 := Lib.hid (owns_mono (base' := w5.heap.size) ho8 HNv.out.size)
  have HNv := Lib.hid (HNv.out.trans (hb8.mono HNv.out.size))
  have hzv := HNv.out.size
  clear hb8 ho8
  have hr8 := (HNv.out.block X j1).trans hr
  have d0 := cell_of_row _ _ 0 _ _ _ hr8
  have d1 := cell_of_row _ _ 1 _ _ _ hr8
  have d2 := cell_of_row _ _ 2 _ _ _ hr8
  have d3 := cell_of_row _ _ 3 _ _ _ hr8
  have f0 := frozen_of_row _ _ 0 _ _ hr8
  have f1 := frozen_of_row _ _ 1 _ _ hr8
  have f2 := frozen_of_row _ _ 2 _ _ hr8
  have f3 := frozen_of_row _ _ 3 _ _ hr8
  simp only [List.getElem?_toArray, List.getElem?_cons_zero, List.getElem?_cons_succ] at d0 d1 d2 d3
  go_wp2_with fail
  refine tailL_mk HNv.out ?_
  repeat (refine mixz_head ?_; (show wpQuiet _ _ _ _ (_ :: _) _; go_big_quiet_step (fail)); refine wpQuiet_nil ?_)
  refine mixz_last ?_; go_wp2_with fail
  refine tailZ_end ?_
  have HB8 := Lib.hid (HB5.out.trans (HNv.out.mono HB5.out.size))
  go_wp2
  refine bodyPost_ret (v := .agg #[.slice a3 n c3, .slice a4 n1 c4, .slice a5 n2 c5, .bool g]) (by simp [results, Tryz.results9, go_sem, d0, d1, d2, d3]) rfl ⟨a3, c3, a4, c4, a5, c5, rfl, ?_, ?_, ?_, ?_⟩
  · exact Below.setCell (Below.setCell (Below.setCell (Below.setCell HB8.out j2 _) j2 _) j2 _) j2 _
  · exact SlR.of_owns (ownsRow_setCell_below (ownsRow_setCell_below (ownsRow_setCell_below (ownsRow_setCell_below HI1.out (a := ⟨X, 0, none⟩) j1 _) (a := ⟨X, 1, none⟩) j1 _) (a := ⟨X, 2, none⟩) j1 _) (a := ⟨X, 3, none⟩) j1 _)
  · exact SlR.of_owns (ownsRow_setCell_below (ownsRow_setCell_below (ownsRow_setCell_below (ownsRow_setCell_below HI2.out (a := ⟨X, 0, none⟩) j1 _) (a := ⟨X, 1, none⟩) j1 _) (a := ⟨X, 2, none⟩) j1 _) (a := ⟨X, 3, none⟩) j1 _)
  · exact SlR.of_owns (ownsRow_setCell_below (ownsRow_setCell_below (ownsRow_setCell_below (ownsRow_setCell_below HI3.out (a := ⟨X, 0, none⟩) j1 _) (a := ⟨X, 1, none⟩) j1 _) (a := ⟨X, 2, none⟩) j1 _) (a := ⟨X, 3, none⟩) j1 _)
set_option maxRecDepth 100000 in
theorem rladderErr_ok (s e t : List Int) (a a1 a2 : Option Addr) (n c n1 c1 n2 c2 : Nat) (g : Bool) (w : World) (hs : IntsR w a n s) (he : IntsR w a1 n1 e) (ht : IntsR w a2 n2 t)
    (hn : 0 < n) (h1 : n1 = n) (h2 : n2 = n) (h6 : n ≤ 6) :
    Calls Tryz.prog 11 #[.agg #[.slice a n c, .slice a1 n1 c1, .slice a2 n2 c2, .bool g]] w fun e' w' => e' = .returned (.int .i64 (unl (ladAll s e t 0) 2)) ∧ Below w.heap.size w w' := by
  subst h1 h2
  have HS := Lib.hid hs
  have HE := Lib.hid he
  have HT := Lib.hid ht
  obtain ⟨b0, o0, rfl, hb0, hc0⟩ := hs.addr hn
  obtain ⟨b1, o1, rfl, hb1, hc1⟩ := he.addr hn
  obtain ⟨b2, o2, rfl, hb2, hc2⟩ := ht.addr hn
  have HC := Lib.hid (And.intro hc0 (And.intro hc1 hc2))
  clear hs he ht hc0 hc1 hc2
  obtain ⟨F, hF⟩ : ∃ F, F = ladAll s e t 0 := ⟨_, rfl⟩
  rw [← hF]
  have HF0 := Lib.hid hF
  clear hF
  have hn0 : ((n2 : Int) == 0) = false := by simp; omega
  have hn6 : decide ((n2 : Int) > 6) = false := by simp; omega
  go_enter Tryz.func11, Tryz.ntmps11
  go_wp2
  generalize hW : w.alloc _ = w5
  have q0 : w5.cell? ⟨w.heap.size, 0, none⟩ = some (.slice (some ⟨b0, o0, none⟩) n2 c) := by { rw [← hW]; clear hW; go_simp }
  have q1 : w5.cell? ⟨w.heap.size, 1, none⟩ = some (.slice (some ⟨b1, o1, none⟩) n2 c1) := by { rw [← hW]; clear hW; go_simp }
  have q2 : w5.cell? ⟨w.heap.size, 2, none⟩ = some (.slice (some ⟨b2, o2, none⟩) n2 c2) := by { rw [← hW]; clear hW; go_simp }
  have HB5 := Lib.hid (show Below w.heap.size w w5 by rw [← hW]; (repeat' (first | (with_reducible exact Below.refl _ _) | (with_reducible assumption) | (with_reducible refine Below.drewN ?_ _) | (with_reducible refine Below.alloc ?_ ?_ _) | (with_reducible refine Below.drew ?_) | (with_reducible refine Below.setCell ?_ ?_ _) | (with_reducible refine Below.step (by assumption) ?_ ?_) | (with_reducible exact And.left (by assumption)) | go_size)))
  clear hW
  go_loopw [4] (fun i wr => ∃ k : Nat, i = .int .i64 k ∧ k ≤ n2 ∧ Hid (ladAll s e t k = F) ∧ wr = w5) (fun i _ => n2 - (intOf i).toNat)
  case atStart => exact ⟨0, rfl, Nat.zero_le _, Lib.hid HF0.out.symm, rfl⟩
  case round =>
    obtain ⟨k, rfl, hk, hF, rfl⟩ := hrel
    rcases Nat.lt_or_ge k n2 with hlt | hge
    · obtain ⟨x, hx⟩ : ∃ x, x = g0_ s k := ⟨_, rfl⟩
      obtain ⟨y, hy⟩ : ∃ x, x = g0_ e k := ⟨_, rfl⟩
      obtain ⟨z, hz⟩ : ∃ x, x = g0_ t k := ⟨_, rfl⟩
      have cx : wr.cell? ⟨b0, o0 + k, none⟩ = some (.int .i64 x) := by rw [cellB HB5.out _ _ hb0, hx]; exact HC.out.1 k hlt
      have cy : wr.cell? ⟨b1, o1 + k, none⟩ = some (.int .i64 y) := by rw [cellB HB5.out _ _ hb1, hy]; exact HC.out.2.1 k hlt
      have cz : wr.cell? ⟨b2, o2 + k, none⟩ = some (.int .i64 z) := by rw [cellB HB5.out _ _ hb2, hz]; exact HC.out.2.2 k hlt
      have hst := ladAll_step s e t k (by rw [HS.out.len]; exact hlt) (by rw [HE.out.len]; exact hlt) (by rw [HT.out.len]; exact hlt)
      rw [hF.out, show s.getD k 0 = x from hx.symm, show e.getD k 0 = y from hy.symm, show t.getD k 0 = z from hz.symm] at hst
      have HST := Lib.hid hst
      have i0 : (0 : Int) ≤ (k : Int) := by omega
      have i1 : (k : Int) < (n2 : Int) := by omega
      clear hst hx hy hz
      cases h1 : wi x 1 100
      · have HV := Lib.hid (show F = false by rw [HST.out]; simp [h1])
        go_wp2_with (go_at_call 20; refine (bwithin_any _ _ _ _).mono ?_; rintro e5 w5 ⟨rfl, rfl⟩)
        go_ret
        exact ⟨ret_int (by rw [HV.out]; rfl), HB5.out⟩
      · cases h2 : wi y 0 100
        · have HV := Lib.hid (show F = false by rw [HST.out]; simp [h1, h2])
          go_wp2_with (go_at_call 20; refine (bwithin_any _ _ _ _).mono ?_; rintro e5 w5 ⟨rfl, rfl⟩)
          go_ret
          exact ⟨ret_int (by rw [HV.out]; rfl), HB5.out⟩
        · cases h3 : wi z 1 1000
          · have HV := Lib.hid (show F = false by rw [HST.out]; simp [h1, h2, h3])
            go_wp2_with (go_at_call 20; refine (bwithin_any _ _ _ _).mono ?_; rintro e5 w5 ⟨rfl, rfl⟩)
            go_ret
            exact ⟨ret_int (by rw [HV.out]; rfl), HB5.out⟩
          · have HV := Lib.hid (show ladAll s e t (k + 1) = F by rw [HST.out]; simp [h1, h2, h3])
            go_wp2_with (go_at_call 20; refine (bwithin_any _ _ _ _).mono ?_; rintro e5 w5 ⟨rfl, rfl⟩)
            go_roundw
            case rel => exact ⟨k + 1, by go_num, by omega, HV, trivial⟩
            case measure => simp [intOf]; omega
    · obtain rfl : n2 = k := by omega
      have HV := Lib.hid (show F = true by rw [← hF.out, ← HS.out.len]; exact ladAll_end s e t)
      go_wp2
      go_ret
      exact ⟨ret_int (by rw [HV.out]; rfl), HB5.out⟩
set_option maxRecDepth 100000 in
theorem rladderErr_bad (a a1 a2 : Option Addr) (n c n1 c1 n2 c2 : Nat) (g : Bool) (w : World) (E : Int) (hn : n ≤ 9223372036854775807) (hn1 : n1 ≤ 9223372036854775807) (hn2 : n2 ≤ 9223372036854775807)
    (h : (¬ (0 < n ∧ n1 = n ∧ n2 = n) ∧ E = 10) ∨ ((0 < n ∧ n1 = n ∧ n2 = n) ∧ 6 < n ∧ E = 8)) :
    Calls Tryz.prog 11 #[.agg #[.slice a n c, .slice a1 n1 c1, .slice a2 n2 c2, .bool g]] w fun e' w' => e' = .returned (.int .i64 E) ∧ Below w.heap.size w w' := by
  have hcase : (((n : Int) == 0) = true ∧ E = 10) ∨ (((n : Int) == 0) = false ∧ ((n1 : Int) != (n : Int)) = true ∧ E = 10) ∨ (((n : Int) == 0) = false ∧ ((n1 : Int) != (n : Int)) = false ∧ ((n2 : Int) != (n : Int)) = true ∧ E = 10) ∨
      (((n : Int) == 0) = false ∧ ((n1 : Int) != (n : Int)) = false ∧ ((n2 : Int) != (n : Int)) = false ∧ decide ((n : Int) > 6) = true ∧ E = 8) := by
    rcases h with ⟨h, rfl⟩ | ⟨⟨h1, h2, h3⟩, h4, rfl⟩
    · by_cases h0 : n = 0
      · exact .inl ⟨by simp; omega, rfl⟩
      · by_cases h1 : n1 = n
        · exact .inr (.inr (.inl ⟨by simp; omega, by simp; omega, by simp; omega, rfl⟩))
        · exact .inr (.inl ⟨by simp; omega, by simp; omega, rfl⟩)
    · exact .inr (.inr (.inr ⟨by simp; omega, by simp; omega, by simp; omega, by simp; omega, rfl⟩))
  clear h
  rcases hcase with ⟨i1, rfl⟩ | ⟨i1, i2, rfl⟩ | ⟨i1, i2, i3, rfl⟩ | ⟨i1, i2, i3, i4, rfl⟩
  all_goals
    go_enter Tryz.func11, Tryz.ntmps11
    go_wp2
    go_ret
    exact ⟨rfl, by (repeat' (first | (with_reducible exact Below.refl _ _) | (with_reducible assumption) | (with_reducible refine Below.drewN ?_ _) | (with_reducible refine Below.alloc ?_ ?_ _) | (with_reducible refine Below.drew ?_) | (with_reducible refine Below.setCell ?_ ?_ _) | (with_reducible refine Below.step (by assumption) ?_ ?_) | (with_reducible exact And.left (by assumption)) | go_size))⟩
theorem rladderErr_any (s e t : List Int) (a a1 a2 : Option Addr) (n c n1 c1 n2 c2 : Nat) (g : Bool) (w : World) (hs : IntsR w a n s) (he : IntsR w a1 n1 e) (ht : IntsR w a2 n2 t) :
    Calls Tryz.prog 11 #[.agg #[.slice a n c, .slice a1 n1 c1, .slice a2 n2 c2, .bool g]] w fun e' w' => e' = .returned (.int .i64 (ladErr s e t)) ∧ Below w.heap.size w w' := by
  have l1 := hs.len
  have l2 := he.len
  have l3 := ht.len
  by_cases h : 0 < n ∧ n1 = n ∧ n2 = n
  · by_cases h6 : n ≤ 6
    · have := rladderErr_ok s e t a a1 a2 n c n1 c1 n2 c2 g w hs he ht h.1 h.2.1 h.2.2 h6
      unfold ladErr
      rw [if_pos (by omega), if_pos (by omega)]
      exact this
    · have := rladderErr_bad a a1 a2 n c n1 c1 n2 c2 g w 8 hs.small he.small ht.small (.inr ⟨h, by omega, rfl⟩)
      unfold ladErr
      rw [if_pos (by omega), if_neg (by omega)]
      exact this
  · have := rladderErr_bad a a1 a2 n c n1 c1 n2 c2 g w 10 hs.small he.small ht.small (.inl ⟨h, rfl⟩)
    unfold ladErr
    rw [if_neg (by omega)]
    exact this
end Go.Proofs.YtbjgklifmillgaaGreat
