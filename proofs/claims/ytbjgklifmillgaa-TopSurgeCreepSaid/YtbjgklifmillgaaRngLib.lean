import Derived.Deep.CutRange
import Derived.Test.YtbjgklifmillgaaFracsEq
import Derived.Test.YtbjgklifmillgaaMGs
import Derived.Test.YtbjgklifmillgaaMSch
/- The reference's helpers on ladders with ranges: copies, their error, and few sections. -/
namespace Go.Proofs.Ytbjgklifmillgaa
open Go.RowKit
set_option linter.unusedVariables false

theorem infoRange : (Try.prog.info? 90).map (fun i => (i.zero, i.size, i.bytes)) = some (some (.agg #[.int .i64 0, .int .i64 0]), 2, 16) := by kernel_rfl
set_option maxRecDepth 100000 in
theorem copyRanges_any (l : List (Int × Int)) (a : Option Addr) (n c : Nat) (w : World) (h : PairsR w a n l) (hn : n ≤ 100000) :
    Calls Try.prog 83 #[.slice a n c] w fun e' w' => ∃ a' c', e' = .returned (.slice a' n c') ∧ Below w.heap.size w w' ∧ w'.ownsRow w.heap.size 90 2 (.slice a' n c') n (pcells l) := by
  have H := Lib.hid h
  clear h
  go_enter Try.func83, Try.ntmps83
  go_wp2_with (at_builtin; refine wpList_append_sl _ rfl _ _ 80 rfl w.heap.size 90 _ 2 16 Try.underlying80 infoRange rfl (by omega) _ _ _ rfl (World.ownsRow_made w #[] 0 (by omega) (by simp [maxLen]) rfl) a n c (pcells l) rfl (H.out.below (by (repeat' (first | (with_reducible exact Below.refl _ _) | (with_reducible assumption) | (with_reducible refine Below.drewN ?_ _) | (with_reducible refine Below.alloc ?_ ?_ _) | (with_reducible refine Below.drew ?_) | (with_reducible refine Below.setCell ?_ ?_ _) | (with_reducible refine Below.step (by assumption) ?_ ?_) | (with_reducible exact And.left (by assumption)) | go_size)))) (pcells_one _) (by omega) (by omega) (by simp) ?_)
  intro v2 w2 hown2 _ hb2
  try simp only [Nat.zero_add, List.nil_append] at hown2
  obtain ⟨a', c', rfl, _, _⟩ := owns_slice hown2
  have HO := Lib.hid hown2
  have HB := Lib.hid hb2
  clear hown2 hb2
  go_wp2
  go_ret
  exact ⟨a', c', rfl, Below.trans (by (repeat' (first | (with_reducible exact Below.refl _ _) | (with_reducible assumption) | (with_reducible refine Below.drewN ?_ _) | (with_reducible refine Below.alloc ?_ ?_ _) | (with_reducible refine Below.drew ?_) | (with_reducible refine Below.setCell ?_ ?_ _) | (with_reducible refine Below.step (by assumption) ?_ ?_) | (with_reducible exact And.left (by assumption)) | go_size))) HB.out, HO.out⟩
set_option maxHeartbeats 1000000 in
set_option maxRecDepth 100000 in
theorem copySpans_any (s e : List (Int × Int)) (a a1 : Option Addr) (n c n1 c1 : Nat) (g : Bool) (w : World) (hs : PairsR w a n s) (he : PairsR w a1 n1 e) (hn : n ≤ 100000) (hn1 : n1 ≤ 100000) :
    Calls Try.prog 34 #[.agg #[.slice a n c, .slice a1 n1 c1, .bool g]] w fun e' w' => ∃ a3 c3 a4 c4, e' = .returned (.agg #[.slice a3 n c3, .slice a4 n1 c4, .bool g]) ∧ Below w.heap.size w w' ∧ PairsR w' a3 n s ∧ PairsR w' a4 n1 e := by
  have H1 := Lib.hid (fun (w' : World) (hb' : Below w.heap.size w w') => copyRanges_any s a n c w' (hs.below hb') hn)
  have H2 := Lib.hid (fun (w' : World) (hb' : Below w.heap.size w w') => copyRanges_any e a1 n1 c1 w' (he.below hb') hn1)
  clear hs he
  go_enter Try.func34, Try.ntmps34
  go_wp2_with fail
  generalize hW : (w.alloc _).alloc _ = w5
  have q0 : w5.cell? ⟨w.heap.size, 0, none⟩ = some (.slice a n c) := by { rw [← hW]; clear hW; go_simp }
  have q1 : w5.cell? ⟨w.heap.size, 1, none⟩ = some (.slice a1 n1 c1) := by { rw [← hW]; clear hW; go_simp }
  have q2 : w5.cell? ⟨w.heap.size, 2, none⟩ = some (.bool g) := by { rw [← hW]; clear hW; go_simp }
  have hr : w5.heap[w.heap.size + 1]? = some (.cells #[.slice none 0 0, .slice none 0 0, .bool false] 82) := by
    rw [← hW]
    have := heap_alloc_new (w.alloc (Obj.cells #[.slice a n c, .slice a1 n1 c1, .bool g] 82)) (Obj.cells #[.slice none 0 0, .slice none 0 0, .bool false] 82)
    rwa [World.size_alloc] at this
  have HB5 := Lib.hid (show Below w.heap.size w w5 by rw [← hW]; (repeat' (first | (with_reducible exact Below.refl _ _) | (with_reducible assumption) | (with_reducible refine Below.drewN ?_ _) | (with_reducible refine Below.alloc ?_ ?_ _) | (with_reducible refine Below.drew ?_) | (with_reducible refine Below.setCell ?_ ?_ _) | (with_reducible refine Below.step (by assumption) ?_ ?_) | (with_reducible exact And.left (by assumption)) | go_size)))
  have hsz : w5.heap.size = w.heap.size + 1 + 1 := by rw [← hW]; simp
  clear hW
  obtain ⟨X, hX⟩ : ∃ X, X = w.heap.size + 1 := ⟨_, rfl⟩
  rw [← hX] at hr
  simp only [← hX]
  have j0 : w.heap.size < w5.heap.size := by omega
  have j1 : X < w5.heap.size := by omega
  have j2 : w.heap.size ≤ X := by omega
  have HXX := Lib.hid hX
  clear hX hsz
  have HNv := Lib.hid (Below.refl w5.heap.size w5).drew
  refine wp_region_mixZ (B := w5.heap.size) [(true, 0), (true, 1), (true, 3), (true, 4), (true, 6), (true, 7), (false, 2), (false, 5), (true, 8), (false, 9)] 9 (by kernel_rfl) (by kernel_rfl) ?_; simp only [opsOf, List.filterMap_cons, List.filterMap_nil, List.getElem?_toArray, List.getElem?_cons_zero, List.getElem?_cons_succ, Option.map_some]
  repeat (refine mixz_head ?_; (show wpQuiet _ _ _ _ (_ :: _) _; go_big_quiet_step (fail)); refine wpQuiet_nil ?_)
  refine mixz_tail ?_; go_wp2_with fail
  refine (H1.out _ (HB5.out.trans (HNv.out.mono HB5.out.size))).mono ?_
  rintro e6 w6 ⟨a3, c3, rfl, hb6, ho6⟩
  have HI1 := Lib.hid (owns_mono (base' := w5.heap.size) ho6 HNv.out.size)
  have HNv := Lib.hid (HNv.out.trans (hb6.mono HNv.out.size))
  clear hb6 ho6
  go_wp2_with fail
  refine tailL_mk HNv.out ?_
  repeat (refine mixz_head ?_; (show wpQuiet _ _ _ _ (_ :: _) _; go_big_quiet_step (fail)); refine wpQuiet_nil ?_)
  refine mixz_tail ?_; go_wp2_with fail
  refine (H2.out _ (HB5.out.trans (HNv.out.mono HB5.out.size))).mono ?_
  rintro e7 w7 ⟨a4, c4, rfl, hb7, ho7⟩
  have HI1 := Lib.hid (owns_below HI1.out hb7 (fun z hz => (HI1.out.lt z hz).2))
  have HI2 := Lib.hid (owns_mono (base' := w5.heap.size) ho7 HNv.out.size)
  have HNv := Lib.hid (HNv.out.trans (hb7.mono HNv.out.size))
  have hzv := HNv.out.size
  clear hb7 ho7
  have hr8 := (HNv.out.block X j1).trans hr
  have d0 := cell_of_row _ _ 0 _ _ _ hr8
  have d1 := cell_of_row _ _ 1 _ _ _ hr8
  have d2 := cell_of_row _ _ 2 _ _ _ hr8
  have f0 := frozen_of_row _ _ 0 _ _ hr8
  have f1 := frozen_of_row _ _ 1 _ _ hr8
  have f2 := frozen_of_row _ _ 2 _ _ hr8
  simp only [List.getElem?_toArray, List.getElem?_cons_zero, List.getElem?_cons_succ] at d0 d1 d2
  go_wp2_with fail
  refine tailL_mk HNv.out ?_
  repeat (refine mixz_head ?_; (show wpQuiet _ _ _ _ (_ :: _) _; go_big_quiet_step (fail)); refine wpQuiet_nil ?_)
  refine mixz_last ?_; go_wp2_with fail
  refine tailZ_end ?_
  have HB8 := Lib.hid (HB5.out.trans (HNv.out.mono HB5.out.size))
  go_wp2
  refine bodyPost_ret (v := .agg #[.slice a3 n c3, .slice a4 n1 c4, .bool g]) (by simp [results, Try.results34, go_sem, d0, d1, d2]) rfl ⟨a3, c3, a4, c4, rfl, ?_, ?_, ?_⟩
  · exact Below.setCell (Below.setCell (Below.setCell HB8.out j2 _) j2 _) j2 _
  · exact SlR.of_owns (ownsRow_setCell_below (ownsRow_setCell_below (ownsRow_setCell_below HI1.out (a := ⟨X, 0, none⟩) j1 _) (a := ⟨X, 1, none⟩) j1 _) (a := ⟨X, 2, none⟩) j1 _)
  · exact SlR.of_owns (ownsRow_setCell_below (ownsRow_setCell_below (ownsRow_setCell_below HI2.out (a := ⟨X, 0, none⟩) j1 _) (a := ⟨X, 1, none⟩) j1 _) (a := ⟨X, 2, none⟩) j1 _)
theorem fewRanges_any (a a1 : Option Addr) (n c n1 c1 : Nat) (g : Bool) (w : World) (hn : n ≤ 9223372036854775807) (hn1 : n1 ≤ 9223372036854775807) :
    Calls Try.prog 31 #[.agg #[.slice a n c, .slice a1 n1 c1, .bool g]] w fun e' w' => e' = .returned (.bool (decide ((n : Int) ≤ 8) && decide ((n1 : Int) ≤ 8))) ∧ Below w.heap.size w w' := by
  cases h0 : decide ((n : Int) ≤ 8) <;> cases h1 : decide ((n1 : Int) ≤ 8)
  all_goals
    go_enter Try.func31, Try.ntmps31
    go_wp2
    go_ret
    exact ⟨rfl, by (repeat' (first | (with_reducible exact Below.refl _ _) | (with_reducible assumption) | (with_reducible refine Below.drewN ?_ _) | (with_reducible refine Below.alloc ?_ ?_ _) | (with_reducible refine Below.drew ?_) | (with_reducible refine Below.setCell ?_ ?_ _) | (with_reducible refine Below.step (by assumption) ?_ ?_) | (with_reducible exact And.left (by assumption)) | go_size))⟩
set_option maxHeartbeats 1000000 in
set_option maxRecDepth 100000 in
theorem rrangesErr_ok (s e : List (Int × Int)) (a a1 : Option Addr) (n c n1 c1 : Nat) (g : Bool) (w : World) (hs : PairsR w a n s) (he : PairsR w a1 n1 e) (hn : 0 < n) (h1 : n1 = n) (h6 : n ≤ 6) :
    Calls Try.prog 32 #[.agg #[.slice a n c, .slice a1 n1 c1, .bool g]] w fun e' w' => e' = .returned (.int .i64 (rgScan s e n 0)) ∧ Below w.heap.size w w' := by
  subst h1
  obtain ⟨b0, o0, rfl, hb0, hc0⟩ := hs.addr hn
  obtain ⟨b1, o1, rfl, hb1, hc1⟩ := he.addr hn
  have HC := Lib.hid (And.intro hc0 hc1)
  clear hs he hc0 hc1
  obtain ⟨F, hF⟩ : ∃ F, F = rgScan s e n1 0 := ⟨_, rfl⟩
  rw [← hF]
  have HF0 := Lib.hid hF
  clear hF
  have hn0 : ((n1 : Int) == 0) = false := by simp; omega
  have hn6 : decide ((n1 : Int) > 6) = false := by simp; omega
  go_enter Try.func32, Try.ntmps32
  go_wp2
  generalize hW : w.alloc _ = w5
  have q0 : w5.cell? ⟨w.heap.size, 0, none⟩ = some (.slice (some ⟨b0, o0, none⟩) n1 c) := by { rw [← hW]; clear hW; go_simp }
  have q1 : w5.cell? ⟨w.heap.size, 1, none⟩ = some (.slice (some ⟨b1, o1, none⟩) n1 c1) := by { rw [← hW]; clear hW; go_simp }
  have l5 : w.heap.size < w5.heap.size := by rw [← hW]; simp
  have HB5 := Lib.hid (show Below w.heap.size w w5 by rw [← hW]; (repeat' (first | (with_reducible exact Below.refl _ _) | (with_reducible assumption) | (with_reducible refine Below.drewN ?_ _) | (with_reducible refine Below.alloc ?_ ?_ _) | (with_reducible refine Below.drew ?_) | (with_reducible refine Below.setCell ?_ ?_ _) | (with_reducible refine Below.step (by assumption) ?_ ?_) | (with_reducible exact And.left (by assumption)) | go_size)))
  clear hW
  go_loopw [4] (fun i wr => ∃ k : Nat, i = .int .i64 k ∧ k ≤ n1 ∧ Hid (rgScan s e (n1 - k) k = F) ∧ Hid (Below w5.heap.size w5 wr)) (fun i _ => n1 - (intOf i).toNat)
  case atStart => exact ⟨0, rfl, Nat.zero_le _, Lib.hid HF0.out.symm, Lib.hid (Below.refl _ _)⟩
  case round =>
    obtain ⟨k, rfl, hk, hF, hB⟩ := hrel
    obtain ⟨wh, rfl⟩ : ∃ w', w' = wr := ⟨wr, rfl⟩
    have hbh := hB.out
    have hzh := hbh.size
    have q0h : wh.cell? ⟨w.heap.size, 0, none⟩ = some (.slice (some ⟨b0, o0, none⟩) n1 c) := by { rw [cellB hbh _ _ (by first | (simp; done) | (simp; omega) | omega)]; all_goals (first | assumption | go_simp) }; have q1h : wh.cell? ⟨w.heap.size, 1, none⟩ = some (.slice (some ⟨b1, o1, none⟩) n1 c1) := by { rw [cellB hbh _ _ (by first | (simp; done) | (simp; omega) | omega)]; all_goals (first | assumption | go_simp) }; have lh : w.heap.size < wh.heap.size := by { omega }
    have HBH := Lib.hid (HB5.out.trans (hbh.mono (by omega)))
    have HBh := Lib.hid hB.out
    clear hbh hB
    rcases Nat.lt_or_ge k n1 with hlt | hge
    · obtain ⟨⟨x, y⟩, hxy⟩ : ∃ p, p = gr s k := ⟨_, rfl⟩
      obtain ⟨⟨z, t⟩, hzt⟩ : ∃ p, p = gr e k := ⟨_, rfl⟩
      have hx := HC.out.1 k hlt
      have hz := HC.out.2 k hlt
      have hlb0 : b0 < wh.heap.size := by have := HBH.out.size; omega
      have hlb1 : b1 < wh.heap.size := by have := HBH.out.size; omega
      have cx : wh.cell? ⟨b0, o0 + k * 2, none⟩ = some (.int .i64 x) := by rw [cellB HBH.out _ _ hb0, hx.1, show x = (gr s k).1 by rw [← hxy]]
      have cy : wh.cell? ⟨b0, o0 + k * 2 + 1, none⟩ = some (.int .i64 y) := by rw [cellB HBH.out _ _ hb0, hx.2, show y = (gr s k).2 by rw [← hxy]]
      have cz : wh.cell? ⟨b1, o1 + k * 2, none⟩ = some (.int .i64 z) := by rw [cellB HBH.out _ _ hb1, hz.1, show z = (gr e k).1 by rw [← hzt]]
      have ct : wh.cell? ⟨b1, o1 + k * 2 + 1, none⟩ = some (.int .i64 t) := by rw [cellB HBH.out _ _ hb1, hz.2, show t = (gr e k).2 by rw [← hzt]]
      have hpt : rgPt s e k = firstErr [unl (wi x 1 100 && (wi y 1 100 && (wi z 0 100 && wi t 0 100))) 2, unl (decide (x ≤ y) && decide (z ≤ t)) 9] := by
        unfold rgPt rgOk rgOrd
        rw [← hxy, ← hzt]
      have hsc : F = if rgPt s e k = 0 then rgScan s e (n1 - (k + 1)) (k + 1) else rgPt s e k := by
        rw [← hF.out]
        obtain ⟨m, hm⟩ : ∃ m, n1 - k = m + 1 := ⟨n1 - k - 1, by omega⟩
        rw [hm, show n1 - (k + 1) = m by omega]
        rfl
      rw [hpt] at hsc
      have HSC := Lib.hid hsc
      have i0 : (0 : Int) ≤ (k : Int) := by omega
      have i1 : (k : Int) < (n1 : Int) := by omega
      clear hpt hsc hx hz hxy hzt
      go_wp2_with fail
      go_cut [5, 6] from 21 to 69 (fun v5 v6 wx => ∃ X5 X6 : Nat, v5 = .pointer (some ⟨X5, 0, none⟩) ∧ v6 = .pointer (some ⟨X6, 0, none⟩) ∧ wx.cell? ⟨X5, 0, none⟩ = some (.int .i64 x) ∧ wx.cell? ⟨X5, 1, none⟩ = some (.int .i64 y) ∧ wx.cell? ⟨X6, 0, none⟩ = some (.int .i64 z) ∧ wx.cell? ⟨X6, 1, none⟩ = some (.int .i64 t) ∧ X5 < wx.heap.size ∧ X6 < wx.heap.size ∧ Hid (Below wh.heap.size wh wx))
      case first =>
        refine wp_region_laterT (B := wh.heap.size) (.head 0 (.head 1 (.head 2 (.head 3 (.head 4 (.head 5 (.head 6 (.head 7 (.head 8 (.head 9 (.two 10 (.one 11 (.one 12 (.one 13 .done))) 11 (.one 10 (.one 12 (.one 13 .done)))))))))))))) (by kernel_rfl) (by kernel_rfl) ?_
        repeat (refine tree_head rfl ?_; (show wpQuiet _ _ _ _ (_ :: _) _; go_big_quiet_step (fail)); refine wpQuiet_nil ?_)
        refine tree_two rfl rfl ?_ ?_
        · go_wp2_with fail
          refine tailL_mk (by (repeat' (first | (with_reducible exact Below.refl _ _) | (with_reducible assumption) | (with_reducible refine Below.drewN ?_ _) | (with_reducible refine Below.alloc ?_ ?_ _) | (with_reducible refine Below.drew ?_) | (with_reducible refine Below.setCell ?_ ?_ _) | (with_reducible refine Below.step (by assumption) ?_ ?_) | (with_reducible exact And.left (by assumption)) | go_size))) ?_
          refine tree_one rfl ?_; go_wp2_with fail
          refine tailL_mk (by (repeat' (first | (with_reducible exact Below.refl _ _) | (with_reducible assumption) | (with_reducible refine Below.drewN ?_ _) | (with_reducible refine Below.alloc ?_ ?_ _) | (with_reducible refine Below.drew ?_) | (with_reducible refine Below.setCell ?_ ?_ _) | (with_reducible refine Below.step (by assumption) ?_ ?_) | (with_reducible exact And.left (by assumption)) | go_size))) ?_
          refine tree_one rfl ?_; go_wp2_with fail
          refine tailL_mk (by (repeat' (first | (with_reducible exact Below.refl _ _) | (with_reducible assumption) | (with_reducible refine Below.drewN ?_ _) | (with_reducible refine Below.alloc ?_ ?_ _) | (with_reducible refine Below.drew ?_) | (with_reducible refine Below.setCell ?_ ?_ _) | (with_reducible refine Below.step (by assumption) ?_ ?_) | (with_reducible exact And.left (by assumption)) | go_size))) ?_
          refine tree_one rfl ?_; go_wp2_with fail
          refine tailL_mk (by (repeat' (first | (with_reducible exact Below.refl _ _) | (with_reducible assumption) | (with_reducible refine Below.drewN ?_ _) | (with_reducible refine Below.alloc ?_ ?_ _) | (with_reducible refine Below.drew ?_) | (with_reducible refine Below.setCell ?_ ?_ _) | (with_reducible refine Below.step (by assumption) ?_ ?_) | (with_reducible exact And.left (by assumption)) | go_size))) ?_
          refine tree_done ?_
          go_wp2_with fail
          go_meet
          case rel => exact ⟨_, _, rfl, rfl, by go_simp, by go_simp, by go_simp, by go_simp, by simp; omega, by simp, Lib.hid (by (repeat' (first | (with_reducible exact Below.refl _ _) | (with_reducible assumption) | (with_reducible refine Below.drewN ?_ _) | (with_reducible refine Below.alloc ?_ ?_ _) | (with_reducible refine Below.drew ?_) | (with_reducible refine Below.setCell ?_ ?_ _) | (with_reducible refine Below.step (by assumption) ?_ ?_) | (with_reducible exact And.left (by assumption)) | go_size)))⟩
        · go_wp2_with fail
          refine tailL_mk (by (repeat' (first | (with_reducible exact Below.refl _ _) | (with_reducible assumption) | (with_reducible refine Below.drewN ?_ _) | (with_reducible refine Below.alloc ?_ ?_ _) | (with_reducible refine Below.drew ?_) | (with_reducible refine Below.setCell ?_ ?_ _) | (with_reducible refine Below.step (by assumption) ?_ ?_) | (with_reducible exact And.left (by assumption)) | go_size))) ?_
          refine tree_one rfl ?_; go_wp2_with fail
          refine tailL_mk (by (repeat' (first | (with_reducible exact Below.refl _ _) | (with_reducible assumption) | (with_reducible refine Below.drewN ?_ _) | (with_reducible refine Below.alloc ?_ ?_ _) | (with_reducible refine Below.drew ?_) | (with_reducible refine Below.setCell ?_ ?_ _) | (with_reducible refine Below.step (by assumption) ?_ ?_) | (with_reducible exact And.left (by assumption)) | go_size))) ?_
          refine tree_one rfl ?_; go_wp2_with fail
          refine tailL_mk (by (repeat' (first | (with_reducible exact Below.refl _ _) | (with_reducible assumption) | (with_reducible refine Below.drewN ?_ _) | (with_reducible refine Below.alloc ?_ ?_ _) | (with_reducible refine Below.drew ?_) | (with_reducible refine Below.setCell ?_ ?_ _) | (with_reducible refine Below.step (by assumption) ?_ ?_) | (with_reducible exact And.left (by assumption)) | go_size))) ?_
          refine tree_one rfl ?_; go_wp2_with fail
          refine tailL_mk (by (repeat' (first | (with_reducible exact Below.refl _ _) | (with_reducible assumption) | (with_reducible refine Below.drewN ?_ _) | (with_reducible refine Below.alloc ?_ ?_ _) | (with_reducible refine Below.drew ?_) | (with_reducible refine Below.setCell ?_ ?_ _) | (with_reducible refine Below.step (by assumption) ?_ ?_) | (with_reducible exact And.left (by assumption)) | go_size))) ?_
          refine tree_done ?_
          go_wp2_with fail
          go_meet
          case rel => exact ⟨_, _, rfl, rfl, by go_simp, by go_simp, by go_simp, by go_simp, by simp, by simp; omega, Lib.hid (by (repeat' (first | (with_reducible exact Below.refl _ _) | (with_reducible assumption) | (with_reducible refine Below.drewN ?_ _) | (with_reducible refine Below.alloc ?_ ?_ _) | (with_reducible refine Below.drew ?_) | (with_reducible refine Below.setCell ?_ ?_ _) | (with_reducible refine Below.step (by assumption) ?_ ?_) | (with_reducible exact And.left (by assumption)) | go_size)))⟩
      case rest =>
        obtain ⟨wd, rfl⟩ : ∃ w', w' = wc := ⟨wc, rfl⟩
        obtain ⟨X5, X6, rfl, rfl, x0, x1, y0, y1, l7, l8, hN⟩ := hcut
        have HBD := Lib.hid (HBh.out.trans (hN.out.mono hzh))
        have HBE := Lib.hid (HBH.out.trans (hN.out.mono (by have := HBH.out.size; omega)))
        clear hN cx cy cz ct q0h q1h lh q0 q1
        cases h1 : wi x 1 100
        · have HV := Lib.hid (show F = 2 by rw [HSC.out, h1]; simp [firstErr, unl])
          go_wp2_with (go_at_call 9; refine (bwithin_any _ _ _ _).mono ?_; rintro e5 w5' ⟨rfl, rfl⟩)
          go_ret
          exact ⟨ret_int (by rw [HV.out]), HBE.out⟩
        · cases h2 : wi y 1 100
          · have HV := Lib.hid (show F = 2 by rw [HSC.out, h1, h2]; simp [firstErr, unl])
            go_wp2_with (go_at_call 9; refine (bwithin_any _ _ _ _).mono ?_; rintro e5 w5' ⟨rfl, rfl⟩)
            go_ret
            exact ⟨ret_int (by rw [HV.out]), HBE.out⟩
          · cases h3 : wi z 0 100
            · have HV := Lib.hid (show F = 2 by rw [HSC.out, h1, h2, h3]; simp [firstErr, unl])
              go_wp2_with (go_at_call 9; refine (bwithin_any _ _ _ _).mono ?_; rintro e5 w5' ⟨rfl, rfl⟩)
              go_ret
              exact ⟨ret_int (by rw [HV.out]), HBE.out⟩
            · cases h4 : wi t 0 100
              · have HV := Lib.hid (show F = 2 by rw [HSC.out, h1, h2, h3, h4]; simp [firstErr, unl])
                go_wp2_with (go_at_call 9; refine (bwithin_any _ _ _ _).mono ?_; rintro e5 w5' ⟨rfl, rfl⟩)
                go_ret
                exact ⟨ret_int (by rw [HV.out]), HBE.out⟩
              · by_cases h5 : x ≤ y
                · by_cases h6' : z ≤ t
                  · have HV := Lib.hid (show rgScan s e (n1 - (k + 1)) (k + 1) = F by rw [HSC.out, h1, h2, h3, h4]; simp [firstErr, unl, h5, h6'])
                    have i5 : decide (x > y) = false := by simp; omega
                    have i6 : decide (z > t) = false := by simp; omega
                    clear h5 h6'
                    go_wp2_with (go_at_call 9; refine (bwithin_any _ _ _ _).mono ?_; rintro e5 w5' ⟨rfl, rfl⟩)
                    go_roundw
                    case rel => exact ⟨k + 1, by go_num, by omega, HV, HBD⟩
                    case measure => simp [intOf]; omega
                  · have HV := Lib.hid (show F = 9 by rw [HSC.out, h1, h2, h3, h4]; simp [firstErr, unl, h5, h6'])
                    have i5 : decide (x > y) = false := by simp; omega
                    have i6 : decide (z > t) = true := by simp; omega
                    clear h5 h6'
                    go_wp2_with (go_at_call 9; refine (bwithin_any _ _ _ _).mono ?_; rintro e5 w5' ⟨rfl, rfl⟩)
                    go_ret
                    exact ⟨ret_int (by rw [HV.out]), HBE.out⟩
                · have HV := Lib.hid (show F = 9 by rw [HSC.out, h1, h2, h3, h4]; simp [firstErr, unl, h5])
                  have i5 : decide (x > y) = true := by simp; omega
                  clear h5
                  go_wp2_with (go_at_call 9; refine (bwithin_any _ _ _ _).mono ?_; rintro e5 w5' ⟨rfl, rfl⟩)
                  go_ret
                  exact ⟨ret_int (by rw [HV.out]), HBE.out⟩
    · obtain rfl : k = n1 := by omega
      have HV := Lib.hid (show F = 0 by rw [← hF.out, Nat.sub_self]; rfl)
      go_wp2
      go_ret
      exact ⟨ret_int (by rw [HV.out]), HBH.out⟩
set_option maxRecDepth 100000 in
theorem rrangesErr_bad (a a1 : Option Addr) (n c n1 c1 : Nat) (g : Bool) (w : World) (E : Int) (hn : n ≤ 9223372036854775807) (hn1 : n1 ≤ 9223372036854775807)
    (h : (¬ (0 < n ∧ n1 = n) ∧ E = 10) ∨ ((0 < n ∧ n1 = n) ∧ 6 < n ∧ E = 8)) :
    Calls Try.prog 32 #[.agg #[.slice a n c, .slice a1 n1 c1, .bool g]] w fun e' w' => e' = .returned (.int .i64 E) ∧ Below w.heap.size w w' := by
  have hcase : (((n : Int) == 0) = true ∧ E = 10) ∨ (((n : Int) == 0) = false ∧ ((n1 : Int) != (n : Int)) = true ∧ E = 10) ∨ (((n : Int) == 0) = false ∧ ((n1 : Int) != (n : Int)) = false ∧ decide ((n : Int) > 6) = true ∧ E = 8) := by
    rcases h with ⟨h, rfl⟩ | ⟨⟨h1, h2⟩, h4, rfl⟩
    · by_cases h0 : n = 0
      · exact .inl ⟨by simp; omega, rfl⟩
      · exact .inr (.inl ⟨by simp; omega, by simp; omega, rfl⟩)
    · exact .inr (.inr ⟨by simp; omega, by simp; omega, by simp; omega, rfl⟩)
  clear h
  rcases hcase with ⟨i1, rfl⟩ | ⟨i1, i2, rfl⟩ | ⟨i1, i2, i4, rfl⟩
  all_goals
    go_enter Try.func32, Try.ntmps32
    go_wp2
    go_ret
    exact ⟨rfl, by (repeat' (first | (with_reducible exact Below.refl _ _) | (with_reducible assumption) | (with_reducible refine Below.drewN ?_ _) | (with_reducible refine Below.alloc ?_ ?_ _) | (with_reducible refine Below.drew ?_) | (with_reducible refine Below.setCell ?_ ?_ _) | (with_reducible refine Below.step (by assumption) ?_ ?_) | (with_reducible exact And.left (by assumption)) | go_size))⟩
theorem rrangesErr_any (s e : List (Int × Int)) (a a1 : Option Addr) (n c n1 c1 : Nat) (g : Bool) (w : World) (hs : PairsR w a n s) (he : PairsR w a1 n1 e) :
    Calls Try.prog 32 #[.agg #[.slice a n c, .slice a1 n1 c1, .bool g]] w fun e' w' => e' = .returned (.int .i64 (rngErr s e)) ∧ Below w.heap.size w w' := by
  have l1 := hs.len
  have l2 := he.len
  by_cases h : 0 < n ∧ n1 = n
  · by_cases h6 : n ≤ 6
    · have := rrangesErr_ok s e a a1 n c n1 c1 g w hs he h.1 h.2 h6
      unfold rngErr
      rw [if_pos (by omega), if_pos (by omega), l1]
      exact this
    · have := rrangesErr_bad a a1 n c n1 c1 g w 8 hs.small he.small (.inr ⟨h, by omega, rfl⟩)
      unfold rngErr
      rw [if_pos (by omega), if_neg (by omega)]
      exact this
  · have := rrangesErr_bad a a1 n c n1 c1 g w 10 hs.small he.small (.inl ⟨h, rfl⟩)
    unfold rngErr
    rw [if_neg (by omega)]
    exact this
end Go.Proofs.Ytbjgklifmillgaa
