/- Chopped impulses of the reference. -/
import Derived.Test.YtiellefbndlkkaaChop
import Derived.Test.YtiellefbndlkkaaRVal2
namespace Go.Proofs.Ytiellefbndlkkaa
open Go.RowKit
set_option linter.unusedVariables false

theorem rv_bd {l : List (Int × Int)} {t num den : Int} (h : (impErr l).2 = 0) (t0 : 0 ≤ t) (t1 : t ≤ 1000000) (hr : RV l t num den) : -4000000000000 ≤ num ∧ num ≤ 4000000000000 ∧ 0 < den ∧ den ≤ 1000000 := by
  have hz := impErr_zero h
  rcases hr with ⟨_, rfl, rfl⟩ | ⟨_, _, rfl, rfl⟩ | ⟨i, a, b, c, rfl, rfl⟩
  · omega
  · have := imp_bd h (l.length - 1) (by omega); omega
  · have h1 := imp_bd h i (by omega)
    have h2 := imp_bd h (i + 1) a
    have h3 := imp_lt h i a
    have b1 := mulb (a := (gp l i).2) (b := (gp l (i + 1)).1 - (gp l i).1) 1000000 1000000 1000000000000 (by omega) (by omega) (by omega) (by omega) (by omega)
    have b2 := mulb (a := (gp l (i + 1)).2 - (gp l i).2) (b := t - (gp l i).1) 2000000 1000000 2000000000000 (by omega) (by omega) (by omega) (by omega) (by omega)
    omega
set_option maxHeartbeats 2000000 in
set_option maxRecDepth 100000 in
theorem rchopped_main (l : List (Int × Int)) (t f : Int) (a : Option Addr) (n c : Nat) (w : World) (hl : PairsR w a n l) (h0 : (impErr l).2 = 0) :
    Calls Try.prog 76 #[.agg #[.slice a n c], .int .i64 t, .int .i64 f] w (CPost l t f w) := by
  have hz := impErr_zero h0
  have hlen := hl.len
  have hn := hl.small
  rw [hlen] at hz
  obtain ⟨q, rfl⟩ : ∃ q, n = q + 1 := ⟨n - 1, by omega⟩
  have hq : 1 ≤ q ∧ q ≤ 11 := by omega
  obtain ⟨x0, hx0⟩ : ∃ x, x = (gp l 0).1 := ⟨_, rfl⟩
  obtain ⟨xl, hxl⟩ : ∃ x, x = (gp l q).1 := ⟨_, rfl⟩
  obtain ⟨b0, o0, rfl, hb0, hc0⟩ := hl.addr (by omega)
  have c0 : w.cell? ⟨b0, o0, none⟩ = some (.int .i64 x0) := by have := (hc0 0 (by omega)).1; rw [hx0]; simpa using this
  have cl : w.cell? ⟨b0, o0 + q * 2, none⟩ = some (.int .i64 xl) := by rw [hxl]; exact (hc0 q (by omega)).1
  have HCC := Lib.hid hc0
  have bx0 := imp_bd h0 0 (by omega)
  have bxl := imp_bd h0 q (by omega)
  rw [← hx0] at bx0
  rw [← hxl] at bxl
  obtain ⟨g1, hg1⟩ : ∃ b, b = wi t (x0 + 1) xl := ⟨_, rfl⟩
  obtain ⟨g2, hg2⟩ : ∃ b, b = wi f 1 100000 := ⟨_, rfl⟩
  have HOK := Lib.hid (show chOk l t f = (g1 && g2) by unfold chOk; rw [hlen, hg1, hg2, hx0, hxl]; rfl)
  have HW := Lib.hid (fun w' => bwithin_any t (x0 + 1) xl w')
  rw [← hg1] at HW
  have HT := Lib.hid (fun w' => bwithin_any f 1 100000 w')
  rw [← hg2] at HT
  have HH := Lib.hid h0
  have HL := Lib.hid hl
  have HG := Lib.hid (And.intro hg1 hg2)
  have i1 : (0 : Int) < (q : Int) + 1 := by omega
  have i3 : (0 : Int) ≤ (q : Int) := by omega
  have i4 : (q : Int) < (q : Int) + 1 := by omega
  clear hz hl hc0 hlen h0 hx0 hxl hg1 hg2
  cases g1
  ·
    go_enter Try.func76, Try.ntmps76
    go_wp2_with fail
    generalize hW : (w.alloc _).alloc _ = w6
    have hb6 : Below w.heap.size w w6 := by rw [← hW]; (repeat' (first | (with_reducible exact Below.refl _ _) | (with_reducible assumption) | (with_reducible refine Below.drewN ?_ _) | (with_reducible refine Below.alloc ?_ ?_ _) | (with_reducible refine Below.drew ?_) | (with_reducible refine Below.setCell ?_ ?_ _) | (with_reducible refine Below.step (by assumption) ?_ ?_) | (with_reducible exact And.left (by assumption)) | go_size))
    have q0' : w6.cell? ⟨w.heap.size, 0, none⟩ = some (.slice (some ⟨b0, o0, none⟩) (q + 1) c) := by { rw [← hW]; clear hW; go_simp }
    have p0' : w6.cell? ⟨w.heap.size + 1, 0, none⟩ = some (.slice none 0 0) := by { rw [← hW]; clear hW; go_simp }
    have f0' : w6.frozen? ⟨w.heap.size + 1, 0, none⟩ = false := by { rw [← hW]; clear hW; go_simp }
    have l0' : w.heap.size < w6.heap.size := by { rw [← hW]; simp; omega }
    have l1' : w.heap.size + 1 < w6.heap.size := by { rw [← hW]; simp }
    have c06 : w6.cell? ⟨b0, o0, none⟩ = some (.int .i64 x0) := by rw [cellB hb6 _ _ hb0]; exact c0
    have cl6 : w6.cell? ⟨b0, o0 + q * 2, none⟩ = some (.int .i64 xl) := by rw [cellB hb6 _ _ hb0]; exact cl
    have lb6 : b0 < w6.heap.size := by omega
    have HB6 := Lib.hid hb6
    clear hW hb6 c0 cl
    refine later_all (by kernel_rfl) (by kernel_rfl) ?_; repeat go_big_quiet_step(first | (go_at_call_of 16 xl; exact calls_later_same (HW.out _)) | (go_at_call_of 16 f; exact calls_later_same (HT.out _)))
    refine wpQuiet_nil ?_; intro w7 hb7
    have hz7 := hb7.size
    have q0 : w7.cell? ⟨w.heap.size, 0, none⟩ = some (.slice (some ⟨b0, o0, none⟩) (q + 1) c) := by { rw [cellB hb7 _ _ (by first | (simp; done) | (simp; omega) | omega)]; all_goals (first | assumption | go_simp) }; have p0 : w7.cell? ⟨w.heap.size + 1, 0, none⟩ = some (.slice none 0 0) := by { rw [cellB hb7 _ _ (by first | (simp; done) | (simp; omega) | omega)]; all_goals (first | assumption | go_simp) }; have f0 : w7.frozen? ⟨w.heap.size + 1, 0, none⟩ = false := by { rw [frozenB hb7 _ _ (by first | (simp; done) | (simp; omega) | omega)]; all_goals (first | assumption | go_simp) }
    have l0 : w.heap.size < w7.heap.size := by omega
    have l1 : w.heap.size + 1 < w7.heap.size := by omega
    have HB7 := Lib.hid (HB6.out.trans (hb7.mono HB6.out.size))
    clear hb7 q0' p0' f0' c06 cl6 l0' l1' lb6 HB6
    have HE := Lib.hid (show chE l t f = 2 by unfold chE; rw [if_pos HH.out, if_neg (by rw [HOK.out]; simp)])
    go_wp2
    refine bodyPost_ret (v := .tuple #[.agg #[.slice none 0 0], .int .i64 2]) (by simp [results, Try.results76, go_sem, p0]) rfl (cpost_err HE.out (by omega) ?_)
    have := HB7.out
    (repeat' (first | (with_reducible exact Below.refl _ _) | (with_reducible assumption) | (with_reducible refine Below.drewN ?_ _) | (with_reducible refine Below.alloc ?_ ?_ _) | (with_reducible refine Below.drew ?_) | (with_reducible refine Below.setCell ?_ ?_ _) | (with_reducible refine Below.step (by assumption) ?_ ?_) | (with_reducible exact And.left (by assumption)) | go_size))
  · cases g2
    ·
      go_enter Try.func76, Try.ntmps76
      go_wp2_with fail
      generalize hW : (w.alloc _).alloc _ = w6
      have hb6 : Below w.heap.size w w6 := by rw [← hW]; (repeat' (first | (with_reducible exact Below.refl _ _) | (with_reducible assumption) | (with_reducible refine Below.drewN ?_ _) | (with_reducible refine Below.alloc ?_ ?_ _) | (with_reducible refine Below.drew ?_) | (with_reducible refine Below.setCell ?_ ?_ _) | (with_reducible refine Below.step (by assumption) ?_ ?_) | (with_reducible exact And.left (by assumption)) | go_size))
      have q0' : w6.cell? ⟨w.heap.size, 0, none⟩ = some (.slice (some ⟨b0, o0, none⟩) (q + 1) c) := by { rw [← hW]; clear hW; go_simp }
      have p0' : w6.cell? ⟨w.heap.size + 1, 0, none⟩ = some (.slice none 0 0) := by { rw [← hW]; clear hW; go_simp }
      have f0' : w6.frozen? ⟨w.heap.size + 1, 0, none⟩ = false := by { rw [← hW]; clear hW; go_simp }
      have l0' : w.heap.size < w6.heap.size := by { rw [← hW]; simp; omega }
      have l1' : w.heap.size + 1 < w6.heap.size := by { rw [← hW]; simp }
      have c06 : w6.cell? ⟨b0, o0, none⟩ = some (.int .i64 x0) := by rw [cellB hb6 _ _ hb0]; exact c0
      have cl6 : w6.cell? ⟨b0, o0 + q * 2, none⟩ = some (.int .i64 xl) := by rw [cellB hb6 _ _ hb0]; exact cl
      have lb6 : b0 < w6.heap.size := by omega
      have HB6 := Lib.hid hb6
      clear hW hb6 c0 cl
      refine later_all (by kernel_rfl) (by kernel_rfl) ?_; repeat go_big_quiet_step(first | (go_at_call_of 16 xl; exact calls_later_same (HW.out _)) | (go_at_call_of 16 f; exact calls_later_same (HT.out _)))
      refine wpQuiet_nil ?_; intro w7 hb7
      have hz7 := hb7.size
      have q0 : w7.cell? ⟨w.heap.size, 0, none⟩ = some (.slice (some ⟨b0, o0, none⟩) (q + 1) c) := by { rw [cellB hb7 _ _ (by first | (simp; done) | (simp; omega) | omega)]; all_goals (first | assumption | go_simp) }; have p0 : w7.cell? ⟨w.heap.size + 1, 0, none⟩ = some (.slice none 0 0) := by { rw [cellB hb7 _ _ (by first | (simp; done) | (simp; omega) | omega)]; all_goals (first | assumption | go_simp) }; have f0 : w7.frozen? ⟨w.heap.size + 1, 0, none⟩ = false := by { rw [frozenB hb7 _ _ (by first | (simp; done) | (simp; omega) | omega)]; all_goals (first | assumption | go_simp) }
      have l0 : w.heap.size < w7.heap.size := by omega
      have l1 : w.heap.size + 1 < w7.heap.size := by omega
      have HB7 := Lib.hid (HB6.out.trans (hb7.mono HB6.out.size))
      clear hb7 q0' p0' f0' c06 cl6 l0' l1' lb6 HB6
      have HE := Lib.hid (show chE l t f = 2 by unfold chE; rw [if_pos HH.out, if_neg (by rw [HOK.out]; simp)])
      go_wp2
      refine bodyPost_ret (v := .tuple #[.agg #[.slice none 0 0], .int .i64 2]) (by simp [results, Try.results76, go_sem, p0]) rfl (cpost_err HE.out (by omega) ?_)
      have := HB7.out
      (repeat' (first | (with_reducible exact Below.refl _ _) | (with_reducible assumption) | (with_reducible refine Below.drewN ?_ _) | (with_reducible refine Below.alloc ?_ ?_ _) | (with_reducible refine Below.drew ?_) | (with_reducible refine Below.setCell ?_ ?_ _) | (with_reducible refine Below.step (by assumption) ?_ ?_) | (with_reducible exact And.left (by assumption)) | go_size))
    ·
      go_enter Try.func76, Try.ntmps76
      go_wp2_with fail
      generalize hW : (w.alloc _).alloc _ = w6
      have hb6 : Below w.heap.size w w6 := by rw [← hW]; (repeat' (first | (with_reducible exact Below.refl _ _) | (with_reducible assumption) | (with_reducible refine Below.drewN ?_ _) | (with_reducible refine Below.alloc ?_ ?_ _) | (with_reducible refine Below.drew ?_) | (with_reducible refine Below.setCell ?_ ?_ _) | (with_reducible refine Below.step (by assumption) ?_ ?_) | (with_reducible exact And.left (by assumption)) | go_size))
      have q0' : w6.cell? ⟨w.heap.size, 0, none⟩ = some (.slice (some ⟨b0, o0, none⟩) (q + 1) c) := by { rw [← hW]; clear hW; go_simp }
      have p0' : w6.cell? ⟨w.heap.size + 1, 0, none⟩ = some (.slice none 0 0) := by { rw [← hW]; clear hW; go_simp }
      have f0' : w6.frozen? ⟨w.heap.size + 1, 0, none⟩ = false := by { rw [← hW]; clear hW; go_simp }
      have l0' : w.heap.size < w6.heap.size := by { rw [← hW]; simp; omega }
      have l1' : w.heap.size + 1 < w6.heap.size := by { rw [← hW]; simp }
      have c06 : w6.cell? ⟨b0, o0, none⟩ = some (.int .i64 x0) := by rw [cellB hb6 _ _ hb0]; exact c0
      have cl6 : w6.cell? ⟨b0, o0 + q * 2, none⟩ = some (.int .i64 xl) := by rw [cellB hb6 _ _ hb0]; exact cl
      have lb6 : b0 < w6.heap.size := by omega
      have HB6 := Lib.hid hb6
      clear hW hb6 c0 cl
      refine later_all (by kernel_rfl) (by kernel_rfl) ?_; repeat go_big_quiet_step(first | (go_at_call_of 16 xl; exact calls_later_same (HW.out _)) | (go_at_call_of 16 f; exact calls_later_same (HT.out _)))
      refine wpQuiet_nil ?_; intro w7 hb7
      have hz7 := hb7.size
      have q0 : w7.cell? ⟨w.heap.size, 0, none⟩ = some (.slice (some ⟨b0, o0, none⟩) (q + 1) c) := by { rw [cellB hb7 _ _ (by first | (simp; done) | (simp; omega) | omega)]; all_goals (first | assumption | go_simp) }; have p0 : w7.cell? ⟨w.heap.size + 1, 0, none⟩ = some (.slice none 0 0) := by { rw [cellB hb7 _ _ (by first | (simp; done) | (simp; omega) | omega)]; all_goals (first | assumption | go_simp) }; have f0 : w7.frozen? ⟨w.heap.size + 1, 0, none⟩ = false := by { rw [frozenB hb7 _ _ (by first | (simp; done) | (simp; omega) | omega)]; all_goals (first | assumption | go_simp) }
      have l0 : w.heap.size < w7.heap.size := by omega
      have l1 : w.heap.size + 1 < w7.heap.size := by omega
      have HB7 := Lib.hid (HB6.out.trans (hb7.mono HB6.out.size))
      clear hb7 q0' p0' f0' c06 cl6 l0' l1' lb6 HB6
      go_wp2_with fail
      have btx := wi_iff.1 HG.out.1.symm
      have btf := wi_iff.1 HG.out.2.symm
      have bt0 : 0 ≤ t ∧ t ≤ 1000000 := by omega
      generalize hW : w7.alloc (Obj.cells #[.slice none 0 0] 87) = w8
      have hb8 : Below w7.heap.size w7 w8 := by rw [← hW]; (repeat' (first | (with_reducible exact Below.refl _ _) | (with_reducible assumption) | (with_reducible refine Below.drewN ?_ _) | (with_reducible refine Below.alloc ?_ ?_ _) | (with_reducible refine Below.drew ?_) | (with_reducible refine Below.setCell ?_ ?_ _) | (with_reducible refine Below.step (by assumption) ?_ ?_) | (with_reducible exact And.left (by assumption)) | go_size))
      have co : w8.cell? ⟨w7.heap.size, 0, none⟩ = some (.slice none 0 0) := by { rw [← hW]; clear hW; go_simp }
      have fo : w8.frozen? ⟨w7.heap.size, 0, none⟩ = false := by { rw [← hW]; clear hW; go_simp }
      have lo : w7.heap.size < w8.heap.size := by { rw [← hW]; simp }
      have HB8 := Lib.hid (HB7.out.trans (hb8.mono HB7.out.size))
      have q0' : w8.cell? ⟨w.heap.size, 0, none⟩ = some (.slice (some ⟨b0, o0, none⟩) (q + 1) c) := by { rw [cellB hb8 _ _ (by first | (simp; done) | (simp; omega) | omega)]; all_goals (first | assumption | go_simp) }; have p0' : w8.cell? ⟨w.heap.size + 1, 0, none⟩ = some (.slice none 0 0) := by { rw [cellB hb8 _ _ (by first | (simp; done) | (simp; omega) | omega)]; all_goals (first | assumption | go_simp) }; have f0' : w8.frozen? ⟨w.heap.size + 1, 0, none⟩ = false := by { rw [frozenB hb8 _ _ (by first | (simp; done) | (simp; omega) | omega)]; all_goals (first | assumption | go_simp) }
      clear hW hb8 q0 p0 f0 HB7
      generalize w7.heap.size = BO at *
      have j0 : w.heap.size < BO + 1 := by omega
      have j1 : w.heap.size + 1 < BO + 1 := by omega
      have jb : b0 < BO + 1 := by omega
      have jo : BO < BO + 1 := by omega
      go_loopw [9] (fun i wr => ∃ k : Nat, i = .int .i64 k ∧ k ≤ q + 1 ∧ (∃ av cv m, Hid (m = (chF (l.take k) t).length) ∧ wr.cell? ⟨BO, 0, none⟩ = some (.slice av m cv) ∧ Hid (wr.ownsRow (BO + 1) 126 2 (.slice av m cv) m (pcells (chF (l.take k) t)))) ∧ wr.frozen? ⟨BO, 0, none⟩ = false ∧ BO < wr.heap.size ∧ Hid (Below BO w8 wr)) (fun i _ => q + 1 - (intOf i).toNat)
      case atStart => exact ⟨0, rfl, Nat.zero_le _, ⟨none, 0, 0, Lib.hid rfl, co, Lib.hid (World.ownsRow_nil _ _ _ _)⟩, fo, lo, Lib.hid (Below.refl _ _)⟩
      case round =>
        clear co fo lo
        obtain ⟨k, rfl, hk, ⟨av, cv, m, hm, co, hO⟩, fo, lo, hB⟩ := hrel
        have hbr := hB.out
        have q0 : wr.cell? ⟨w.heap.size, 0, none⟩ = some (.slice (some ⟨b0, o0, none⟩) (q + 1) c) := by { rw [cellB hbr _ _ (by first | (simp; done) | (simp; omega) | omega)]; all_goals (first | assumption | go_simp) }; have p0 : wr.cell? ⟨w.heap.size + 1, 0, none⟩ = some (.slice none 0 0) := by { rw [cellB hbr _ _ (by first | (simp; done) | (simp; omega) | omega)]; all_goals (first | assumption | go_simp) }; have f0 : wr.frozen? ⟨w.heap.size + 1, 0, none⟩ = false := by { rw [frozenB hbr _ _ (by first | (simp; done) | (simp; omega) | omega)]; all_goals (first | assumption | go_simp) }
        have HBW := Lib.hid (HB8.out.trans (hbr.mono (by omega)))
        have hm12 : m ≤ q + 1 := by
          rw [hm.out]
          have h1 := List.length_filter_le (fun p : Int × Int => decide (p.1 < t)) (l.take k)
          rw [List.length_take] at h1
          unfold chF
          omega
        clear hbr
        rcases Nat.lt_or_ge k (q + 1) with hlt | hge
        · obtain ⟨x, hx⟩ : ∃ x, x = (gp l k).1 := ⟨_, rfl⟩
          obtain ⟨y, hy⟩ : ∃ x, x = (gp l k).2 := ⟨_, rfl⟩
          have cx : wr.cell? ⟨b0, o0 + k * 2, none⟩ = some (.int .i64 x) := by rw [cellB HBW.out _ _ hb0, hx]; exact (HCC.out k hlt).1
          have cy : wr.cell? ⟨b0, o0 + k * 2 + 1, none⟩ = some (.int .i64 y) := by rw [cellB HBW.out _ _ hb0, hy]; exact (HCC.out k hlt).2
          have i0 : (0 : Int) ≤ (k : Int) := by omega
          have i5 : (k : Int) < (q : Int) + 1 := by omega
          have HTK := Lib.hid (show chF (l.take (k + 1)) t = chF (l.take k) t ++ (if x < t then [(x, y)] else []) by
            rw [chF_step l t k (by rw [HL.out.len]; omega), hx, hy])
          clear hx hy
          by_cases hxt : x < t
          · rw [if_pos hxt] at HTK
            go_wp2_with fail
            refine wp_region_laterZ (B := BO + 1) [0, 1, 2, 3, 4, 5, 6] [7, 8, 9, 10] 10 (by kernel_rfl) (by kernel_rfl) ?_; simp only [List.filterMap_cons, List.filterMap_nil, List.getElem?_cons_zero, List.getElem?_cons_succ]; repeat (show wpQuiet _ _ _ _ (_ :: _) _; go_big_quiet_step (fail))
            refine wpQuiet_nil ?_
            refine tailZ_cons ?_
            go_wp2_with fail
            have HNb := Lib.hid (show Below (BO + 1) wr (wr.alloc (Obj.cells #[.int .i64 x, .int .i64 y] 126)).drew by (repeat' (first | (with_reducible exact Below.refl _ _) | (with_reducible assumption) | (with_reducible refine Below.drewN ?_ _) | (with_reducible refine Below.alloc ?_ ?_ _) | (with_reducible refine Below.drew ?_) | (with_reducible refine Below.setCell ?_ ?_ _) | (with_reducible refine Below.step (by assumption) ?_ ?_) | (with_reducible exact And.left (by assumption)) | go_size)))
            refine tailL_mk HNb.out ?_
            refine tailZ_cons ?_
            go_wp2_with (at_builtin; refine wpList_append_sl _ rfl _ _ 85 rfl (BO + 1) 126 _ 2 16 Try.underlying85 infoPoint rfl (by omega) (.slice av m cv) (m) _ rfl ((hO.out.alloc _).drew) _ 1 1 [.int .i64 (x), .int .i64 (y)] rfl (SlR.lit _ _ _ _ _ 1 2 (by rfl) (by simp) rfl (by omega)) (by simp [Value.oneCell']) (by omega) (by omega) (by simp; omega) ?_)
            intro v2 wz hownz _ hbz
            obtain ⟨av2, cv2, rfl, _, _⟩ := owns_slice hownz
            have hbz' : Below (BO + 1) wr wz := HNb.out.trans hbz
            have hzz := hbz'.size
            have coz : wz.cell? ⟨BO, 0, none⟩ = some (.slice av m cv) := by { rw [cellB hbz' _ _ (by first | (simp; done) | (simp; omega) | omega)]; all_goals (first | assumption | go_simp) }; have foz : wz.frozen? ⟨BO, 0, none⟩ = false := by { rw [frozenB hbz' _ _ (by first | (simp; done) | (simp; omega) | omega)]; all_goals (first | assumption | go_simp) }
            have loz : BO < wz.heap.size := by omega
            have HOZ := Lib.hid (show wz.ownsRow (BO + 1) 126 2 (.slice av2 (m + 1) cv2) (m + 1) (pcells (chF (l.take (k + 1)) t)) by rw [HTK.out, pcells_append]; exact hownz)
            have HBZ := Lib.hid hbz'
            clear hownz hbz hbz' co fo lo
            go_wp2_with fail
            refine tailL_mk HBZ.out ?_
            refine tailZ_cons ?_
            go_wp2_with fail
            refine tailL_mk HBZ.out ?_
            refine tailZ_last ?_
            go_wp2_with fail
            refine tailZ_end ?_
            go_wp2
            go_roundw
            case rel =>
              refine ⟨k + 1, by go_num, by omega, ⟨av2, cv2, m + 1, Lib.hid (by rw [HTK.out, List.length_append, hm.out]; rfl), by go_simp, Lib.hid (ownsRow_setCell_below HOZ.out (a := ⟨BO, 0, none⟩) (by simp) _)⟩, by go_simp, by simp; omega, ?_⟩
              exact Lib.hid (Below.setCell (hB.out.trans (HBZ.out.mono (Nat.le_succ BO))) (by simp) _)
            case measure => simp [intOf]; omega
          · rw [if_neg hxt, List.append_nil] at HTK
            go_wp2
            go_roundw
            case rel => exact ⟨k + 1, by go_num, by omega, ⟨av, cv, m, Lib.hid (by rw [HTK.out]; exact hm.out), co, Lib.hid (by rw [HTK.out]; exact hO.out)⟩, fo, lo, hB⟩
            case measure => simp [intOf]; omega
        · obtain rfl : k = q + 1 := by omega
          have HTK := Lib.hid (show chF (l.take (q + 1)) t = chF l t by rw [List.take_of_length_le (by rw [HL.out.len]; omega)])
          have HBw := Lib.hid (HB8.out.trans (hB.out.mono (by omega)))
          have hzr : BO + 1 ≤ wr.heap.size := by omega
          go_wp2_with fail
          refine (rvalue_any l t (some ⟨b0, o0, none⟩) (q + 1) c wr (HL.out.below HBw.out) HH.out bt0.1 bt0.2).mono ?_
          rintro e9 wa ⟨num, den, rfl, hba, hrv⟩
          have hbd := rv_bd HH.out bt0.1 bt0.2 hrv
          have hfl := rv_floor HH.out hrv
          have HNa := Lib.hid (hba.mono hzr)
          have hza := hba.size
          have HOa := Lib.hid (owns_below hO.out hba (fun z hz => (hO.out.lt z hz).2))
          have ca : wa.cell? ⟨BO, 0, none⟩ = some (.slice av m cv) := by { rw [cellB hba _ _ (by first | (simp; done) | (simp; omega) | omega)]; all_goals (first | assumption | go_simp) }; have fa : wa.frozen? ⟨BO, 0, none⟩ = false := by { rw [frozenB hba _ _ (by first | (simp; done) | (simp; omega) | omega)]; all_goals (first | assumption | go_simp) }; have q9 : wa.cell? ⟨w.heap.size, 0, none⟩ = some (.slice (some ⟨b0, o0, none⟩) (q + 1) c) := by { rw [cellB hba _ _ (by first | (simp; done) | (simp; omega) | omega)]; all_goals (first | assumption | go_simp) }; have p9 : wa.cell? ⟨w.heap.size + 1, 0, none⟩ = some (.slice none 0 0) := by { rw [cellB hba _ _ (by first | (simp; done) | (simp; omega) | omega)]; all_goals (first | assumption | go_simp) }; have f9 : wa.frozen? ⟨w.heap.size + 1, 0, none⟩ = false := by { rw [frozenB hba _ _ (by first | (simp; done) | (simp; omega) | omega)]; all_goals (first | assumption | go_simp) }
          have la : BO < wa.heap.size := by omega
          have HBa := Lib.hid (HBw.out.trans (hba.mono (by have := HBw.out.size; omega)))
          have HFL := Lib.hid hfl
          clear hba hrv hfl q0 p0 f0 co fo
          go_wp2_with fail
          refine wp_region_laterZ (B := BO + 1) [0, 1, 2, 3, 4] [5, 6, 7, 8, 9, 10] 10 (by kernel_rfl) (by kernel_rfl) ?_; simp only [List.filterMap_cons, List.filterMap_nil, List.getElem?_cons_zero, List.getElem?_cons_succ]; repeat (show wpQuiet _ _ _ _ (_ :: _) _; go_big_quiet_step (fail))
          refine wpQuiet_nil ?_
          refine tailZ_cons ?_
          go_wp2_with fail
          refine (floor_pos num den _ (by omega) (by omega) (by omega) (by omega)).mono ?_
          rintro e10 wb ⟨rfl, rfl⟩
          have HNd := Lib.hid (show Below (BO + 1) wa wa.drew by (repeat' (first | (with_reducible exact Below.refl _ _) | (with_reducible assumption) | (with_reducible refine Below.drewN ?_ _) | (with_reducible refine Below.alloc ?_ ?_ _) | (with_reducible refine Below.drew ?_) | (with_reducible refine Below.setCell ?_ ?_ _) | (with_reducible refine Below.step (by assumption) ?_ ?_) | (with_reducible exact And.left (by assumption)) | go_size)))
          go_wp2_with fail
          refine tailL_mk HNd.out ?_
          refine tailZ_cons ?_
          go_wp2_with fail
          refine tailL_mk HNd.out ?_
          refine tailZ_cons ?_
          go_wp2_with fail
          have HNb := Lib.hid (show Below (BO + 1) wa (wa.alloc (Obj.cells #[.int .i64 t, .int .i64 (num / den)] 126)).drew by (repeat' (first | (with_reducible exact Below.refl _ _) | (with_reducible assumption) | (with_reducible refine Below.drewN ?_ _) | (with_reducible refine Below.alloc ?_ ?_ _) | (with_reducible refine Below.drew ?_) | (with_reducible refine Below.setCell ?_ ?_ _) | (with_reducible refine Below.step (by assumption) ?_ ?_) | (with_reducible exact And.left (by assumption)) | go_size)))
          refine tailL_mk HNb.out ?_
          refine tailZ_cons ?_
          go_wp2_with (at_builtin; refine wpList_append_sl _ rfl _ _ 85 rfl (BO + 1) 126 _ 2 16 Try.underlying85 infoPoint rfl (by omega) (.slice av (m) cv) (m) _ rfl ((HOa.out.alloc _).drew) _ 1 1 [.int .i64 (t), .int .i64 (num / den)] rfl (SlR.lit _ _ _ _ _ 1 2 (by rfl) (by simp) rfl (by omega)) (by simp [Value.oneCell']) (by omega) (by omega) (by simp; omega) ?_)
          intro v9 wz hownz _ hbz
          obtain ⟨av2, cv2, rfl, _, _⟩ := owns_slice hownz
          have hbz' : Below (BO + 1) wa wz := HNb.out.trans hbz
          have hzz := hbz'.size
          have coz : wz.cell? ⟨BO, 0, none⟩ = some (.slice av m cv) := by { rw [cellB hbz' _ _ (by first | (simp; done) | (simp; omega) | omega)]; all_goals (first | assumption | go_simp) }; have foz : wz.frozen? ⟨BO, 0, none⟩ = false := by { rw [frozenB hbz' _ _ (by first | (simp; done) | (simp; omega) | omega)]; all_goals (first | assumption | go_simp) }; have qz : wz.cell? ⟨w.heap.size, 0, none⟩ = some (.slice (some ⟨b0, o0, none⟩) (q + 1) c) := by { rw [cellB hbz' _ _ (by first | (simp; done) | (simp; omega) | omega)]; all_goals (first | assumption | go_simp) }; have pz : wz.cell? ⟨w.heap.size + 1, 0, none⟩ = some (.slice none 0 0) := by { rw [cellB hbz' _ _ (by first | (simp; done) | (simp; omega) | omega)]; all_goals (first | assumption | go_simp) }; have fz : wz.frozen? ⟨w.heap.size + 1, 0, none⟩ = false := by { rw [frozenB hbz' _ _ (by first | (simp; done) | (simp; omega) | omega)]; all_goals (first | assumption | go_simp) }
          have loz : BO < wz.heap.size := by omega
          have HOZ := Lib.hid hownz
          have HBZ := Lib.hid hbz'
          clear hownz hbz hbz' ca fa q9 p9 f9
          go_wp2_with fail
          refine tailL_mk HBZ.out ?_
          refine tailZ_cons ?_
          go_wp2_with fail
          refine tailL_mk HBZ.out ?_
          refine tailZ_last ?_
          go_wp2_with fail
          refine tailZ_end ?_
          have HO9 := Lib.hid (ownsRow_setCell_below HOZ.out (a := ⟨BO, 0, none⟩) (by simp) (.slice av2 (m + 1) cv2))
          have hb9 : Below BO wa (wz.setCell ⟨BO, 0, none⟩ (.slice av2 (m + 1) cv2)) := Below.setCell (HBZ.out.mono (Nat.le_succ BO)) (by simp) _
          have c9 : (wz.setCell ⟨BO, 0, none⟩ (.slice av2 (m + 1) cv2)).cell? ⟨BO, 0, none⟩ = some (.slice av2 (m + 1) cv2) := by go_simp
          have f9 : (wz.setCell ⟨BO, 0, none⟩ (.slice av2 (m + 1) cv2)).frozen? ⟨BO, 0, none⟩ = false := by go_simp
          have p9 : (wz.setCell ⟨BO, 0, none⟩ (.slice av2 (m + 1) cv2)).cell? ⟨w.heap.size + 1, 0, none⟩ = some (.slice none 0 0) := by go_simp
          have g9 : (wz.setCell ⟨BO, 0, none⟩ (.slice av2 (m + 1) cv2)).frozen? ⟨w.heap.size + 1, 0, none⟩ = false := by go_simp
          have l9 : BO < (wz.setCell ⟨BO, 0, none⟩ (.slice av2 (m + 1) cv2)).heap.size := by simpa using loz
          generalize wz.setCell ⟨BO, 0, none⟩ (.slice av2 (m + 1) cv2) = wy at *
          have HBy := Lib.hid (HBa.out.trans (hb9.mono (by omega)))
          clear hb9 coz foz qz pz fz HOZ HBZ
          go_wp2_with (at_builtin; refine wpList_append_sl _ rfl _ _ 85 rfl (BO + 1) 126 _ 2 16 Try.underlying85 infoPoint rfl (by omega) (.slice av2 (m + 1) cv2) (m + 1) _ rfl (HO9.out.alloc _) _ 1 1 [.int .i64 (t + f), .int .i64 (0)] rfl (SlR.lit _ _ _ _ _ 1 2 (by rfl) (by simp) rfl (by omega)) (by simp [Value.oneCell']) (by omega) (by omega) (by simp; omega) ?_)
          intro v10 wq hownq _ hbq
          obtain ⟨av3, cv3, rfl, _, _⟩ := owns_slice hownq
          have hbq' : Below (BO + 1) wy wq := Below.trans (b := wy.alloc (Obj.cells #[.int .i64 (t + f), .int .i64 0] 126)) (by (repeat' (first | (with_reducible exact Below.refl _ _) | (with_reducible assumption) | (with_reducible refine Below.drewN ?_ _) | (with_reducible refine Below.alloc ?_ ?_ _) | (with_reducible refine Below.drew ?_) | (with_reducible refine Below.setCell ?_ ?_ _) | (with_reducible refine Below.step (by assumption) ?_ ?_) | (with_reducible exact And.left (by assumption)) | go_size))) hbq
          have hzq := hbq'.size
          have coq : wq.cell? ⟨BO, 0, none⟩ = some (.slice av2 (m + 1) cv2) := by { rw [cellB hbq' _ _ (by first | (simp; done) | (simp; omega) | omega)]; all_goals (first | assumption | go_simp) }; have foq : wq.frozen? ⟨BO, 0, none⟩ = false := by { rw [frozenB hbq' _ _ (by first | (simp; done) | (simp; omega) | omega)]; all_goals (first | assumption | go_simp) }; have pq : wq.cell? ⟨w.heap.size + 1, 0, none⟩ = some (.slice none 0 0) := by { rw [cellB hbq' _ _ (by first | (simp; done) | (simp; omega) | omega)]; all_goals (first | assumption | go_simp) }; have fq : wq.frozen? ⟨w.heap.size + 1, 0, none⟩ = false := by { rw [frozenB hbq' _ _ (by first | (simp; done) | (simp; omega) | omega)]; all_goals (first | assumption | go_simp) }
          have loq : BO < wq.heap.size := by omega
          have l1q : w.heap.size + 1 < wq.heap.size := by omega
          have HOQ := Lib.hid (show wq.ownsRow (BO + 1) 126 2 (.slice av3 (m + 2) cv3) (m + 2) (pcells (chAll l t f)) by unfold chAll; rw [← HTK.out, ← HFL.out, pcells_append]; simpa [pcells, List.append_assoc] using hownq)
          have HBQ := Lib.hid (HBy.out.trans (hbq'.mono (by omega)))
          have HLN := Lib.hid (show (chAll l t f).length = m + 2 by unfold chAll; rw [List.length_append, ← HTK.out, ← hm.out]; rfl)
          clear hownq hbq hbq' c9 f9 p9 g9 HO9 HBy
          have hne : ¬ (w.heap.size + 1 = BO) := by omega
          have hne2 : ¬ (BO = w.heap.size + 1) := by omega
          by_cases hA : t + f > 1000000
          · have hAd : decide (t + f > 1000000) = true := by simpa using hA
            have HE := Lib.hid (show chE l t f = 8 by unfold chE; rw [if_pos HH.out, if_pos (by rw [HOK.out]; rfl), if_pos (.inl hA)])
            go_wp2
            refine bodyPost_ret (v := .tuple #[.agg #[.slice none 0 0], .int .i64 8]) (by simp [results, Try.results76, go_sem, pq]) rfl (cpost_err HE.out (by omega) ?_)
            have := HBQ.out
            (repeat' (first | (with_reducible exact Below.refl _ _) | (with_reducible assumption) | (with_reducible refine Below.drewN ?_ _) | (with_reducible refine Below.alloc ?_ ?_ _) | (with_reducible refine Below.drew ?_) | (with_reducible refine Below.setCell ?_ ?_ _) | (with_reducible refine Below.step (by assumption) ?_ ?_) | (with_reducible exact And.left (by assumption)) | go_size))
          · have hAd : decide (t + f > 1000000) = false := by simpa using hA
            by_cases hC : m + 2 > 12
            · have hCd : decide ((m : Int) + 1 + 1 > 12) = true := by simp; omega
              have hCd2 : decide ((m : Int) + 2 > 12) = true := by simp; omega
              have HE := Lib.hid (show chE l t f = 8 by unfold chE; rw [if_pos HH.out, if_pos (by rw [HOK.out]; rfl), if_pos (.inr (by rw [HLN.out]; exact hC))])
              go_wp2
              refine bodyPost_ret (v := .tuple #[.agg #[.slice none 0 0], .int .i64 8]) (by simp [results, Try.results76, go_sem, pq]) rfl (cpost_err HE.out (by omega) ?_)
              have := HBQ.out
              (repeat' (first | (with_reducible exact Below.refl _ _) | (with_reducible assumption) | (with_reducible refine Below.drewN ?_ _) | (with_reducible refine Below.alloc ?_ ?_ _) | (with_reducible refine Below.drew ?_) | (with_reducible refine Below.setCell ?_ ?_ _) | (with_reducible refine Below.step (by assumption) ?_ ?_) | (with_reducible exact And.left (by assumption)) | go_size))
            · have hCd : decide ((m : Int) + 1 + 1 > 12) = false := by simp; omega
              have hCd2 : decide ((m : Int) + 2 > 12) = false := by simp; omega
              have HE := Lib.hid (show chE l t f = 0 by unfold chE; rw [if_pos HH.out, if_pos (by rw [HOK.out]; rfl), if_neg (by rw [HLN.out]; omega)])
              go_wp2
              refine bodyPost_ret (v := .tuple #[.agg #[.slice av3 (m + 2) cv3], .int .i64 0]) (by simp [results, Try.results76, go_sem, pq]) rfl ⟨av3, m + 2, cv3, by rw [HE.out], ?_, ?_⟩
              · have := HBQ.out
                (repeat' (first | (with_reducible exact Below.refl _ _) | (with_reducible assumption) | (with_reducible refine Below.drewN ?_ _) | (with_reducible refine Below.alloc ?_ ?_ _) | (with_reducible refine Below.drew ?_) | (with_reducible refine Below.setCell ?_ ?_ _) | (with_reducible refine Below.step (by assumption) ?_ ?_) | (with_reducible exact And.left (by assumption)) | go_size))
              · unfold chL
                rw [if_pos HE.out]
                exact SlR.of_owns (ownsRow_setCell_below (ownsRow_setCell_below HOQ.out (a := ⟨BO, 0, none⟩) (by simp) _) (a := ⟨w.heap.size + 1, 0, none⟩) (by simp; omega) _)
end Go.Proofs.Ytiellefbndlkkaa
