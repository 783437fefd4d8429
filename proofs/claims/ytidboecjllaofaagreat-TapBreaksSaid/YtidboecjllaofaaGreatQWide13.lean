import Derived.Test.YtidboecjllaofaaGreatQWide12
/- Wide numbers: WideFloor of any number, WideInt. -/
namespace Go.Proofs.YtidboecjllaofaaGreat
open Go.RowKit
set_option linter.unusedVariables false
set_option maxRecDepth 100000 in
theorem wideFloor_any (p : Nat → Prop) (va vb : Value) (x y : Int) (K M : Nat) (w : World) (h : WideR p w va x) (h' : WideR p w vb y) (hy0 : 0 < y) (hx : (x.natAbs : Int) < pw K) (hy : (y.natAbs : Int) < pw M) (hK : K ≤ 900000) (hM : M ≤ 900000) :
    Calls Tryz.prog 167 #[va, vb] w fun e' w' => ∃ v', e' = .returned v' ∧ Below w.heap.size w w' ∧ WideR (fun b => w.heap.size ≤ b) w' v' (x / y) := by
 by_cases hx0 : x = 0
 ·have HZ := Lib.hid (show x / y = 0 by rw [hx0]; simp)
  obtain ⟨a1, n1, c1, l1, rfl, h2, h3, h4, h5, h6, h7⟩ := h
  obtain ⟨a2, n2, c2, l2, rfl, k2, k3, k4, k5, k6, k7⟩ := h'
  subst hx0
  clear h2 h3 h4 h5 h6 h7 k2 k3 k4 k5 k6 k7 hx hy hy0
  rw [show (0 : Int).sign = 0 from rfl]
  generalize y.sign = t at *
  go_enter Tryz.func167, Tryz.ntmps167
  go_wp2
  refine bodyPost_ret (v := .agg #[.int .i64 0, .slice none 0 0]) (by simp [results, Tryz.results167, go_sem]) rfl ⟨_, rfl, by (repeat' first|(with_reducible first|exact bw1|assumption|refine bw2 ?_ _|refine bw3 ?_ ?_ _|refine bw4 ?_|refine bw5 ?_ ?_ _|refine bw6 (by assumption) ?_ ?_|exact And.left (by assumption))|go_size), ?_⟩
  exact ⟨none, 0, 0, [], by rw [HZ.out]; rfl, IntsR.nil _ _, DOk.nil, Top.nil, by rw [HZ.out]; rfl, Nat.le_refl _, fun _ _ h0 => absurd h0 (by omega)⟩
 ·exact wideFloor_main p va vb x y K M w h h' hx0 hy0 hx hy hK hM
theorem two_len {l : List Int} (hd : DOk l) (ht : Top l) : l.length ≤ 2 ↔ dval l < 1000000000000000000 := by
 constructor
 ·intro h
  have h1 := (dval_bd hd).2
  have h2 := pw_mono h
  have h3 : pw 2 = 1000000000000000000 := by simp [pw]
  omega
 ·intro h
  exact ht.len hd (K := 2) (by simp only [pw]; omega)
theorem two_step {l : List Int} (hd : DOk l) (h : l.length ≤ 2) (k : Nat) : 0 ≤ dval (l.drop k) ∧ (0 < k → dval (l.drop k) ≤ 999999999) ∧ dval (l.drop k) ≤ 999999999999999999 := by
 have h1 := dval_bd (hd.drop k)
 rw [List.length_drop] at h1
 have h2 := pw_mono (m := l.length - k) (n := 2) (by omega)
 have h3 : pw 2 = 1000000000000000000 := by simp [pw]
 refine ⟨h1.1, fun hk => ?_, by omega⟩
 have h4 := pw_mono (m := l.length - k) (n := 1) (by omega)
 have h5 : pw 1 = 1000000000 := by simp [pw]
 omega
set_option maxHeartbeats 400000 in
set_option maxRecDepth 100000 in
theorem wideInt_any (p : Nat → Prop) (v : Value) (z : Int) (w : World) (h : WideR p w v z) :
    Calls Tryz.prog 175 #[v] w fun e' w' => e' = .returned (if (z.natAbs : Int) < 1000000000000000000 then .tuple #[.int .i64 z, .bool true] else .tuple #[.int .i64 0, .bool false]) ∧ Below w.heap.size w w' := by
 obtain ⟨a1, n1, c1, l1, rfl, h2, h3, h4, h5, h6, h7⟩ := h
 have hl := h2.len
 have h8 := two_len h3 h4
 rw [hl, h5] at h8
 have hs := sign_bd z
 have hn := h2.small
 by_cases hn1 : n1 ≤ 2
 ·rw [if_pos (h8.1 hn1)]
  have HST := Lib.hid (fun k => two_step h3 (by rw [hl]; exact hn1) k)
  have HI := Lib.hid h2
  have HZ := Lib.hid (show z.sign * dval l1 = z by rw [h5]; exact Int.sign_mul_natAbs z)
  have H0 := Lib.hid (show dval (l1.drop n1) = 0 by rw [List.drop_eq_nil_of_le (by omega)]; rfl)
  have HL := Lib.hid hl
  have HD := Lib.hid h3
  clear h2 h3 h4 h5 h6 h7 h8 hl
  obtain ⟨s, hsg⟩ : ∃ s, s = z.sign := ⟨_, rfl⟩
  rw [← hsg] at hs HZ ⊢
  clear hsg
  go_enter Tryz.func175, Tryz.ntmps175
  go_wp2
  generalize hW : World.alloc _ _ = w6
  have hb6 : Below w.heap.size w w6 := by rw [← hW]; (repeat' first|(with_reducible first|exact bw1|assumption|refine bw2 ?_ _|refine bw3 ?_ ?_ _|refine bw4 ?_|refine bw5 ?_ ?_ _|refine bw6 (by assumption) ?_ ?_|exact And.left (by assumption))|go_size)
  have q0 : w6.cell? ⟨w.heap.size, 0, none⟩ = some (.int .i64 s) := by { rw [← hW]; clear hW; go_simp }
  have q1 : w6.cell? ⟨w.heap.size, 1, none⟩ = some (.slice a1 n1 c1) := by { rw [← hW]; clear hW; go_simp }
  have l0 : w.heap.size < w6.heap.size := by { rw [← hW]; simp }
  have HB6 := Lib.hid hb6
  clear hW hb6
  go_loopw [4, 5] (fun v i wr => ∃ k : Nat, i = .int .i64 ((k : Int) - 1) ∧ k ≤ n1 ∧ v = .int .i64 (dval (l1.drop k)) ∧ wr = w6) (fun _ i _ => (intOf i + 1).toNat)
  case atStart => exact ⟨n1, by go_num, Nat.le_refl _, by rw [H0.out], rfl⟩
  case round =>
   obtain ⟨k, rfl, hk, rfl, rfl⟩ := hrel
   rcases k with _ | k
   ·have hV := (HST.out 0)
    rw [List.drop_zero] at hV ⊢
    have HR := Lib.hid HZ.out
    obtain ⟨V, hVe⟩ : ∃ V, V = dval l1 := ⟨_, rfl⟩
    rw [← hVe] at hV HR ⊢
    clear hVe
    have hsv : s * V = z := HR.out
    have wsv : IntKind.i64.wrap (s * V) = s * V := IntWalk.i64_in _ (by
     have e1 : s = -1 ∨ s = 0 ∨ s = 1 := by omega
     rcases e1 with rfl | rfl | rfl <;> omega)
    clear hsv
    go_wp2
    refine bodyPost_ret (v := .tuple #[.int .i64 (s * V), .bool true]) (by simp [results, Tryz.results175, go_sem, *]) rfl ⟨by rw [HR.out], HB6.out⟩
   ·obtain ⟨b1, o1, rfl, hb1, hc1⟩ := HI.out.addr (by omega)
    obtain ⟨A, hA⟩ : ∃ A, A = l1.getD k 0 := ⟨_, rfl⟩
    have bA : 0 ≤ A ∧ A ≤ 999999999 := by rw [hA]; exact HD.out.get k
    have hck1 : wr.cell? ⟨b1, o1 + k, none⟩ = some (.int .i64 A) := by
     rw [cellB HB6.out _ _ hb1, hA]; exact hc1 k (by omega)
    have HN := Lib.hid (show dval (l1.drop (k + 1)) * 1000000000 + A = dval (l1.drop k) by rw [dval_drop l1 k, hA]; omega)
    have hV := (HST.out (k + 1))
    obtain ⟨V, hVe⟩ : ∃ V, V = dval (l1.drop (k + 1)) := ⟨_, rfl⟩
    rw [← hVe] at hV HN ⊢
    have bV : 0 ≤ V ∧ V ≤ 999999999 := ⟨hV.1, hV.2.1 (by omega)⟩
    clear hVe hV hA hc1
    have i0 : (0 : Int) ≤ (k : Int) := by omega
    have i1 : (k : Int) < (n1 : Int) := by omega
    go_wp2
    go_roundw
    case rel => exact ⟨k, by go_num, by omega, by rw [← HN.out], by first | rfl | trivial⟩
    case measure => simp [intOf]
 ·rw [if_neg (fun h0 => hn1 (h8.2 h0))]
  clear h2 h3 h4 h5 h6 h7 h8 hl
  generalize z.sign = s at *
  go_enter Tryz.func175, Tryz.ntmps175
  go_wp2
  go_ret2
  exact ⟨rfl, by (repeat' first|(with_reducible first|exact bw1|assumption|refine bw2 ?_ _|refine bw3 ?_ ?_ _|refine bw4 ?_|refine bw5 ?_ ?_ _|refine bw6 (by assumption) ?_ ?_|exact And.left (by assumption))|go_size)⟩
end Go.Proofs.YtidboecjllaofaaGreat
