import Derived.Deep.CutRange
import Derived.Test.YtbjgklifmillgaaGreatMSch
import Derived.Test.YtbjgklifmillgaaGreatMSol
/- Linear equations over ratios: Solve. -/
namespace Go.Proofs.YtbjgklifmillgaaGreat
open Go.RowKit
set_option linter.unusedVariables false

/-- A slice in a block from lo on. -/
def SlN (lo : Nat) (w : World) (a : Option Addr) (n sz : Nat) (xs : List Value) : Prop := SlR w a n sz xs ∧ ∀ b o, a = some ⟨b, o, none⟩ → lo ≤ b
theorem SlN.of_owns {w : World} {base : Nat} {e : TypeId} {sz n c : Nat} {a : Option Addr} {xs : List Value} (h : w.ownsRow base e sz (.slice a n c) n xs) {lo : Nat} (hlo : lo ≤ base) : SlN lo w a n sz xs := by
  refine ⟨SlR.of_owns h, fun b o hb => ?_⟩
  rcases h.2 with ⟨hv, _⟩ | ⟨g, cap, cur, hv, hbase, _⟩
  · simp only [Value.slice.injEq] at hv
    rw [hv.1] at hb; cases hb
  · simp only [Value.slice.injEq] at hv
    rw [hv.1] at hb
    simp only [Option.some.injEq, Addr.mk.injEq] at hb
    omega
theorem SlN.mono {lo lo' : Nat} {w : World} {a : Option Addr} {n sz : Nat} {xs : List Value} (h : SlN lo w a n sz xs) (hl : lo' ≤ lo) : SlN lo' w a n sz xs := ⟨h.1, fun b o hb => Nat.le_trans hl (h.2 b o hb)⟩
theorem SlN.addr {lo : Nat} {w : World} {a : Option Addr} {n sz : Nat} {xs : List Value} (h : SlN lo w a n sz xs) (hn : 0 < n) : ∃ b o, a = some ⟨b, o, none⟩ ∧ lo ≤ b ∧ b < w.heap.size ∧ ∀ i u, xs[i]? = some u → w.cell? ⟨b, o + i, none⟩ = some u := by
  obtain ⟨b, o, h1, h2, h3⟩ := h.1.addr hn
  exact ⟨b, o, h1, h.2 b o h1, h2, h3⟩

set_option maxHeartbeats 1000000 in
set_option maxRecDepth 100000 in
theorem solve_any (xs : List Value) (a : Option Addr) (n cp K : Nat) (A : Nat → Nat → Rat) (w : World) (h : RowsR w a n xs A) (hn : 0 < n) (hn2 : n ≤ 1000) (ho : Only n A) (hs : ∀ i j, i < n → j < n + 1 → Sz K (A i j)) (hK : kz K n ≤ 190000) :
    Calls Tryz.prog 119 #[.slice a n cp] w fun e' w' => ∃ a' c', e' = .returned (.tuple #[.slice a' n c', .bool true]) ∧ Below w.heap.size w w' ∧ ∃ x ys, Sol n A 1 x ∧ SlN w.heap.size w' a' n 4 ys ∧ ∀ k, k < n → EntL (fun b => b < w'.heap.size) w' ys k (x k) := by
  have HR := Lib.hid h
  have HS := Lib.hid hs
  have HO := Lib.hid ho
  have HK := Lib.hid hK
  obtain ⟨ba, oa, rfl, hba, hca⟩ := h.sl.addr hn
  have HCA := Lib.hid hca
  clear h hs ho hK hca
  go_enter Tryz.func119, Tryz.ntmps119
  go_wp2
  go_loopw [5, 6] (fun m i wr => ∃ (k : Nat) (av : Option Addr) (cv : Nat), i = .int .i64 k ∧ m = .slice av k cv ∧ k ≤ n ∧ Hid (∃ ms r c, Made w.heap.size wr (.slice av k cv) k n A ms r c) ∧ Hid (Below w.heap.size w wr)) (fun _ i _ => n - (intOf i).toNat)
  case atStart => exact ⟨0, none, 0, rfl, rfl, Nat.zero_le _, Lib.hid ⟨_, _, _, Made.zero _ _ _ _⟩, Lib.hid (Below.refl _ _)⟩
  case round =>
    obtain ⟨k, av, cv, rfl, rfl, hk, hM, hB⟩ := hrel
    obtain ⟨w1, rfl⟩ : ∃ w', w' = wr := ⟨wr, rfl⟩
    have hz1 := hB.out.size
    rcases Nat.lt_or_ge k n with hlt | hge
    · obtain ⟨ms, r, c, hm⟩ := hM.out
      have HM := Lib.hid hm
      obtain ⟨ra, rc, ys, hx, hsl, hy1, hent⟩ := HR.out.row k hlt
      have cx : w1.cell? ⟨ba, oa + k, none⟩ = some (.slice ra (n + 1) rc) := by rw [cellB hB.out _ _ hba]; exact HCA.out k _ hx
      have HSL := Lib.hid (hsl.below hB.out)
      have HY := Lib.hid hy1
      have HEN := Lib.hid (fun j (hj : j < n + 1) => (hent j hj).below hB.out)
      have HBB := Lib.hid hB.out
      have i0 : (0 : Int) ≤ (k : Int) := by omega
      have i1 : (k : Int) < (n : Int) := by omega
      have lba : ba < w1.heap.size := by omega
      clear hM hm hx hsl hy1 hent hB
      go_wp2_with (at_builtin; refine wpList_append_sl _ rfl _ _ 94 rfl w1.heap.size 101 _ 4 64 Tryz.underlying94 infoRatio rfl (by omega) _ _ _ rfl (World.ownsRow_made w1 #[] 0 (by omega) (by simp [maxLen]) rfl) ra (n + 1) rc ys rfl (HSL.out.below (by (repeat' (first | (with_reducible exact Below.refl _ _) | (with_reducible assumption) | (with_reducible refine Below.drewN ?_ _) | (with_reducible refine Below.alloc ?_ ?_ _) | (with_reducible refine Below.drew ?_) | (with_reducible refine Below.setCell ?_ ?_ _) | (with_reducible refine Below.step (by assumption) ?_ ?_) | (with_reducible exact And.left (by assumption)) | go_size)))) HY.out (by omega) (by omega) (by simp) ?_)
      intro v2 w2 hown2 _ hb2
      try simp only [Nat.zero_add, List.nil_append] at hown2
      obtain ⟨a', c', rfl, _, _⟩ := owns_slice hown2
      obtain ⟨g, rfl⟩ : ∃ g, a' = some ⟨g, 0, none⟩ := by
        rcases hown2.2 with ⟨h', _⟩ | ⟨g, cap, cur, h', _⟩
        · simp at h'
        · simp only [Value.slice.injEq] at h'
          exact ⟨g, h'.1⟩
      have HO2 := Lib.hid hown2
      have HB2 := Lib.hid (show Below w1.heap.size w1 w2 from Below.trans (by (repeat' (first | (with_reducible exact Below.refl _ _) | (with_reducible assumption) | (with_reducible refine Below.drewN ?_ _) | (with_reducible refine Below.alloc ?_ ?_ _) | (with_reducible refine Below.drew ?_) | (with_reducible refine Below.setCell ?_ ?_ _) | (with_reducible refine Below.step (by assumption) ?_ ?_) | (with_reducible exact And.left (by assumption)) | go_size))) hb2)
      have hz2 := HB2.out.size
      have HOV := Lib.hid (owns_below HM.out.own HB2.out (fun q hq => (HM.out.own.lt q hq).2))
      clear hown2 hb2
      go_wp2_with (at_builtin; refine append_g _ rfl _ _ 177 94 _ 1 24 Tryz.underlying177 infoRow rfl (by omega) rfl w.heap.size k w2.heap.size (.slice av k cv) ms [.slice (some ⟨g, 0, none⟩) (n + 1) c'] rfl (HOV.out.alloc _) rfl rfl (fun j u hu => ?_) (fun u hu => ?_) (by omega) (by omega) (by simp; omega) ?_)
      · rcases j with _ | j
        · simp at hu; subst hu; go_simp
        · simp at hu
      · simp at hu; subst hu; rfl
      intro v7 w7 hown7 hg7 hv7 hb7
      obtain ⟨av2, cv2, rfl, _, _⟩ := owns_slice hown7
      have HM7 := Lib.hid (HM.out.next hz1 HB2.out HO2.out (fun j hj => HEN.out j hj) (by (repeat' (first | (with_reducible exact Below.refl _ _) | (with_reducible assumption) | (with_reducible refine Below.drewN ?_ _) | (with_reducible refine Below.alloc ?_ ?_ _) | (with_reducible refine Below.drew ?_) | (with_reducible refine Below.setCell ?_ ?_ _) | (with_reducible refine Below.step (by assumption) ?_ ?_) | (with_reducible exact And.left (by assumption)) | go_size))) hown7 hg7 (by simpa using hv7))
      have HB7 := Lib.hid (show Below w.heap.size w w7 from (HBB.out.trans (HB2.out.mono hz1)).trans (Below.trans (by (repeat' (first | (with_reducible exact Below.refl _ _) | (with_reducible assumption) | (with_reducible refine Below.drewN ?_ _) | (with_reducible refine Below.alloc ?_ ?_ _) | (with_reducible refine Below.drew ?_) | (with_reducible refine Below.setCell ?_ ?_ _) | (with_reducible refine Below.step (by assumption) ?_ ?_) | (with_reducible exact And.left (by assumption)) | go_size))) hb7))
      clear hown7 hg7 hv7 hb7
      go_wp2
      go_roundw
      case rel => exact ⟨k + 1, av2, cv2, by go_num, rfl, by omega, Lib.hid ⟨_, _, _, HM7.out⟩, HB7⟩
      case measure => simp [intOf]; omega
    · obtain rfl : n = k := by omega
      obtain ⟨ms, r, c, hm⟩ := hM.out
      obtain ⟨b0, rfl⟩ : ∃ g, av = some ⟨g, 0, none⟩ := by
        rcases hm.own.2 with ⟨h', h0⟩ | ⟨g, cap, cur, h', _⟩
        · omega
        · simp only [Value.slice.injEq] at h'
          exact ⟨g, h'.1⟩
      obtain ⟨hi, hhi⟩ : ∃ hi, hi = w1.heap.size := ⟨_, rfl⟩
      have HST := Lib.hid (show ∃ M r c, St w.heap.size hi w1 b0 n A K 0 M r c from ⟨A, r, c, by rw [hhi]; exact hm.mat, ⟨fun _ _ _ h => absurd h (by omega), fun _ h => absurd h (by omega)⟩, Eqv.refl n A, HS.out⟩)
      have HB1 := Lib.hid hB.out
      clear hM hm hB hhi
      go_wp2
      go_loopw [7] (fun i wr => ∃ k : Nat, i = .int .i64 k ∧ k ≤ n ∧ Hid (∃ M r c, St w.heap.size hi wr b0 n A K k M r c) ∧ Hid (Below w.heap.size w wr)) (fun i _ => n - (intOf i).toNat)
      case atStart => exact ⟨0, rfl, Nat.zero_le _, HST, HB1⟩
      case round =>
        clear HST HB1 hz1
        obtain ⟨k, rfl, hk, hS, hB⟩ := hrel
        obtain ⟨w2, rfl⟩ : ∃ w', w' = wr := ⟨wr, rfl⟩
        have hz2 := hB.out.size
        rcases Nat.lt_or_ge k n with hlt | hge
        · obtain ⟨M, r, c, hst⟩ := hS.out
          have HST := Lib.hid hst
          have HB2 := Lib.hid hB.out
          have HKK := Lib.hid (show 4 * kz K k + 1 ≤ 190000 by
            have := kz_mono K (show k + 1 ≤ n by omega)
            simp only [kz] at this
            have := HK.out
            omega)
          have k0 : (0 : Int) ≤ (k : Int) := by omega
          have k1 : (k : Int) < (n : Int) := by omega
          have k2 : (k : Int) < (n : Int) + 1 := by omega
          clear hst hS hB
          go_wp2
          go_loopw [8] (fun i wr => ∃ t : Nat, i = .int .i64 t ∧ k ≤ t ∧ t ≤ n ∧ Hid (∀ i, k ≤ i → i < t → M i k = 0) ∧ Hid (Below w2.heap.size w2 wr)) (fun i _ => n - (intOf i).toNat)
          case atStart => exact ⟨k, rfl, Nat.le_refl _, hk, Lib.hid (fun i h1 h2 => by omega), Lib.hid (Below.refl _ _)⟩
          case round =>
            obtain ⟨t, rfl, hkt, htn, hZ, hB⟩ := hrel
            obtain ⟨w3, rfl⟩ : ∃ w', w' = wr := ⟨wr, rfl⟩
            have hz3 := hB.out.size
            rcases Nat.lt_or_ge t n with htl | htg
            · have HM3 := Lib.hid (HST.out.mat.below hB.out)
              have HB3 := Lib.hid hB.out
              have hT := HM3.out.top t htl
              have hlr := HM3.out.row t htl
              obtain ⟨s, aa, m, d, s2, a2, m2, d2, g0, g1, g2, g3, hq⟩ := HM3.out.get htl (show k < n + 1 by omega)
              have HSG := Lib.hid (fun (w' : World) (hb : Below w3.heap.size w3 w') => ratioSign_any _ _ _ w' (hq.below hb))
              obtain ⟨rt, hrt⟩ : ∃ x, x = r t := ⟨_, rfl⟩
              rw [← hrt] at hT g0 g1 g2 g3
              have t0 : (0 : Int) ≤ (t : Int) := by omega
              have t1 : (t : Int) < (n : Int) := by omega
              clear hq hrt hlr hB
              by_cases hz : M t k = 0
              · rw [hz] at HSG
                have HZ' := Lib.hid (show ∀ i, k ≤ i → i < t + 1 → M i k = 0 from fun i h1 h2 => by
                  by_cases h3 : i = t
                  · rw [h3]; exact hz
                  · exact hZ.out i h1 (by omega))
                clear hz hZ
                go_wp2_with fail
                refine (HSG.out _ (Below.refl _ _)).mono ?_
                rintro e5 w5 ⟨rfl, hb5⟩
                rw [show ((0 : Rat).num.sign) = 0 by rfl]
                have HB5 := Lib.hid (HB3.out.trans (hb5.mono hz3))
                clear hb5 HSG
                go_wp2
                go_roundw
                case rel => exact ⟨t + 1, by go_num, by omega, by omega, HZ', HB5⟩
                case measure => simp [intOf]; omega
              · have hsg := sign_ne hz
                have HNZ := Lib.hid hz
                obtain ⟨sg, hsgd⟩ : ∃ x, x = (M t k).num.sign := ⟨_, rfl⟩
                rw [← hsgd] at hsg HSG
                clear hz hZ hsgd
                go_wp2_with fail
                refine (HSG.out _ (Below.refl _ _)).mono ?_
                rintro e5 w5 ⟨rfl, hb5⟩
                have hz5 := hb5.size
                have HM5 := Lib.hid (HM3.out.below hb5)
                have HB5 := Lib.hid (HB3.out.trans (hb5.mono hz3))
                have hne : ((t : Int) == (n : Int)) = false := by simp; omega
                clear hb5 HSG HM3 HB3 hT g0 g1 g2 g3
                have hTt := HM5.out.top t htl
                have hTk := HM5.out.top k hlt
                have fTt := HM5.out.ftop t htl
                have fTk := HM5.out.ftop k hlt
                have lb : b0 < w5.heap.size := by have := HM5.out.own; omega
                obtain ⟨rt, hrt⟩ : ∃ x, x = r t := ⟨_, rfl⟩
                obtain ⟨rk, hrk⟩ : ∃ x, x = r k := ⟨_, rfl⟩
                obtain ⟨ct, hct⟩ : ∃ x, x = c t := ⟨_, rfl⟩
                obtain ⟨ck, hck⟩ : ∃ x, x = c k := ⟨_, rfl⟩
                rw [← hrt, ← hct] at hTt
                rw [← hrk, ← hck] at hTk
                have HRR := Lib.hid (And.intro hrt (And.intro hrk (And.intro hct hck)))
                clear hrt hrk hct hck
                go_wp2
                refine wp_region_laterY (B := w5.heap.size) [0, 1, 2, 3, 4, 5, 6, 7, 8, 9, 10, 11, 12] [] [13, 14, 15] (by kernel_rfl) (by kernel_rfl) ?_; simp only [List.filterMap_cons, List.filterMap_nil, List.getElem?_cons_zero, List.getElem?_cons_succ]; repeat (show wpQuiet _ _ _ _ (_ :: _) _; go_big_quiet_step (fail))
                refine wpQuiet_nil ?_
                refine tailY_ends ?_
                refine ends_cons ?_
                go_wp2_with fail
                refine tailZ_end ?_
                have hmid := swap_mid2 w5 b0 k t hTk hTt
                generalize hW : World.drew _ = wa at *
                have fa : wa.frozen? ⟨b0, t, none⟩ = false := by rw [← hW]; simpa using fTt
                clear hTk hTt fTk fTt lb
                refine ends_cons ?_
                go_wp2_with fail
                refine tailZ_end ?_
                refine ends_cons ?_
                go_wp2_with fail
                refine tailZ_end ?_
                refine ends_nil ?_
                have HM6 := Lib.hid (HM5.out.swap2 (wa := wa) hlt htl (by rw [← HRR.out.1, ← HRR.out.2.2.1]; exact hW))
                rw [← HRR.out.2.1, ← HRR.out.2.2.2] at HM6
                generalize hW6 : wa.setCell _ _ = w6 at *
                have HB6 := Lib.hid (show Below w.heap.size w w6 by
                  have hb5 := HB2.out.trans (HB5.out.mono hz2)
                  have hob := HM5.out.own.1
                  rw [← hW6, ← hW]
                  exact ((hb5.setCell (by simpa using hob) _).drew.setCell (by simpa using hob) _))
                have HST4 := Lib.hid (show ∃ M, St4 w.heap.size hi w6 b0 n A K k 0 M (fun j => r (sw k t j)) (fun j => c (sw k t j)) from ⟨_, HST.out.start hlt hkt htl HNZ.out HM6.out⟩)
                generalize (fun j => r (sw k t j)) = r5 at *
                generalize (fun j => c (sw k t j)) = c5 at *
                clear hW hW6 hmid fa HM6 HRR HM5 HB5 HST HNZ hsg hne
                go_wp2
                go_loopw [9] (fun i wr => ∃ q : Nat, i = .int .i64 q ∧ q ≤ n ∧ Hid (∃ M, St4 w.heap.size hi wr b0 n A K k q M r5 c5) ∧ Hid (Below w.heap.size w wr)) (fun i _ => n - (intOf i).toNat)
                case atStart => exact ⟨0, rfl, Nat.zero_le _, HST4, HB6⟩
                case round =>
                  clear HST4 HB6
                  obtain ⟨q, rfl, hq, hS, hB⟩ := hrel
                  obtain ⟨w7, rfl⟩ : ∃ w', w' = wr := ⟨wr, rfl⟩
                  have hz7 := hB.out.size
                  rcases Nat.lt_or_ge q n with hql | hqg
                  · obtain ⟨M, hst⟩ := hS.out
                    have HST := Lib.hid hst
                    have HB7 := Lib.hid hB.out
                    have q0 : (0 : Int) ≤ (q : Int) := by omega
                    have q1 : (q : Int) < (n : Int) := by omega
                    clear hst hS hB
                    by_cases hqk : q = k
                    · have e1 : ((q : Int) == (k : Int)) = true := by simp; omega
                      have HN := Lib.hid (HST.out.skip (Below.refl _ _) (.inl hqk))
                      clear hqk
                      go_wp2
                      go_roundw
                      case rel => exact ⟨q + 1, by go_num, by omega, Lib.hid ⟨M, HN.out⟩, HB7⟩
                      case measure => simp [intOf]; omega
                    · have e1 : ((q : Int) == (k : Int)) = false := by simp; omega
                      have hTq := HST.out.mat.top q hql
                      obtain ⟨s, aa, m, d, s2, a2, m2, d2, g0, g1, g2, g3, hqr⟩ := HST.out.mat.get hql (show k < n + 1 by omega)
                      have HSG := Lib.hid (fun (w' : World) (hb : Below w7.heap.size w7 w') => ratioSign_any _ _ _ w' (hqr.below hb))
                      obtain ⟨rq, hrq⟩ : ∃ x, x = r5 q := ⟨_, rfl⟩
                      rw [← hrq] at hTq g0 g1 g2 g3
                      clear hqr hrq
                      by_cases hz : M q k = 0
                      · have HN := Lib.hid (fun w' (hb : Below w7.heap.size w7 w') => HST.out.skip hb (.inr hz))
                        rw [hz] at HSG
                        clear hz
                        go_wp2_with fail
                        refine (HSG.out _ (Below.refl _ _)).mono ?_
                        rintro e8 w8 ⟨rfl, hb8⟩
                        rw [show ((0 : Rat).num.sign) = 0 by rfl]
                        have HN8 := Lib.hid (HN.out w8 hb8)
                        have HB8 := Lib.hid (HB7.out.trans (hb8.mono hz7))
                        clear hb8 HSG HN
                        go_wp2
                        go_roundw
                        case rel => exact ⟨q + 1, by go_num, by omega, Lib.hid ⟨M, HN8.out⟩, HB8⟩
                        case measure => simp [intOf]; omega
                      · have hsg := sign_ne hz
                        clear hz
                        obtain ⟨sg, hsgd⟩ : ∃ x, x = (M q k).num.sign := ⟨_, rfl⟩
                        rw [← hsgd] at hsg HSG
                        clear hsgd
                        go_wp2_with fail
                        refine (HSG.out _ (Below.refl _ _)).mono ?_
                        rintro e8 w8 ⟨rfl, hb8⟩
                        have hz8 := hb8.size
                        have HM8 := Lib.hid (HST.out.mat.below hb8)
                        have HB8 := Lib.hid (HB7.out.trans (hb8.mono hz7))
                        clear hb8 HSG hTq g0 g1 g2 g3 HB7
                        have hTq := HM8.out.top q hql
                        have hTk := HM8.out.top k hlt
                        have lb : b0 < w8.heap.size := by have := HM8.out.own; omega
                        have lq : r5 q < w8.heap.size := by have := HM8.out.row q hql; have := HM8.out.own; omega
                        have lk : r5 k < w8.heap.size := by have := HM8.out.row k hlt; have := HM8.out.own; omega
                        obtain ⟨s, aa, m, d, s2, a2, m2, d2, g0, g1, g2, g3, hqr⟩ := HM8.out.get hql (show k < n + 1 by omega)
                        obtain ⟨s', aa', m', d', s2', a2', m2', d2', g0', g1', g2', g3', hkr⟩ := HM8.out.get hlt (show k < n + 1 by omega)
                        have HSZ := Lib.hid (fun (x : Nat) (hx : x < n + 1) => (show Sz (kz K k) (M q x) ∧ Sz (kz K k) (M k x) by
                          have h1 := HST.out.sz q x hql hx
                          have h2 := HST.out.sz k x hlt hx
                          rw [if_neg (by omega)] at h1 h2
                          exact ⟨h1, h2⟩))
                        have HDV := Lib.hid (fun (w' : World) (hb : Below w8.heap.size w8 w') => ratioDiv_any _ _ _ _ _ (kz K k) (kz K k) w' (hqr.below hb) (hkr.below hb) HST.out.part.1 (HSZ.out k (by omega)).1 (HSZ.out k (by omega)).2 (by have := HKK.out; omega))
                        have HRQ := Lib.hid (show r5 q ≠ r5 k from fun e => hqk (HM8.out.inj q k hql hlt e))
                        have hlq := HM8.out.row q hql
                        have hlh : hi ≤ w8.heap.size := HM8.out.own.2.2
                        obtain ⟨rq, hrq⟩ : ∃ x, x = r5 q := ⟨_, rfl⟩
                        obtain ⟨rk, hrk⟩ : ∃ x, x = r5 k := ⟨_, rfl⟩
                        rw [← hrq] at hTq g0 g1 g2 g3 lq
                        rw [← hrk] at hTk g0' g1' g2' g3' lk
                        have HRR := Lib.hid (And.intro hrq hrk)
                        obtain ⟨by_, hby⟩ : ∃ x, x = M q k / M k k := ⟨_, rfl⟩
                        rw [← hby] at HDV
                        have HBY := Lib.hid hby
                        clear hqr hkr hrq hrk hby hlq
                        go_wp2_with fail
                        go_cut [10] from 69 to 131 (fun v10 wx => ∃ X, v10 = .pointer (some ⟨X, 0, none⟩) ∧ X < wx.heap.size ∧ hi ≤ X ∧ Hid (EntR (fun b => hi ≤ b ∧ b ≠ X) wx X 0 by_) ∧ Hid (Below w8.heap.size w8 wx))
                        case first =>
                          have HN := Lib.hid (Below.refl w8.heap.size w8).drew
                          refine wp_region_laterT (B := w8.heap.size) (.head 0 (.head 1 (.head 2 (.head 3 (.head 4 (.head 5 (.head 6 (.head 7 (.head 8 (.head 9 (.head 10 (.head 11 (.head 12 (.head 13 (.two 14 (.one 15 (.one 16 .done)) 15 (.one 14 (.one 16 .done))))))))))))))))) (by kernel_rfl) (by kernel_rfl) ?_
                          repeat (refine tree_head rfl ?_; (show wpQuiet _ _ _ _ (_ :: _) _; go_big_quiet_step (fail)); refine wpQuiet_nil ?_)
                          refine tree_two rfl rfl ?_ ?_
                          · go_wp2_with fail
                            refine (HDV.out _ (by (repeat' (first | (with_reducible exact Below.refl _ _) | (with_reducible assumption) | (with_reducible refine Below.drewN ?_ _) | (with_reducible refine Below.alloc ?_ ?_ _) | (with_reducible refine Below.drew ?_) | (with_reducible refine Below.setCell ?_ ?_ _) | (with_reducible refine Below.step (by assumption) ?_ ?_) | (with_reducible exact And.left (by assumption)) | go_size)))).mono ?_
                            rintro e9 w9 ⟨v9, rfl, hb9, hr9⟩
                            have HR9 := Lib.hid hr9.here
                            obtain ⟨s9, a9, n9, c9, t9, b9, m9, d9, rfl, _, _⟩ := hr9
                            have hz9 := hb9.size
                            simp only [World.size_drew] at hz9
                            have hN9 : Below w8.heap.size w8 w9 := (Below.refl w8.heap.size w8).drew.trans hb9
                            clear hb9
                            go_wp2_with fail
                            refine tailL_mk hN9 ?_
                            refine tree_one rfl ?_
                            go_wp2_with fail
                            obtain ⟨X, hX⟩ : ∃ X, X = w9.heap.size := ⟨_, rfl⟩
                            have hxr : (w9.alloc (Obj.cells #[Value.int IntKind.i64 0, Value.slice none 0 0, Value.int IntKind.i64 0, Value.slice none 0 0] 101)).heap[X]? = some (.cells #[Value.int IntKind.i64 0, Value.slice none 0 0, Value.int IntKind.i64 0, Value.slice none 0 0] 101) := by rw [hX]; exact heap_alloc_new _ _
                            have hszx : (w9.alloc (Obj.cells #[Value.int IntKind.i64 0, Value.slice none 0 0, Value.int IntKind.i64 0, Value.slice none 0 0] 101)).heap.size = X + 1 := by rw [hX]; simp
                            have hbx : Below w9.heap.size w9 (w9.alloc (Obj.cells #[Value.int IntKind.i64 0, Value.slice none 0 0, Value.int IntKind.i64 0, Value.slice none 0 0] 101)) := by (repeat' (first | (with_reducible exact Below.refl _ _) | (with_reducible assumption) | (with_reducible refine Below.drewN ?_ _) | (with_reducible refine Below.alloc ?_ ?_ _) | (with_reducible refine Below.drew ?_) | (with_reducible refine Below.setCell ?_ ?_ _) | (with_reducible refine Below.step (by assumption) ?_ ?_) | (with_reducible exact And.left (by assumption)) | go_size))
                            simp only [← hX]
                            generalize (w9.alloc (Obj.cells #[Value.int IntKind.i64 0, Value.slice none 0 0, Value.int IntKind.i64 0, Value.slice none 0 0] 101)) = wx at *
                            have hNX := hN9.trans (hbx.mono hz9)
                            have HRX := Lib.hid ((HR9.out.below hbx).mono (p' := fun b => w8.heap.size ≤ b ∧ b < X) (fun b hb => by simpa [hX] using hb))
                            have hXl : w8.heap.size ≤ X := by omega
                            clear HR9 hN9 hbx hX
                            refine tailL_mk hNX ?_
                            refine tree_one rfl ?_
                            have c90 := cell_of_row _ _ 0 _ _ _ hxr
                            have c91 := cell_of_row _ _ 1 _ _ _ hxr
                            have c92 := cell_of_row _ _ 2 _ _ _ hxr
                            have c93 := cell_of_row _ _ 3 _ _ _ hxr
                            have f90 := frozen_of_row _ _ 0 _ _ hxr
                            have f91 := frozen_of_row _ _ 1 _ _ hxr
                            have f92 := frozen_of_row _ _ 2 _ _ hxr
                            have f93 := frozen_of_row _ _ 3 _ _ hxr
                            simp only [List.getElem?_toArray, List.getElem?_cons_zero, List.getElem?_cons_succ] at c90 c91 c92 c93
                            have HE := Lib.hid (EntR.made c90 c91 c92 c93 (HRX.out) (fun b hb => by obtain ⟨hb1, hb2⟩ := hb; omega))
                            have HNL := Lib.hid (show Below w8.heap.size w8 ((((wx.setCell ⟨X, 0, none⟩ (.int .i64 s9)).setCell ⟨X, 1, none⟩ (.slice a9 n9 c9)).setCell ⟨X, 2, none⟩ (.int .i64 t9)).setCell ⟨X, 3, none⟩ (.slice b9 m9 d9)) from (((hNX.setCell hXl _).setCell hXl _).setCell hXl _).setCell hXl _)
                            clear hxr hNX
                            go_wp2_with fail
                            refine tailL_mk HNL.out ?_
                            refine tree_done ?_
                            go_wp2_with fail
                            go_meet
                            case rel => exact ⟨X, rfl, by simp; omega, by omega, Lib.hid (HE.out.mono (fun b hb => by obtain ⟨hb1, hb2⟩ := hb; exact ⟨by omega, by omega⟩)), HNL⟩
                          · go_wp2_with fail
                            obtain ⟨X, hX⟩ : ∃ X, X = w8.heap.size := ⟨_, rfl⟩
                            have hxr : (w8.alloc (Obj.cells #[Value.int IntKind.i64 0, Value.slice none 0 0, Value.int IntKind.i64 0, Value.slice none 0 0] 101)).drew.heap[X]? = some (.cells #[Value.int IntKind.i64 0, Value.slice none 0 0, Value.int IntKind.i64 0, Value.slice none 0 0] 101) := by rw [hX]; exact heap_alloc_new _ _
                            have hszx : (w8.alloc (Obj.cells #[Value.int IntKind.i64 0, Value.slice none 0 0, Value.int IntKind.i64 0, Value.slice none 0 0] 101)).drew.heap.size = X + 1 := by rw [hX]; simp
                            have hNX : Below w8.heap.size w8 (w8.alloc (Obj.cells #[Value.int IntKind.i64 0, Value.slice none 0 0, Value.int IntKind.i64 0, Value.slice none 0 0] 101)).drew := by (repeat' (first | (with_reducible exact Below.refl _ _) | (with_reducible assumption) | (with_reducible refine Below.drewN ?_ _) | (with_reducible refine Below.alloc ?_ ?_ _) | (with_reducible refine Below.drew ?_) | (with_reducible refine Below.setCell ?_ ?_ _) | (with_reducible refine Below.step (by assumption) ?_ ?_) | (with_reducible exact And.left (by assumption)) | go_size))
                            simp only [← hX]
                            generalize (w8.alloc (Obj.cells #[Value.int IntKind.i64 0, Value.slice none 0 0, Value.int IntKind.i64 0, Value.slice none 0 0] 101)).drew = wx at *
                            refine tailL_mk hNX ?_
                            refine tree_one rfl ?_
                            go_wp2_with fail
                            refine (HDV.out _ hNX).mono ?_
                            rintro e9 w9 ⟨v9, rfl, hb9, hr9⟩
                            have hz9 := hb9.size
                            have HRX := Lib.hid (hr9.mono (p' := fun b => w8.heap.size ≤ b ∧ b ≠ X) (fun b hb => by omega))
                            obtain ⟨s9, a9, n9, c9, t9, b9, m9, d9, rfl, _, _⟩ := hr9
                            have hxr := (hb9.block X (by omega)).trans hxr
                            have hNX := hNX.trans (hb9.mono (by omega))
                            have hszx : X < w9.heap.size := by omega
                            have hXl : w8.heap.size ≤ X := by omega
                            clear hb9 hX hz9
                            go_wp2_with fail
                            refine tailL_mk hNX ?_
                            refine tree_one rfl ?_
                            have c90 := cell_of_row _ _ 0 _ _ _ hxr
                            have c91 := cell_of_row _ _ 1 _ _ _ hxr
                            have c92 := cell_of_row _ _ 2 _ _ _ hxr
                            have c93 := cell_of_row _ _ 3 _ _ _ hxr
                            have f90 := frozen_of_row _ _ 0 _ _ hxr
                            have f91 := frozen_of_row _ _ 1 _ _ hxr
                            have f92 := frozen_of_row _ _ 2 _ _ hxr
                            have f93 := frozen_of_row _ _ 3 _ _ hxr
                            simp only [List.getElem?_toArray, List.getElem?_cons_zero, List.getElem?_cons_succ] at c90 c91 c92 c93
                            have HE := Lib.hid (EntR.made c90 c91 c92 c93 (HRX.out) (fun b hb => by obtain ⟨hb1, hb2⟩ := hb; omega))
                            have HNL := Lib.hid (show Below w8.heap.size w8 ((((w9.setCell ⟨X, 0, none⟩ (.int .i64 s9)).setCell ⟨X, 1, none⟩ (.slice a9 n9 c9)).setCell ⟨X, 2, none⟩ (.int .i64 t9)).setCell ⟨X, 3, none⟩ (.slice b9 m9 d9)) from (((hNX.setCell hXl _).setCell hXl _).setCell hXl _).setCell hXl _)
                            clear hxr hNX
                            go_wp2_with fail
                            refine tailL_mk HNL.out ?_
                            refine tree_done ?_
                            go_wp2_with fail
                            go_meet
                            case rel => exact ⟨X, rfl, by simp; omega, by omega, Lib.hid (HE.out.mono (fun b hb => by obtain ⟨hb1, hb2⟩ := hb; exact ⟨by omega, by omega⟩)), HNL⟩
                        case rest =>
                          obtain ⟨w9, rfl⟩ : ∃ w', w' = wc := ⟨wc, rfl⟩
                          obtain ⟨X, rfl, lX, hX, hE, hB⟩ := hcut
                          have hz9 := hB.out.size
                          have HM9 := Lib.hid (HM8.out.below hB.out)
                          have HB9 := Lib.hid (HB8.out.trans (hB.out.mono (Nat.le_trans hz7 hz8)))
                          have HE9 := Lib.hid hE.out
                          have HSB := Lib.hid (show Sz (kz K k + kz K k) by_ by rw [HBY.out]; exact sz_quot HST.out.part.1 (HSZ.out k (by omega)).1 (HSZ.out k (by omega)).2)
                          have hlt9 : w.heap.size ≤ w9.heap.size := by omega
                          clear hE hB hTq hTk lb lq lk g0 g1 g2 g3 g0' g1' g2' g3' HM8 HB8 HDV
                          go_wp2
                          go_loopw [11] (fun i wr => ∃ t : Nat, i = .int .i64 t ∧ k ≤ t ∧ t ≤ n + 1 ∧ X < wr.heap.size ∧ Hid (MatR w.heap.size hi wr b0 n r5 c5 (elim M q k t by_)) ∧ Hid (EntR (fun b => hi ≤ b ∧ b ≠ X) wr X 0 by_) ∧ Hid (Below w.heap.size w wr)) (fun i _ => n + 1 - (intOf i).toNat)
                          case atStart => exact ⟨k, rfl, Nat.le_refl _, by omega, lX, Lib.hid (by rw [elim_none]; exact HM9.out), HE9, HB9⟩
                          case round =>
                            clear HM9 HE9 HB9 lX hlt9 hz9
                            obtain ⟨t, rfl, hkt, htn, lX, hM, hE, hB⟩ := hrel
                            obtain ⟨wa, rfl⟩ : ∃ w', w' = wr := ⟨wr, rfl⟩
                            have hza := hB.out.size
                            have HMA := Lib.hid hM.out
                            have HBA := Lib.hid hB.out
                            have HEA := Lib.hid hE.out
                            clear hM hB hE
                            rcases Nat.lt_or_ge t (n + 1) with htl | htg
                            · have hTq := HMA.out.top q hql
                              have hTk := HMA.out.top k hlt
                              have fQ0 := HMA.out.frz q (4 * t) hql (by omega)
                              have fQ1 := HMA.out.frz q (4 * t + 1) hql (by omega)
                              have fQ2 := HMA.out.frz q (4 * t + 2) hql (by omega)
                              have fQ3 := HMA.out.frz q (4 * t + 3) hql (by omega)
                              rw [Nat.mul_comm 4 t] at fQ0 fQ1 fQ2 fQ3
                              have lb : b0 < wa.heap.size := by have := HMA.out.own; omega
                              have lq : r5 q < wa.heap.size := by have := HMA.out.row q hql; have := HMA.out.own; omega
                              have lk : r5 k < wa.heap.size := by have := HMA.out.row k hlt; have := HMA.out.own; omega
                              obtain ⟨s, aa, m, d, s2, a2, m2, d2, g0, g1, g2, g3, hqr⟩ := HMA.out.get hql (show t < n + 1 by omega)
                              obtain ⟨s', aa', m', d', s2', a2', m2', d2', g0', g1', g2', g3', hkr⟩ := HMA.out.get hlt (show t < n + 1 by omega)
                              obtain ⟨sx, ax, mx, dx, sx2, ax2, mx2, dx2, x0, x1, x2, x3, hxr⟩ := HEA.out
                              rw [elim_own] at hqr
                              rw [elim_other M by_ t (fun e => hqk e.symm)] at hkr
                              have hhi : hi ≤ wa.heap.size := HMA.out.own.2.2
                              have hlo : w.heap.size ≤ hi := by have := HMA.out.own; omega
                              have HMU := Lib.hid (fun (w' : World) (hb : Below wa.heap.size wa w') => ratioMul_any (fun b => b < w.heap.size ∨ hi ≤ b) _ _ _ _ (kz K k + kz K k) (kz K k) w' ((hxr.mono (fun b hb => .inr hb.1)).below hb) (hkr.below hb) HSB.out (HSZ.out t htl).2 (by have := HKK.out; omega))
                              have HQ := Lib.hid hqr
                              obtain ⟨rq, hrq⟩ : ∃ x, x = r5 q := ⟨_, rfl⟩
                              obtain ⟨rk, hrk⟩ : ∃ x, x = r5 k := ⟨_, rfl⟩
                              rw [← hrq] at hTq g0 g1 g2 g3 lq fQ0 fQ1 fQ2 fQ3
                              rw [← hrk] at hTk g0' g1' g2' g3' lk
                              have HRR := Lib.hid (And.intro hrq hrk)
                              have t0 : (0 : Int) ≤ (t : Int) := by omega
                              have t1 : (t : Int) < (n : Int) + 1 := by omega
                              have t2 : (t : Int) ≤ (n : Int) := by omega
                              clear hqr hkr hxr hrq hrk
                              go_wp2
                              refine wp_region_laterZ (B := wa.heap.size) [0, 1, 2, 3, 4, 5, 6, 7, 8, 9, 10, 11, 12, 13, 14, 15, 16, 17, 18, 19] [20, 21, 22, 23] 23 (by kernel_rfl) (by kernel_rfl) ?_; simp only [List.filterMap_cons, List.filterMap_nil, List.getElem?_cons_zero, List.getElem?_cons_succ]; repeat (show wpQuiet _ _ _ _ (_ :: _) _; go_big_quiet_step (fail))
                              refine wpQuiet_nil ?_
                              refine tailZ_cons ?_
                              go_wp2_with fail
                              refine (HMU.out _ (by (repeat' (first | (with_reducible exact Below.refl _ _) | (with_reducible assumption) | (with_reducible refine Below.drewN ?_ _) | (with_reducible refine Below.alloc ?_ ?_ _) | (with_reducible refine Below.drew ?_) | (with_reducible refine Below.setCell ?_ ?_ _) | (with_reducible refine Below.step (by assumption) ?_ ?_) | (with_reducible exact And.left (by assumption)) | go_size)))).mono ?_
                              rintro eb wb ⟨vb, rfl, hbb, hrb⟩
                              have hzb := hbb.size
                              simp only [World.size_drew] at hzb
                              have HNB := Lib.hid (show Below wa.heap.size wa wb from (Below.refl wa.heap.size wa).drew.trans hbb)
                              have HSU := Lib.hid (ratioSub_any (fun b => (b < w.heap.size ∨ hi ≤ b) ∧ b < wb.heap.size) _ _ _ _ (kz K k) (kz K k + kz K k + kz K k) wb ((HQ.out.below HNB.out).here) ((hrb.mono (p' := fun b => b < w.heap.size ∨ hi ≤ b) (fun b hb => .inr (by simp at hb; omega))).here) (fun b hb => hb.2) (HSZ.out t htl).1 (sz_mul HSB.out (HSZ.out t htl).2) (by have := HKK.out; omega))
                              obtain ⟨sb, ab, nb, cb, tb, bb, mb, db, rfl, _, _⟩ := hrb
                              clear hbb
                              go_wp2_with fail
                              refine tailL_mk HNB.out ?_
                              refine tailZ_cons ?_
                              go_wp2_with fail
                              refine HSU.out.mono ?_
                              rintro ec wc ⟨vc, rfl, hbc, hrc⟩
                              have hzc := hbc.size
                              have HNC := Lib.hid (show Below wa.heap.size wa wc from HNB.out.trans (hbc.mono hzb))
                              have HRC := Lib.hid (hrc.mono (p' := fun b => b < w.heap.size ∨ hi ≤ b) (fun b hb => .inr (by omega)))
                              obtain ⟨sc, ac, nc, cc, tc, bc, mc, dc, rfl, _, _⟩ := hrc
                              clear hbc HSU
                              go_wp2_with fail
                              refine tailL_mk HNC.out ?_
                              refine tailZ_cons ?_
                              go_wp2_with fail
                              refine tailL_mk HNC.out ?_
                              refine tailZ_last ?_
                              have hTc0 := cellB HNC.out rq (t * 4) (by omega)
                              have hTc1 := cellB HNC.out rq (t * 4 + 1) (by omega)
                              have hTc2 := cellB HNC.out rq (t * 4 + 2) (by omega)
                              have hTc3 := cellB HNC.out rq (t * 4 + 3) (by omega)
                              rw [g0] at hTc0
                              rw [g1] at hTc1
                              rw [g2] at hTc2
                              rw [g3] at hTc3
                              have hfc0 := frozenB HNC.out rq (t * 4) (by omega)
                              have hfc1 := frozenB HNC.out rq (t * 4 + 1) (by omega)
                              have hfc2 := frozenB HNC.out rq (t * 4 + 2) (by omega)
                              have hfc3 := frozenB HNC.out rq (t * 4 + 3) (by omega)
                              rw [fQ0] at hfc0
                              rw [fQ1] at hfc1
                              rw [fQ2] at hfc2
                              rw [fQ3] at hfc3
                              have hlq : rq < wc.heap.size := by omega
                              have HMC := Lib.hid (HMA.out.below HNC.out)
                              have HEC := Lib.hid (HEA.out.below lX HNC.out)
                              have HBC := Lib.hid (HBA.out.trans (HNC.out.mono hza))
                              clear g0 g1 g2 g3 fQ0 fQ1 fQ2 fQ3 g0' g1' g2' g3' x0 x1 x2 x3 hTq hTk HMU HQ
                              go_wp2_with fail
                              refine tailZ_end ?_
                              have HS := Lib.hid (HMC.out.set hql htl (q := M q t - by_ * M k t) HRC.out)
                              rw [elim_step M by_ hkt, Nat.mul_comm 4 t, ← HRR.out.1] at HS
                              generalize hW : World.setCell _ _ _ = wd at *
                              have hlor : w.heap.size ≤ rq := by rw [HRR.out.1]; exact (HMC.out.row q hql).1
                              have hrqh : rq < hi := by rw [HRR.out.1]; exact (HMC.out.row q hql).2.1
                              have HBD := Lib.hid (show Below w.heap.size w wd by
                                rw [← hW]
                                exact (((HBC.out.setCell hlor _).setCell hlor _).setCell hlor _).setCell hlor _)
                              have HED := Lib.hid (show EntR (fun b => hi ≤ b ∧ b ≠ X) wd X 0 by_ by
                                rw [← hW]
                                refine HEC.out.kept (by simp) ?_ (fun b hb => ?_)
                                · rw [Go.Deep.blk_setCell_other _ _ _ _ (by simp; omega), Go.Deep.blk_setCell_other _ _ _ _ (by simp; omega), Go.Deep.blk_setCell_other _ _ _ _ (by simp; omega), Go.Deep.blk_setCell_other _ _ _ _ (by simp; omega)]
                                · obtain ⟨hb1, hb2⟩ := hb
                                  rw [Go.Deep.blk_setCell_other _ _ _ _ (by simp; omega), Go.Deep.blk_setCell_other _ _ _ _ (by simp; omega), Go.Deep.blk_setCell_other _ _ _ _ (by simp; omega), Go.Deep.blk_setCell_other _ _ _ _ (by simp; omega)])
                              have hXd : X < wd.heap.size := by rw [← hW]; simp; omega
                              clear hW hTc0 hTc1 hTc2 hTc3 hfc0 hfc1 hfc2 hfc3 HMC HEC HBC HMA HEA HBA HNC HNB
                              go_wp2
                              go_roundw
                              case rel => exact ⟨t + 1, by go_num, by omega, by omega, hXd, HS, HED, HBD⟩
                              case measure => simp [intOf]; omega
                            · obtain rfl : t = n + 1 := by omega
                              have HN := Lib.hid (HST.out.done hlt hql hqk (by rw [← HBY.out]; exact HMA.out))
                              have HBX := Lib.hid HBA.out
                              clear HMA HEA HBA
                              go_wp2
                              go_roundw
                              case rel => exact ⟨q + 1, by go_num, by omega, Lib.hid ⟨_, HN.out⟩, HBX⟩
                              case measure => simp [intOf]; omega
                  · obtain rfl : n = q := by omega
                    obtain ⟨M, hst⟩ := hS.out
                    have HN := Lib.hid (show ∃ M r c, St w.heap.size hi w7 b0 n A K (k + 1) M r c from ⟨_, _, _, hst.next hlt⟩)
                    have HB7 := Lib.hid hB.out
                    clear hst hS hB
                    go_wp2
                    go_roundw
                    case rel => exact ⟨k + 1, by go_num, by omega, HN, HB7⟩
                    case measure => simp [intOf]; omega
            · exact absurd (fun i h1 h2 => hZ.out i h1 (by omega)) (pivot hlt HST.out.eqv HST.out.clr HO.out)
        · obtain rfl : n = k := by omega
          obtain ⟨M, r, c, hst⟩ := hS.out
          have HSOL := Lib.hid (solved hst.eqv hst.clr)
          have HST := Lib.hid hst
          have HB2 := Lib.hid hB.out
          have HK2 := Lib.hid (show kz K n + kz K n ≤ 800000 by have := HK.out; omega)
          clear hst hS hB
          go_wp2
          go_loopw [12, 13] (fun o i wr => ∃ (j : Nat) (av : Option Addr) (cv : Nat), i = .int .i64 j ∧ o = .slice av j cv ∧ j ≤ n ∧ Hid (∃ ys, Outs w2.heap.size wr (.slice av j cv) j (fun c => M c n / M c c) ys) ∧ Hid (Below w2.heap.size w2 wr)) (fun _ i _ => n - (intOf i).toNat)
          case atStart => exact ⟨0, none, 0, rfl, rfl, Nat.zero_le _, Lib.hid ⟨_, Outs.zero _ _ _⟩, Lib.hid (Below.refl _ _)⟩
          case round =>
            obtain ⟨j, av, cv, rfl, rfl, hj, hO, hB⟩ := hrel
            obtain ⟨w3, rfl⟩ : ∃ w', w' = wr := ⟨wr, rfl⟩
            have hz3 := hB.out.size
            rcases Nat.lt_or_ge j n with hjl | hjg
            · obtain ⟨ys, ho⟩ := hO.out
              have HO3 := Lib.hid ho
              have HB3 := Lib.hid hB.out
              have HM3 := Lib.hid (HST.out.mat.below hB.out)
              have hT := HM3.out.top j hjl
              have lb : b0 < w3.heap.size := by have := HM3.out.own; omega
              have lj : r j < w3.heap.size := by have := HM3.out.row j hjl; have := HM3.out.own; omega
              obtain ⟨s, aa, m, d, s2, a2, m2, d2, g0, g1, g2, g3, hqr⟩ := HM3.out.get hjl (show n < n + 1 by omega)
              obtain ⟨s', aa', m', d', s2', a2', m2', d2', g0', g1', g2', g3', hkr⟩ := HM3.out.get hjl (show j < n + 1 by omega)
              have HDV := Lib.hid (fun (w' : World) (hb : Below w3.heap.size w3 w') => ratioDiv_any _ _ _ _ _ (kz K n) (kz K n) w' (hqr.below hb) (hkr.below hb) (HST.out.clr.d j hjl) (HST.out.sz j n hjl (by omega)) (HST.out.sz j j hjl (by omega)) HK2.out)
              obtain ⟨rj, hrj⟩ : ∃ x, x = r j := ⟨_, rfl⟩
              rw [← hrj] at hT g0 g1 g2 g3 g0' g1' g2' g3' lj
              obtain ⟨xj, hxj⟩ : ∃ x, x = M j n / M j j := ⟨_, rfl⟩
              rw [← hxj] at HDV
              have HXJ := Lib.hid hxj
              have j0 : (0 : Int) ≤ (j : Int) := by omega
              have j1 : (j : Int) < (n : Int) := by omega
              have j2 : (j : Int) < (n : Int) + 1 := by omega
              have n0 : (n : Int) < (n : Int) + 1 := by omega
              clear hqr hkr hrj hxj ho hO hB
              go_wp2
              refine wp_region_laterY (B := w3.heap.size) [0, 1, 2, 3, 4, 5, 6, 7, 8, 9, 10, 11, 12, 13, 14] [15, 16] [17, 18] (by kernel_rfl) (by kernel_rfl) ?_; simp only [List.filterMap_cons, List.filterMap_nil, List.getElem?_cons_zero, List.getElem?_cons_succ]; repeat (show wpQuiet _ _ _ _ (_ :: _) _; go_big_quiet_step (fail))
              refine wpQuiet_nil ?_
              refine tailY_cons ?_
              go_wp2_with fail
              refine (HDV.out _ (by (repeat' (first | (with_reducible exact Below.refl _ _) | (with_reducible assumption) | (with_reducible refine Below.drewN ?_ _) | (with_reducible refine Below.alloc ?_ ?_ _) | (with_reducible refine Below.drew ?_) | (with_reducible refine Below.setCell ?_ ?_ _) | (with_reducible refine Below.step (by assumption) ?_ ?_) | (with_reducible exact And.left (by assumption)) | go_size)))).mono ?_
              rintro e5 w5 ⟨v5, rfl, hb5, hr5⟩
              have hz5 := hb5.size
              simp only [World.size_drew] at hz5
              have HN5 := Lib.hid (show Below w3.heap.size w3 w5 from (Below.refl w3.heap.size w3).drew.trans hb5)
              have HR5 := Lib.hid (hr5.mono (p' := fun b => w3.heap.size ≤ b) (fun b hb => by simpa using hb))
              obtain ⟨s5, a5, n5, c5, t5, b5, m5, d5, rfl, _, _⟩ := hr5
              have HO5 := Lib.hid (owns_below HO3.out.own HN5.out (fun q hq => (HO3.out.own.lt q hq).2))
              clear hb5 HDV g0 g1 g2 g3 g0' g1' g2' g3' hT
              go_wp2_with fail
              refine tailL_mk HN5.out ?_
              refine tailY_cons ?_
              go_wp2_with fail
              refine tailL_mk (HN5.out.alloc hz5 _) ?_
              refine tailY_ends ?_
              refine ends_cons ?_
              go_wp2_with (at_builtin; refine append_g _ rfl _ _ 94 101 _ 4 64 Tryz.underlying94 infoRatio rfl (by omega) rfl w2.heap.size j w5.heap.size (.slice av j cv) ys [.int .i64 s5, .slice a5 n5 c5, .int .i64 t5, .slice b5 m5 d5] rfl (HO5.out.alloc _) rfl rfl (fun i u hu => ?_) (fun u hu => ?_) (by omega) (by omega) (by simp; omega) ?_)
              · rcases i with _ | _ | _ | _ | i
                · simp at hu; subst hu; go_simp
                · simp at hu; subst hu; go_simp
                · simp at hu; subst hu; go_simp
                · simp at hu; subst hu; go_simp
                · simp at hu
              · simp at hu; rcases hu with rfl | rfl | rfl | rfl <;> rfl
              intro v7 w7 hown7 hg7 hv7 hb7
              obtain ⟨av2, cv2, rfl, _, _⟩ := owns_slice hown7
              have HO7 := Lib.hid (HO3.out.next HN5.out (by rw [HXJ.out] at HR5; exact HR5.out) ((Below.refl _ _).alloc (Nat.le_refl _) _) hown7 hg7 (by simpa using hv7))
              have HB7 := Lib.hid (show Below w2.heap.size w2 w7 from ((HB3.out.trans (HN5.out.mono hz3)).alloc (by omega) _).trans hb7)
              clear hown7 hg7 hv7 hb7
              refine tailZ_end ?_
              refine ends_cons ?_
              go_wp2_with fail
              refine tailZ_end ?_
              refine ends_nil ?_
              go_wp2
              go_roundw
              case rel => exact ⟨j + 1, av2, cv2, by go_num, rfl, by omega, Lib.hid ⟨_, HO7.out⟩, HB7⟩
              case measure => simp [intOf]; omega
            · obtain rfl : n = j := by omega
              obtain ⟨ys, ho⟩ := hO.out
              have HO3 := Lib.hid ho
              have HB3 := Lib.hid (HB2.out.trans (hB.out.mono hz2))
              clear ho hO hB
              go_wp2
              refine bodyPost_ret (v := .tuple #[.slice av n cv, .bool true]) (by simp [results, Tryz.results119, go_sem, *]) rfl ⟨_, _, rfl, HB3.out, _, ys, HSOL.out, SlN.of_owns HO3.out.own hz2, fun k hk => (HO3.out.ent k hk).mono (fun b hb => hb.2)⟩
end Go.Proofs.YtbjgklifmillgaaGreat
