import Derived.Test.YtidboecjllaofaaGreatTRefG
import Derived.Test.YtidboecjllaofaaGreatUTRat
/- Every load between: currents and voltages are straight lines in the load, in plain words. -/
namespace Go.Proofs.YtidboecjllaofaaGreat
set_option linter.unusedVariables false
def Aff (f : Int → Rat) : Prop := ∀ a b c : Int, ((b : Rat) - a) * f c = ((b : Rat) - c) * f a + ((c : Rat) - a) * f b
theorem Aff.const (q : Rat) : Aff (fun _ => q) := fun a b c => by grind
theorem Aff.id : Aff (fun x => (x : Rat)) := fun a b c => by grind
theorem Aff.sub {f g : Int → Rat} (hf : Aff f) (hg : Aff g) : Aff (fun x => f x - g x) := fun a b c => by
 have h1 := hf a b c
 have h2 := hg a b c
 simp only
 grind
theorem Aff.mul {f : Int → Rat} (hf : Aff f) (q : Rat) : Aff (fun x => f x * q) := fun a b c => by
 have h1 := hf a b c
 simp only
 calc ((b : Rat) - a) * (f c * q) = (((b : Rat) - a) * f c) * q := by grind
  _ = (((b : Rat) - c) * f a + ((c : Rat) - a) * f b) * q := by rw [h1]
  _ = ((b : Rat) - c) * (f a * q) + ((c : Rat) - a) * (f b * q) := by grind
theorem Aff.between {f : Int → Rat} (hf : Aff f) {a b c : Int} (hac : a ≤ c) (hcb : c ≤ b) {q : Rat} (ha : f a ≤ q) (hb : f b ≤ q) : f c ≤ q := by
 rcases Decidable.em (a = b) with h | h
 ·have : c = a := by omega
  rw [this]; exact ha
 ·have h1 := hf a b c
  have e1 : (0 : Rat) < (b : Rat) - a := by
   have : (a : Rat) < b := Rat.intCast_lt_intCast.2 (by omega)
   grind
  have e2 : (0 : Rat) ≤ (b : Rat) - c := by
   have : (c : Rat) ≤ b := Rat.intCast_le_intCast.2 hcb
   grind
  have e3 : (0 : Rat) ≤ (c : Rat) - a := by
   have : (a : Rat) ≤ c := Rat.intCast_le_intCast.2 hac
   grind
  have h2 : ((b : Rat) - c) * f a ≤ ((b : Rat) - c) * q := Rat.mul_le_mul_of_nonneg_left ha e2
  have h3 : ((c : Rat) - a) * f b ≤ ((c : Rat) - a) * q := Rat.mul_le_mul_of_nonneg_left hb e3
  have h4 : ((b : Rat) - a) * f c ≤ ((b : Rat) - a) * q := by
   rw [h1]
   grind
  exact Rat.le_of_mul_le_mul_left h4 e1
theorem numL_load (m : Mac) (l : Lim) (load : Int) : ∀ L, numL m l load L = numL m l 0 L - load * 2520 := by
 refine snoc_ind ?_ ?_
 ·unfold numL
  simp only [List.foldl_nil]
  omega
 ·intro L k ih
  rw [numL_snoc, numL_snoc, ih]
  omega
theorem outQ_aff {m : Mac} {l : Lim} {s : Nat} (hD : (cloU s 6).find? (isRes m) = none → 0 < denL m (cloU s 6)) : Aff (fun load => outQ m l s load) := by
 cases hf : (cloU s 6).find? (isRes m) with
 | some k =>
  have : (fun load => outQ m l s load) = fun _ => ((volA m l k : Int) : Rat) := funext fun load => outQ_res hf
  rw [this]
  exact Aff.const _
 | none =>
  have hd := hD hf
  have : (fun load => outQ m l s load) = fun (load : Int) => (((numL m l 0 (cloU s 6) : Int) : Rat) - (load : Rat) * ((2520 : Int) : Rat)) * ((denL m (cloU s 6) : Int) : Rat)⁻¹ := by
   funext load
   unfold outQ outT
   rw [hf]
   simp only
   rw [low_rat hd, frR_divInt, Rat.divInt_eq_div, numL_load, Rat.intCast_sub, Rat.intCast_mul, Rat.div_def]
  rw [this]
  exact Aff.mul (Aff.sub (Aff.const _) (Aff.mul Aff.id _)) _
theorem zQ_aff_res {m : Mac} {l : Lim} {s : Nat} {k : Nat} (ho : Aff (fun load => outQ m l s load)) (hv : ∀ load, 0 < (outT m l s load).2) (hc : k ∈ cloU s 6) (hn : isRes m k = false) (hr : 1 ≤ (bAt m.br k).res) (hr1 : (bAt m.br k).res ≤ 10) : Aff (fun load => zQ m l s load k) := by
 have : (fun load => zQ m l s load k) = fun load => (((volA m l k : Int) : Rat) - outQ m l s load) * (((bAt m.br k).res : Int) : Rat)⁻¹ := by
  funext load
  rw [← zQ_res (hv load) hc hn hr hr1, Rat.div_def]
 rw [this]
 exact Aff.mul (Aff.sub (Aff.const _) ho) _
structure AffV (m : Mac) (l : Lim) (s : Nat) : Prop where
 hm : MacV m
 hl : 0 ≤ l.volt ∧ l.volt ≤ 1000
 hs : s < 2 ^ m.br.length
 h0 : s ≠ 0
theorem AffV.el {m : Mac} {l : Lim} {s : Nat} (h : AffV m l s) {load : Int} (hd : -1000 ≤ load ∧ load ≤ 1000) : ElV m l s load := ⟨h.hm, h.hl, hd, h.hs, h.h0⟩
theorem AffV.den {m : Mac} {l : Lim} {s : Nat} (h : AffV m l s) (hf : (cloU s 6).find? (isRes m) = none) : 0 < denL m (cloU s 6) := by
 have h0 := h.el (load := 0) (by omega)
 have hsd := (sums_bd h.hm h.hl (load := 0) (by decide) (cloU s 6) (fun k hk => ⟨h0.lt k hk, by have := List.find?_eq_none.1 hf k hk; unfold isRes at this; simpa using this⟩)).2.1
 have hne := clo_ne s h0.s64 h.h0
 omega
theorem AffV.pos {m : Mac} {l : Lim} {s : Nat} (h : AffV m l s) (load : Int) : 0 < (outT m l s load).2 := by
 unfold outT
 cases hf : (cloU s 6).find? (isRes m) with
 | some k => exact Int.zero_lt_one
 | none => exact (low_props (h.den hf)).2.1
theorem AffV.out {m : Mac} {l : Lim} {s : Nat} (h : AffV m l s) : Aff (fun load => outQ m l s load) := outQ_aff (fun hf => h.den hf)
theorem AffV.z {m : Mac} {l : Lim} {s : Nat} (h : AffV m l s) (k : Nat) : Aff (fun load => zQ m l s load k) := by
 have h0 := h.el (load := 0) (by omega)
 have res : ∀ j, j ∈ cloU s 6 → isRes m j = false → Aff (fun load => zQ m l s load j) := by
  intro j hj hn
  obtain ⟨_, r0, r1⟩ := h.hm.br j (h0.lt j hj)
  have hne : (bAt m.br j).res ≠ 0 := by unfold isRes at hn; simpa using hn
  exact zQ_aff_res h.out h.pos hj hn (by omega) r1
 by_cases hk : k ∈ cloU s 6 ∧ isRes m k = false
 ·exact res k hk.1 hk.2
 ·by_cases hd : (k : Int) = dirD m (cloU s 6)
  ·have hr : isRes m k = true := by
     rcases dirD_cases m (cloU s 6) with ⟨h1, _⟩ | ⟨d, h1, h2, h3⟩
     ·omega
     ·rw [show k = d by omega]; exact h2
   have e : (fun load => zQ m l s load k) = fun load => rstQ m l load (outT m l s load).1 (outT m l s load).2 (cloU s 6) := funext fun load => zQ_dir hr hd
   rw [e]
   have key : ∀ L : List Nat, (∀ j ∈ L, j ∈ cloU s 6) → Aff (fun load => rstQ m l load (outT m l s load).1 (outT m l s load).2 L) := by
    refine snoc_ind ?_ ?_
    ·intro _
     have : (fun load => rstQ m l load (outT m l s load).1 (outT m l s load).2 []) = fun load => ((load : Int) : Rat) := funext fun load => rstQ_nil (h.pos load)
     rw [this]
     exact Aff.id
    ·intro L j ih hL
     have ih := ih (fun i hi => hL i (List.mem_append_left _ hi))
     have hj := hL j (by simp)
     cases hrj : isRes m j
     ·have : (fun load => rstQ m l load (outT m l s load).1 (outT m l s load).2 (L ++ [j])) = fun load => rstQ m l load (outT m l s load).1 (outT m l s load).2 L - zQ m l s load j := funext fun load => (rstQ_snoc (h.pos load) hj hrj).symm
      rw [this]
      exact Aff.sub ih (res j hj hrj)
     ·have : (fun load => rstQ m l load (outT m l s load).1 (outT m l s load).2 (L ++ [j])) = fun load => rstQ m l load (outT m l s load).1 (outT m l s load).2 L := funext fun load => rstQ_res hrj
      rw [this]
      exact ih
   exact key _ (fun j hj => hj)
  ·have e : (fun load => zQ m l s load k) = fun _ => ((0 : Int) : Rat) := funext fun load => zQ_off hk hd
   rw [e]
   exact Aff.const _
theorem sz_le_iff (q : Rat) (n : Int) : ¬ n * (q.den : Int) < sz q.num ↔ (q ≤ (n : Rat) ∧ (-(n : Rat)) ≤ q) := by
 have hd := den_pos q
 have e1 : q ≤ (n : Rat) ↔ q.num ≤ n * (q.den : Int) := by
  rw [Rat.le_iff]
  simp
 have e2 : (-(n : Rat)) ≤ q ↔ -(n * (q.den : Int)) ≤ q.num := by
  rw [← Rat.intCast_neg, Rat.le_iff]
  simp [Int.neg_mul]
 rw [e1, e2]
 unfold sz
 omega
theorem brkC_z {m : Mac} {l : Lim} {s i : Nat} {load : Int} (h : ElV m l s load) (hi : i < m.br.length) : brkC m l s i load = (sz (zQ m l s load i).num, ((zQ m l s load i).den : Int)) := by
 unfold brkC
 rw [← frR_z h hi]; rfl
theorem brkV_q {m : Mac} {l : Lim} {s i : Nat} {load : Int} (h : ElV m l (trn s i) load) : brkV m l s i load = (sz (brkQ m l s i load).num, ((brkQ m l s i load).den : Int)) := by
 unfold brkV
 rw [← brkQ_frR (s := s) (i := i) h]; rfl
theorem lodE_zero {m : Mac} {l : Lim} {s i : Nat} {load : Int} (h : lodE m l s i load = 0) : ¬ l.brk * (brkC m l s i load).2 < (brkC m l s i load).1 ∧ ¬ l.ret * (brkV m l s i load).2 < (brkV m l s i load).1 := by
 unfold lodE at h
 split at h
 ·exact absurd h (by decide)
 ·split at h
  ·exact absurd h (by decide)
  ·rename_i h1 h2; exact ⟨h1, h2⟩
theorem lod_between {m : Mac} {l : Lim} {s i : Nat} (h1 : AffV m l s) (h2 : AffV m l (trn s i)) (hi : i < m.br.length) {a b c : Int} (ha : -1000 ≤ a) (hb : b ≤ 1000) (hac : a ≤ c) (hcb : c ≤ b) (ea : lodE m l s i a = 0) (eb : lodE m l s i b = 0) :
    ¬ l.brk * (brkC m l s i c).2 < (brkC m l s i c).1 ∧ ¬ l.ret * (brkV m l s i c).2 < (brkV m l s i c).1 := by
 obtain ⟨a1, a2⟩ := lodE_zero ea
 obtain ⟨b1, b2⟩ := lodE_zero eb
 rw [brkC_z (h1.el (by omega)) hi, sz_le_iff] at a1 b1 ⊢
 rw [brkV_q (h2.el (by omega)), sz_le_iff] at a2 b2 ⊢
 have neg : ∀ {f : Int → Rat}, Aff f → Aff (fun x => (0 : Rat) - f x) := fun hf => Aff.sub (Aff.const 0) hf
 have hq : Aff (fun load => brkQ m l s i load) := Aff.sub (Aff.const _) h2.out
 refine ⟨⟨(h1.z i).between hac hcb a1.1 b1.1, ?_⟩, hq.between hac hcb a2.1 b2.1, ?_⟩
 ·have h3 := (neg (h1.z i)).between hac hcb (q := (l.brk : Rat)) (by have := a1.2; grind) (by have := b1.2; grind)
  grind
 ·have h3 := (neg hq).between hac hcb (q := (l.ret : Rat)) (by have := a2.2; grind) (by have := b2.2; grind)
  grind
theorem volA_congr {m : Mac} {l l' : Lim} (h : l'.volt = l.volt) : volA m l' = volA m l := by funext k; unfold volA; rw [h]
theorem numL_congr {m : Mac} {l l' : Lim} (h : l'.volt = l.volt) (load : Int) (L : List Nat) : numL m l' load L = numL m l load L := by unfold numL; rw [volA_congr h]
theorem outT_congr {m : Mac} {l l' : Lim} (h : l'.volt = l.volt) (s : Nat) (load : Int) : outT m l' s load = outT m l s load := by
 unfold outT
 rw [volA_congr h, numL_congr h]
theorem ovr_congr {m : Mac} {l l' : Lim} (h : l'.volt = l.volt) (N D : Int) : ovr m l' N D = ovr m l N D := by funext k; unfold ovr; rw [volA_congr h]
theorem rstZ_congr {m : Mac} {l l' : Lim} (h : l'.volt = l.volt) (load N D : Int) (L : List Nat) : rstZ m l' load N D L = rstZ m l load N D L := by unfold rstZ; rw [ovr_congr h]
theorem zcur_congr {m : Mac} {l l' : Lim} (h : l'.volt = l.volt) (s : Nat) (load : Int) (k : Nat) : zcur m l' s load k = zcur m l s load k := by
 unfold zcur
 rw [outT_congr h, ovr_congr h, rstZ_congr h]
theorem cirZ_congr {m : Mac} {l l' : Lim} (h : l'.volt = l.volt) (s : Nat) : ∀ k, cirZ m l' s k = cirZ m l s k
 | 0 => rfl
 | k + 1 => by
  have ih := cirZ_congr (m := m) h s k
  unfold cirZ
  rw [ih, zcur_congr h]
theorem cirA_congr {m : Mac} {l l' : Lim} (h : l'.volt = l.volt) (s : Nat) : cirA m l' s = cirA m l s := by
 unfold cirA cirF comD
 rw [cirZ_congr h, outT_congr h]
theorem curL_congr {m : Mac} {l l' : Lim} (h : l'.volt = l.volt) (N D : Int) (n : Nat) (L : List Nat) : curL m l' N D n L = curL m l N D n L := by
 unfold curL
 refine List.map_congr_left fun k _ => ?_
 unfold curA
 rw [ovr_congr h]
theorem curT_congr {m : Mac} {l l' : Lim} (h : l'.volt = l.volt) (s : Nat) (load : Int) : curT m l' s load = curT m l s load := by
 unfold curT rstA
 rw [outT_congr h, curL_congr h, rstZ_congr h]
theorem brkC_congr {m : Mac} {l l' : Lim} (h : l'.volt = l.volt) (s i : Nat) (load : Int) : brkC m l' s i load = brkC m l s i load := by unfold brkC; rw [curT_congr h]
theorem brkV_congr {m : Mac} {l l' : Lim} (h : l'.volt = l.volt) (s i : Nat) (load : Int) : brkV m l' s i load = brkV m l s i load := by
 unfold brkV brkW
 rw [outT_congr h, volA_congr h]
theorem safE_wider {m : Mac} {l l' : Lim} {s : Nat} (h : l'.volt = l.volt) (hc : l.circ ≤ l'.circ) (hd : 0 ≤ (cirA m l s).2) (hs : safE m l s = 0) : safE m l' s = 0 := by
 unfold safE at hs ⊢
 rw [cirA_congr h]
 split at hs
 ·rename_i h1; exact absurd hs h1
 ·rename_i h1
  rw [if_neg h1]
  split at hs
  ·exact absurd hs (by decide)
  ·rename_i h2
   have := Int.mul_le_mul_of_nonneg_right hc hd
   rw [if_neg (by omega)]
theorem chgE_parts {m : Mac} {l : Lim} {s i : Nat} (h : chgE m l s i = 0) : mayB m s i = true ∧ curE m s = 0 ∧ safE m l (trn s i) = 0 ∧ (s.testBit i = true → lodE m l s i l.lo = 0 ∧ lodE m l s i l.hi = 0) := by
 unfold chgE at h
 split at h
 ·exact absurd h (by decide)
 ·rename_i h1
  split at h
  ·rename_i h2; exact absurd h h2
  ·rename_i h2
   split at h
   ·rename_i h3; exact absurd h h3
   ·rename_i h3
    refine ⟨by simpa using h1, Decidable.not_not.1 h2, Decidable.not_not.1 h3, fun ht => ?_⟩
    rw [if_neg (by rw [ht]; decide)] at h
    split at h
    ·rename_i h4; exact absurd h h4
    ·rename_i h4; exact ⟨Decidable.not_not.1 h4, h⟩
theorem chgE_wider {m : Mac} {l l' : Lim} {s i : Nat} (h : l'.volt = l.volt) (hlo : l'.lo = l.lo) (hhi : l'.hi = l.hi) (hc : l.circ ≤ l'.circ) (hb : l.brk ≤ l'.brk) (hr : l.ret ≤ l'.ret) (hd : 0 ≤ (cirA m l (trn s i)).2)
    (hb2 : ∀ load, load = l.lo ∨ load = l.hi → 0 ≤ (brkC m l s i load).2 ∧ 0 ≤ (brkV m l s i load).2) (hg : chgE m l s i = 0) : chgE m l' s i = 0 := by
 obtain ⟨g1, g2, g3, g4⟩ := chgE_parts hg
 have lod : ∀ load, load = l.lo ∨ load = l.hi → lodE m l s i load = 0 → lodE m l' s i load = 0 := by
  intro load hx e
  obtain ⟨e1, e2⟩ := lodE_zero e
  unfold lodE
  rw [brkC_congr h, brkV_congr h]
  have t1 := Int.mul_le_mul_of_nonneg_right hb (hb2 load hx).1
  have t2 := Int.mul_le_mul_of_nonneg_right hr (hb2 load hx).2
  rw [if_neg (by omega), if_neg (by omega)]
 unfold chgE
 rw [if_neg (by rw [g1]; decide), if_neg (by rw [g2]; decide), safE_wider h hc hd g3, if_neg (by decide)]
 split
 ·rfl
 ·rename_i ht
  have ht : s.testBit i = true := by simpa using ht
  obtain ⟨g5, g6⟩ := g4 ht
  rw [hlo, hhi, lod _ (.inl rfl) g5, lod _ (.inr rfl) g6, if_neg (by decide)]
end Go.Proofs.YtidboecjllaofaaGreat
