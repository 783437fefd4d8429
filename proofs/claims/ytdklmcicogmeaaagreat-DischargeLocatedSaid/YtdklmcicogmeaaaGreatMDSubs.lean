import Derived.Test.YtdklmcicogmeaaaGreatProg
import Derived.Test.YtdklmcicogmeaaaGreatMLib
import Derived.Test.YtdklmcicogmeaaaGreatMPlain0
import Derived.Test.YtdklmcicogmeaaaGreatMQTail
/- Subsets in order: by size and lexicographically, or by bits with an insertion. No program in sight. -/
namespace Go.Proofs.YtdklmcicogmeaaaGreat
set_option linter.unusedVariables false

/-- All sets of k numbers from f on, below c, in lexicographic order. -/
def ext (c : Nat) : Nat → Nat → List (List Nat)
  | 0, _ => [[]]
  | k + 1, f => (List.range' f (c - f)).flatMap (fun n => (ext c k (n + 1)).map (n :: ·))
/-- The lexicographic order. -/
def bef : List Nat → List Nat → Bool
  | [], [] => false
  | [], _ :: _ => true
  | _ :: _, [] => false
  | a :: r, b :: t => if a = b then bef r t else decide (a < b)
theorem bef_irrefl : ∀ l, bef l l = false
  | [] => rfl
  | a :: r => by simp [bef, bef_irrefl r]
theorem bef_trans : ∀ a b c, bef a b = true → bef b c = true → bef a c = true
  | _, b, [], _, h => by cases b <;> simp [bef] at h
  | [], _, _ :: _, _, _ => rfl
  | _ :: _, [], _, h, _ => by simp [bef] at h
  | a :: r, b :: t, c :: u, h1, h2 => by
    have ih := bef_trans r t u
    simp only [bef] at h1 h2 ⊢
    by_cases e1 : a = b
    · subst e1
      simp only [if_true] at h1
      by_cases e2 : a = c
      · subst e2; simp only [if_true] at h2 ⊢; exact ih h1 h2
      · simp only [e2, if_false] at h2 ⊢; exact h2
    · simp only [e1, if_false, decide_eq_true_eq] at h1
      by_cases e2 : b = c
      · subst e2; simp only [e1, if_false, decide_eq_true_eq]; exact h1
      · simp only [e2, if_false, decide_eq_true_eq] at h2
        have : a ≠ c := by omega
        simp only [this, if_false, decide_eq_true_eq]; omega
theorem bef_tri : ∀ a b, bef a b = false → a ≠ b → bef b a = true
  | [], [], _, h => absurd rfl h
  | [], _ :: _, h, _ => by simp [bef] at h
  | _ :: _, [], _, _ => rfl
  | a :: r, b :: t, h, hne => by
    simp only [bef] at h ⊢
    by_cases e : a = b
    · subst e
      simp only [if_true] at h ⊢
      exact bef_tri r t h (fun e => hne (by rw [e]))
    · simp only [e, if_false, decide_eq_false_iff_not] at h
      have : b ≠ a := fun e' => e e'.symm
      simp only [this, if_false, decide_eq_true_eq]; omega
theorem ext_mem (c : Nat) : ∀ k f s, s ∈ ext c k f ↔ s.length = k ∧ s.Pairwise (· < ·) ∧ ∀ x ∈ s, f ≤ x ∧ x < c
  | 0, f, s => by
    simp only [ext, List.mem_singleton]
    constructor
    · rintro rfl; simp
    · rintro ⟨h, _⟩; exact List.eq_nil_of_length_eq_zero h
  | k + 1, f, s => by
    simp only [ext, List.mem_flatMap, List.mem_range'_1, List.mem_map]
    constructor
    · rintro ⟨n, hn, t, ht, rfl⟩
      obtain ⟨h1, h2, h3⟩ := (ext_mem c k (n + 1) t).1 ht
      refine ⟨by simp [h1], ?_, ?_⟩
      · rw [List.pairwise_cons]
        exact ⟨fun x hx => by have := h3 x hx; omega, h2⟩
      · intro x hx
        rcases List.mem_cons.1 hx with rfl | hx
        · omega
        · have := h3 x hx; omega
    · rintro ⟨h1, h2, h3⟩
      cases s with
      | nil => simp at h1
      | cons n t =>
        rw [List.pairwise_cons] at h2
        have hn := h3 n (by simp)
        refine ⟨n, by omega, t, (ext_mem c k (n + 1) t).2 ⟨by simpa using h1, h2.2, fun x hx => ?_⟩, rfl⟩
        have := h2.1 x hx
        have := h3 x (by simp [hx])
        omega
theorem ext_sorted (c : Nat) : ∀ k f, (ext c k f).Pairwise (fun a b => bef a b = true)
  | 0, f => by simp [ext]
  | k + 1, f => by
    simp only [ext]
    rw [List.pairwise_flatMap]
    refine ⟨fun n _ => ?_, ?_⟩
    · rw [List.pairwise_map]
      exact (ext_sorted c k (n + 1)).imp (fun h => by simp only [bef, if_true]; exact h)
    · refine (List.pairwise_lt_range' (s := f) (n := c - f)).imp ?_
      intro a b hab x hx y hy
      obtain ⟨s, _, rfl⟩ := List.mem_map.1 hx
      obtain ⟨t, _, rfl⟩ := List.mem_map.1 hy
      have : a ≠ b := by omega
      simp only [bef, this, if_false, decide_eq_true_eq]; exact hab
/-- Two sorted lists with the same members are equal. -/
theorem sorted_eq : ∀ {a b : List (List Nat)}, a.Pairwise (fun x y => bef x y = true) → b.Pairwise (fun x y => bef x y = true) → (∀ x, x ∈ a ↔ x ∈ b) → a = b
  | [], [], _, _, _ => rfl
  | [], y :: r, _, _, h => by have := (h y).2 (by simp); simp at this
  | x :: r, [], _, _, h => by have := (h x).1 (by simp); simp at this
  | x :: r, y :: t, h1, h2, h => by
    rw [List.pairwise_cons] at h1 h2
    have hxy : x = y := by
      rcases List.mem_cons.1 ((h x).1 (by simp)) with e | e
      · exact e
      · rcases List.mem_cons.1 ((h y).2 (by simp)) with e' | e'
        · exact e'.symm
        · have := bef_trans x y x (h1.1 y e') (h2.1 x e)
          rw [bef_irrefl] at this; cases this
    subst hxy
    congr 1
    refine sorted_eq h1.2 h2.2 (fun z => ?_)
    constructor
    · intro hz
      rcases List.mem_cons.1 ((h z).1 (by simp [hz])) with e | e
      · subst e; have := h1.1 z hz; rw [bef_irrefl] at this; cases this
      · exact e
    · intro hz
      rcases List.mem_cons.1 ((h z).2 (by simp [hz])) with e | e
      · subst e; have := h2.1 z hz; rw [bef_irrefl] at this; cases this
      · exact e
/-- A set put among others, in order. -/
def insB (s : List Nat) : List (List Nat) → List (List Nat)
  | [] => [s]
  | o :: r => if bef s o = true then s :: o :: r else o :: insB s r
theorem insB_mem (s x : List Nat) : ∀ l, x ∈ insB s l ↔ x = s ∨ x ∈ l
  | [] => by simp [insB]
  | o :: r => by
    unfold insB
    split
    · simp
    · rw [List.mem_cons, insB_mem s x r, List.mem_cons]
      constructor <;> rintro (h | h | h) <;> simp [h]
theorem insB_sorted {s : List Nat} : ∀ {l : List (List Nat)}, l.Pairwise (fun x y => bef x y = true) → s ∉ l → (insB s l).Pairwise (fun x y => bef x y = true)
  | [], _, _ => by simp [insB]
  | o :: r, h, hn => by
    rw [List.pairwise_cons] at h
    unfold insB
    split
    · rename_i hb
      rw [List.pairwise_cons, List.pairwise_cons]
      refine ⟨fun y hy => ?_, h⟩
      rcases List.mem_cons.1 hy with rfl | hy
      · exact hb
      · exact bef_trans _ _ _ hb (h.1 y hy)
    · rename_i hb
      rw [List.pairwise_cons]
      refine ⟨fun y hy => ?_, insB_sorted h.2 (fun e => hn (by simp [e]))⟩
      rcases (insB_mem s y r).1 hy with rfl | hy
      · exact bef_tri _ _ (by simpa using hb) (fun e => hn (by simp [e]))
      · exact h.1 y hy
/-- One set more: all that are kept are of one size, the least so far. -/
def keepB (p : List Nat → Bool) (out : List (List Nat)) (s : List Nat) : List (List Nat) :=
  if p s = false ∨ (out ≠ [] ∧ (out.headD []).length < s.length) then out
  else insB s (if out ≠ [] ∧ s.length < (out.headD []).length then [] else out)
/-- What is kept of the sets L. -/
def Kept (p : List Nat → Bool) (L out : List (List Nat)) : Prop :=
  out.Pairwise (fun x y => bef x y = true) ∧ (∀ x, x ∈ out ↔ x ∈ L ∧ p x = true ∧ ∀ y ∈ L, p y = true → x.length ≤ y.length) ∧ ((∃ x ∈ L, p x = true) → out ≠ [])
theorem kept_step {p : List Nat → Bool} {L out : List (List Nat)} {s : List Nat} (h : Kept p L out) (hs : s ∉ L) : Kept p (L ++ [s]) (keepB p out s) := by
  obtain ⟨h1, h2, h3⟩ := h
  have hlen : ∀ x ∈ out, x.length = (out.headD []).length := by
    cases out with
    | nil => simp
    | cons o r =>
      intro x hx
      have a1 := (h2 x).1 hx
      have a2 := (h2 o).1 (by simp)
      have b1 := a1.2.2 o a2.1 a2.2.1
      have b2 := a2.2.2 x a1.1 a1.2.1
      simp only [List.headD_cons]; omega
  have hso : s ∉ out := fun e => hs ((h2 s).1 e).1
  have hmem : ∀ x, x ∈ L ++ [s] ↔ x ∈ L ∨ x = s := fun x => by simp
  unfold keepB
  by_cases hp : p s = false
  · rw [if_pos (.inl hp)]
    refine ⟨h1, fun x => ?_, fun hex => h3 ?_⟩
    · rw [h2 x, hmem]
      constructor
      · rintro ⟨a, b, c⟩
        refine ⟨.inl a, b, fun y hy hpy => ?_⟩
        rcases (hmem y).1 hy with hy | rfl
        · exact c y hy hpy
        · rw [hp] at hpy; cases hpy
      · rintro ⟨a | rfl, b, c⟩
        · exact ⟨a, b, fun y hy hpy => c y ((hmem y).2 (.inl hy)) hpy⟩
        · rw [hp] at b; cases b
    · obtain ⟨x, hx, hpx⟩ := hex
      rcases (hmem x).1 hx with hx | rfl
      · exact ⟨x, hx, hpx⟩
      · rw [hp] at hpx; cases hpx
  · have hp' : p s = true := by simpa using hp
    by_cases hne : out = []
    · have hno : ∀ y ∈ L, p y = false := fun y hy => by
        rcases Bool.eq_false_or_eq_true (p y) with e | e
        · exact absurd hne (h3 ⟨y, hy, e⟩)
        · exact e
      subst hne
      rw [if_neg (by simp [hp']), if_neg (by simp)]
      refine ⟨by simp [insB], fun x => ?_, fun _ => by simp [insB]⟩
      simp only [insB, List.mem_singleton, hmem]
      constructor
      · rintro rfl
        refine ⟨.inr rfl, hp', fun y hy hpy => ?_⟩
        rcases hy with hy | rfl
        · rw [hno y hy] at hpy; cases hpy
        · exact Nat.le_refl _
      · rintro ⟨a | a, b, c⟩
        · rw [hno x a] at b; cases b
        · exact a
    · obtain ⟨o, ho⟩ := List.exists_mem_of_ne_nil out hne
      have hol := hlen o ho
      have ho2 := (h2 o).1 ho
      by_cases hlt : (out.headD []).length < s.length
      · rw [if_pos (.inr ⟨hne, hlt⟩)]
        refine ⟨h1, fun x => ?_, fun _ => hne⟩
        rw [h2 x, hmem]
        constructor
        · rintro ⟨a, b, c⟩
          refine ⟨.inl a, b, fun y hy hpy => ?_⟩
          rcases (hmem y).1 hy with hy | rfl
          · exact c y hy hpy
          · have := c o ho2.1 ho2.2.1; omega
        · rintro ⟨a | rfl, b, c⟩
          · exact ⟨a, b, fun y hy hpy => c y ((hmem y).2 (.inl hy)) hpy⟩
          · have := c o ((hmem o).2 (.inl ho2.1)) ho2.2.1; omega
      · rw [if_neg (fun e => e.elim hp (fun e => hlt e.2))]
        by_cases hgt : s.length < (out.headD []).length
        · rw [if_pos ⟨hne, hgt⟩]
          refine ⟨by simp [insB], fun x => ?_, fun _ => by simp [insB]⟩
          simp only [insB, List.mem_singleton, hmem]
          constructor
          · rintro rfl
            refine ⟨.inr rfl, hp', fun y hy hpy => ?_⟩
            rcases hy with hy | rfl
            · have := ho2.2.2 y hy hpy; omega
            · exact Nat.le_refl _
          · rintro ⟨a | a, b, c⟩
            · have := c s (.inr rfl) hp'
              have := ho2.2.2 x a b; omega
            · exact a
        · rw [if_neg (by rintro ⟨_, e⟩; exact hgt e)]
          have hsl : s.length = (out.headD []).length := by omega
          refine ⟨insB_sorted h1 hso, fun x => ?_, fun _ => ?_⟩
          · rw [insB_mem, h2 x, hmem]
            constructor
            · rintro (rfl | ⟨a, b, c⟩)
              · refine ⟨.inr rfl, hp', fun y hy hpy => ?_⟩
                rcases (hmem y).1 hy with hy | rfl
                · have := ho2.2.2 y hy hpy; omega
                · exact Nat.le_refl _
              · refine ⟨.inl a, b, fun y hy hpy => ?_⟩
                rcases (hmem y).1 hy with hy | rfl
                · exact c y hy hpy
                · have := c o ho2.1 ho2.2.1; omega
            · rintro ⟨a | a, b, c⟩
              · exact .inr ⟨a, b, fun y hy hpy => c y ((hmem y).2 (.inl hy)) hpy⟩
              · exact .inl a
          · intro e
            have := (insB_mem s s out).2 (.inl rfl)
            rw [e] at this; simp at this
theorem kept_fold {p : List Nat → Bool} : ∀ (M L out : List (List Nat)), Kept p L out → (L ++ M).Nodup → Kept p (L ++ M) (M.foldl (keepB p) out)
  | [], L, out, h, _ => by simpa using h
  | s :: M, L, out, h, hn => by
    have hs : s ∉ L := by
      rw [List.nodup_append] at hn
      intro e; exact hn.2.2 s e s (by simp) rfl
    have := kept_fold M (L ++ [s]) _ (kept_step h hs) (by simpa using hn)
    simpa using this
/-- The indexes in a set of bits. -/
def memB : Nat → Nat → Nat → List Nat
  | 0, _, _ => []
  | f + 1, i, n => if n = 0 then [] else if n % 2 = 1 then i :: memB f (i + 1) (n / 2) else memB f (i + 1) (n / 2)
theorem memB_ge : ∀ f i n x, x ∈ memB f i n → i ≤ x
  | 0, i, n, x, h => by simp [memB] at h
  | f + 1, i, n, x, h => by
    unfold memB at h
    split at h
    · simp at h
    · split at h
      · rcases List.mem_cons.1 h with rfl | h
        · exact Nat.le_refl _
        · have := memB_ge f (i + 1) _ x h; omega
      · have := memB_ge f (i + 1) _ x h; omega
theorem memB_lt : ∀ f i n x, n < 2 ^ f → x ∈ memB f i n → x < i + f
  | 0, i, n, x, _, h => by simp [memB] at h
  | f + 1, i, n, x, hn, h => by
    have h2 : n / 2 < 2 ^ f := by rw [Nat.pow_succ] at hn; omega
    unfold memB at h
    split at h
    · simp at h
    · split at h
      · rcases List.mem_cons.1 h with rfl | h
        · omega
        · have := memB_lt f (i + 1) _ x h2 h; omega
      · have := memB_lt f (i + 1) _ x h2 h; omega
theorem memB_sorted : ∀ f i n, (memB f i n).Pairwise (· < ·)
  | 0, i, n => by simp [memB]
  | f + 1, i, n => by
    unfold memB
    split
    · simp
    · split
      · rw [List.pairwise_cons]
        exact ⟨fun x hx => by have := memB_ge f (i + 1) _ x hx; omega, memB_sorted f (i + 1) _⟩
      · exact memB_sorted f (i + 1) _
theorem memB_inj : ∀ f i n m, n < 2 ^ f → m < 2 ^ f → memB f i n = memB f i m → n = m
  | 0, i, n, m, hn, hm, _ => by simp at hn hm; omega
  | f + 1, i, n, m, hn, hm, h => by
    have h2 : n / 2 < 2 ^ f := by rw [Nat.pow_succ] at hn; omega
    have h3 : m / 2 < 2 ^ f := by rw [Nat.pow_succ] at hm; omega
    have ih := memB_inj f (i + 1) (n / 2) (m / 2) h2 h3
    have hz : memB f (i + 1) 0 = [] := by cases f <;> simp [memB]
    have key : ∀ k, memB (f + 1) i k = if k % 2 = 1 then i :: memB f (i + 1) (k / 2) else memB f (i + 1) (k / 2) := fun k => by
      by_cases e : k = 0
      · subst e; simp [memB, hz]
      · simp [memB, e]
    have hi : ∀ k, i ∉ memB f (i + 1) k := fun k hk => by have := memB_ge f (i + 1) k i hk; omega
    rw [key, key] at h
    by_cases e1 : n % 2 = 1 <;> by_cases e2 : m % 2 = 1
    · rw [if_pos e1, if_pos e2] at h
      have := ih (by simpa using h); omega
    · rw [if_pos e1, if_neg e2] at h
      exact absurd (h ▸ List.mem_cons_self) (hi _)
    · rw [if_neg e1, if_pos e2] at h
      exact absurd (h.symm ▸ List.mem_cons_self) (hi _)
    · rw [if_neg e1, if_neg e2] at h
      have := ih h; omega
theorem memB_surj : ∀ f i (s : List Nat), s.Pairwise (· < ·) → (∀ x ∈ s, i ≤ x ∧ x < i + f) → ∃ n, n < 2 ^ f ∧ memB f i n = s
  | 0, i, s, _, h => by
    cases s with
    | nil => exact ⟨0, by simp, rfl⟩
    | cons x r => have := h x (by simp); omega
  | f + 1, i, s, hp, h => by
    have hz : memB f (i + 1) 0 = [] := by cases f <;> simp [memB]
    have key : ∀ k, memB (f + 1) i k = if k % 2 = 1 then i :: memB f (i + 1) (k / 2) else memB f (i + 1) (k / 2) := fun k => by
      by_cases e : k = 0
      · subst e; simp [memB, hz]
      · simp [memB, e]
    cases s with
    | nil => exact ⟨0, Nat.two_pow_pos _, by simp [memB]⟩
    | cons x r =>
      rw [List.pairwise_cons] at hp
      by_cases hx : x = i
      · subst hx
        obtain ⟨n, hn, e⟩ := memB_surj f (x + 1) r hp.2 (fun y hy => by have := hp.1 y hy; have := h y (by simp [hy]); omega)
        refine ⟨2 * n + 1, by rw [Nat.pow_succ]; omega, ?_⟩
        rw [key, if_pos (by omega), show (2 * n + 1) / 2 = n by omega, e]
      · obtain ⟨n, hn, e⟩ := memB_surj f (i + 1) (x :: r) (by rw [List.pairwise_cons]; exact hp) (fun y hy => by
          have h1 := h y hy
          rcases List.mem_cons.1 hy with rfl | hy
          · omega
          · have := hp.1 y hy; have := h x (by simp); omega)
        refine ⟨2 * n, by rw [Nat.pow_succ]; omega, ?_⟩
        rw [key, if_neg (by omega), show 2 * n / 2 = n by omega, e]
/-- All sets of bits, as lists. -/
def allB (c : Nat) : List (List Nat) := (List.range (2 ^ c)).map (memB c 0)
theorem allB_mem (c : Nat) (s : List Nat) : s ∈ allB c ↔ s.Pairwise (· < ·) ∧ ∀ x ∈ s, x < c := by
  simp only [allB, List.mem_map, List.mem_range]
  constructor
  · rintro ⟨n, hn, rfl⟩
    exact ⟨memB_sorted c 0 n, fun x hx => by have := memB_lt c 0 n x hn hx; omega⟩
  · rintro ⟨h1, h2⟩
    exact memB_surj c 0 s h1 (fun x hx => by have := h2 x hx; omega)
theorem allB_nodup (c : Nat) : (allB c).Nodup := by
  unfold allB
  rw [List.Nodup, List.pairwise_map]
  refine List.Pairwise.imp_of_mem (fun {a b} ha hb hab h => ?_) (List.nodup_range (n := 2 ^ c))
  rw [List.mem_range] at ha hb
  exact hab (memB_inj c 0 a b ha hb h)
/-- What the insertion keeps: the sets of the least size that have the property, in lexicographic order. -/
theorem keep_all {p : List Nat → Bool} {c m : Nat} (h0 : ∀ k, k < m → (ext c k 0).filter p = []) (h1 : (ext c m 0).filter p ≠ []) : (allB c).foldl (keepB p) [] = (ext c m 0).filter p := by
  have hk := kept_fold (p := p) (allB c) [] [] ⟨by simp, by simp, by simp⟩ (by simpa using allB_nodup c)
  rw [List.nil_append] at hk
  obtain ⟨a1, a2, _⟩ := hk
  refine sorted_eq a1 ((ext_sorted c m 0).filter p) (fun x => ?_)
  have hin : ∀ k s, s ∈ ext c k 0 ↔ s.length = k ∧ s ∈ allB c := fun k s => by
    rw [ext_mem, allB_mem]; simp
  obtain ⟨y, hy⟩ := List.exists_mem_of_ne_nil _ h1
  rw [List.mem_filter, hin] at hy
  have hlow : ∀ z ∈ allB c, p z = true → m ≤ z.length := fun z hz hpz => by
    rcases Nat.lt_or_ge z.length m with h | h
    · have h2 := h0 _ h
      have : z ∈ (ext c z.length 0).filter p := by rw [List.mem_filter, hin]; exact ⟨⟨rfl, hz⟩, hpz⟩
      rw [h2] at this; simp at this
    · exact h
  rw [a2, List.mem_filter, hin]
  constructor
  · rintro ⟨b1, b2, b3⟩
    have := b3 y hy.1.2 hy.2
    have := hlow x b1 b2
    exact ⟨⟨by omega, b1⟩, b2⟩
  · rintro ⟨⟨b1, b2⟩, b3⟩
    exact ⟨b2, b3, fun z hz hpz => by rw [b1]; exact hlow z hz hpz⟩
theorem keep_none {p : List Nat → Bool} {c : Nat} (h0 : ∀ k, k ≤ c → (ext c k 0).filter p = []) : (allB c).foldl (keepB p) [] = [] := by
  have hk := kept_fold (p := p) (allB c) [] [] ⟨by simp, by simp, by simp⟩ (by simpa using allB_nodup c)
  rw [List.nil_append] at hk
  obtain ⟨a1, a2, _⟩ := hk
  rw [List.eq_nil_iff_forall_not_mem]
  intro x hx
  obtain ⟨b1, b2, _⟩ := (a2 x).1 hx
  have hle : x.length ≤ c := by
    obtain ⟨h1, h2⟩ := (allB_mem c x).1 b1
    have h3 : x.Nodup := h1.imp (fun h => by omega)
    have h4 : x ⊆ List.range c := fun y hy => by rw [List.mem_range]; exact h2 y hy
    have := h3.length_le_of_subset h4
    rwa [List.length_range] at this
  have h2 := h0 _ hle
  have : x ∈ (ext c x.length 0).filter p := by
    rw [List.mem_filter, ext_mem]
    obtain ⟨h1, h2⟩ := (allB_mem c x).1 b1
    exact ⟨⟨rfl, h1, fun y hy => ⟨Nat.zero_le _, h2 y hy⟩⟩, b2⟩
  rw [h2] at this; simp at this
end Go.Proofs.YtdklmcicogmeaaaGreat

/- The contracts of the small functions on integers. -/
namespace Go.Proofs.YtdklmcicogmeaaaGreat
open Go.RowKit
set_option linter.unusedVariables false

theorem infoInt : (Tryz.prog.info? 3).map (fun i => (i.zero, i.size, i.bytes)) = some (some (.int .i64 0), 1, 8) := by kernel_rfl

theorem bwithin_any (n lo hi : Int) (w : World) : Calls Tryz.prog 11 #[.int .i64 n, .int .i64 lo, .int .i64 hi] w fun e' w' => e' = .returned (.bool (wi n lo hi)) ∧ w = w' := by
  by_cases h : lo ≤ n
  · go_enter Tryz.func11, Tryz.ntmps11
    go_wp2
    go_ret
    exact ⟨by simp [wi, h], rfl⟩
  · have h' : n < lo := by omega
    go_enter Tryz.func11, Tryz.ntmps11
    go_wp2
    go_ret
    exact ⟨ret_bool (by simp [wi]; omega), rfl⟩
theorem bsize_any (n : Int) (w : World) (h0 : -9223372036854775807 ≤ n) (h1 : n ≤ 9223372036854775807) : Calls Tryz.prog 13 #[.int .i64 n] w fun e' w' => e' = .returned (.int .i64 (sz n)) ∧ w = w' := by
  go_enter Tryz.func13, Tryz.ntmps13
  go_wp2
  all_goals
    go_ret
    exact ⟨ret_int (by unfold sz; omega), rfl⟩
theorem cell_lit (w0 w : World) (cs : List Value) (t B i : Nat) (u : Value) (hw : w.heap = (w0.alloc (.cells cs.toArray t)).heap) (hB : B = w0.heap.size) (hu : cs[i]? = some u) : w.cell? ⟨B, i, none⟩ = some u := by
  subst hB
  have h : w.heap[w0.heap.size]? = some (.cells cs.toArray t) := by rw [hw]; exact heap_alloc_new w0 _
  rw [cell_of_row _ _ i _ _ _ h]; simpa using hu
end Go.Proofs.YtdklmcicogmeaaaGreat

/- Lines and states: the program's functions. -/
namespace Go.Proofs.YtdklmcicogmeaaaGreat
open Go.RowKit
set_option linter.unusedVariables false

set_option maxRecDepth 100000 in
theorem indexInts_any (f : FuncId) (p : Int → Bool) (hf : ∀ args w, (callFunc f args).run Tryz.prog w = .ok (.enter f args) w) (hp : ∀ (x : Int) (w : World), Calls Tryz.prog f #[.int .i64 x] w fun e w' => e = .returned (.bool (p x)) ∧ w = w')
    (l : List Int) (a : Option Addr) (n c : Nat) (w : World) (hl : IntsR w a n l) :
    Calls Tryz.prog 121 #[.slice a n c, .func (.func f) #[] #[]] w fun e' w' => e' = .returned (.int .i64 (idxFrom p l 0)) ∧ w = w' := by
  have HL := Lib.hid hl
  have HP := Lib.hid hp
  have hn := hl.small
  clear hl hp
  go_enter Tryz.func121, Tryz.ntmps121
  go_wp2
  go_loop [8] (fun i => ∃ k : Nat, i = .int .i64 k ∧ k ≤ n ∧ Hid (idxFrom p (l.drop k) k = idxFrom p l 0)) (fun i => n - (intOf i).toNat)
  case atStart => exact ⟨0, rfl, Nat.zero_le _, rfl⟩
  case round =>
    obtain ⟨k, rfl, hk, hF⟩ := hrel
    by_cases hlt : k < n
    · obtain ⟨b, o, rfl, hb, hc⟩ := HL.out.addr (by omega)
      have hck := hc k hlt
      clear hc
      have hF' := hF.out
      rw [drop_at l k 0 (by rw [HL.out.len]; exact hlt), idxFrom] at hF'
      have HF := Lib.hid hF'; clear hF' hF
      obtain ⟨x, hx⟩ : ∃ x, x = l.getD k 0 := ⟨_, rfl⟩
      rw [← hx] at hck HF
      clear hx
      go_wp2_with fail
      refine (HP.out _ _).mono ?_
      rintro e w' ⟨rfl, rfl⟩
      by_cases hx : p x = true
      · rw [if_pos hx] at HF
        rw [hx]
        go_wp2
        go_ret
        exact ⟨ret_int HF.out, rfl⟩
      · rw [if_neg hx] at HF
        have hx' : p x = false := by simpa using hx
        rw [hx']
        clear hx hx'
        go_wp2
        go_round
        case rel => exact ⟨k + 1, by go_num, by omega, HF⟩
        case measure => simp [intOf]; omega
    · go_wp2
      go_ret
      exact ⟨ret_int (by rw [← hF.out, drop_end l k (by rw [HL.out.len]; omega)]; rfl), rfl⟩
set_option maxRecDepth 100000 in
theorem containsInts_any (f : FuncId) (p : Int → Bool) (hf : ∀ args w, (callFunc f args).run Tryz.prog w = .ok (.enter f args) w) (hp : ∀ (x : Int) (w : World), Calls Tryz.prog f #[.int .i64 x] w fun e w' => e = .returned (.bool (p x)) ∧ w = w')
    (l : List Int) (a : Option Addr) (n c : Nat) (w : World) (hl : IntsR w a n l) :
    Calls Tryz.prog 87 #[.slice a n c, .func (.func f) #[] #[]] w fun e' w' => e' = .returned (.bool (l.any p)) ∧ w = w' := by
  have HI := Lib.hid (indexInts_any f p hf hp l a n c w hl)
  clear hf hp hl
  go_enter Tryz.func87, Tryz.ntmps87
  go_wp2_with fail
  refine HI.out.mono ?_
  rintro e w' ⟨rfl, rfl⟩
  go_wp2
  go_ret
  exact ⟨ret_bool (idxFrom_any p l 0), rfl⟩
end Go.Proofs.YtdklmcicogmeaaaGreat
