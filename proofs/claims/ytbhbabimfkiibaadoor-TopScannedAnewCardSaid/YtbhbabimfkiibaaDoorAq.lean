/- What readings leave: fewer readings leave all that more of them leave, in one piece. -/
import Derived.Test.YtbhbabimfkiibaaDoorAo
namespace Go.Proofs.YtbhbabimfkiibaaDoor
set_option linter.unusedVariables false

/-- A place that ranges hold; a place that readings hold. -/
def HoldsR (l : List (Int × Int)) (t : Int) : Prop := ∃ x ∈ l, x.1 ≤ t ∧ t ≤ x.2
def ReachR (f o s r : Int) (l : List Int) (t : Int) : Prop := ∃ p ∈ l, max f (p + s - r) ≤ t ∧ t ≤ min o (p - s + r)
def ApartR (l : List (Int × Int)) : Prop := l.Pairwise (fun x y => x.2 < y.1) ∧ ∀ x ∈ l, x.1 ≤ x.2

theorem list_snoc (out : List (Int × Int)) (h : 0 < out.length) : ∃ init la, out = init ++ [la] ∧ lastOf out = la ∧ out.dropLast = init := by
  refine ⟨out.dropLast, out.getLast (by intro e; simp [e] at h), (List.dropLast_concat_getLast _).symm, ?_, rfl⟩
  simp [lastOf, List.getLastD_eq_getLast?, List.getLast?_eq_some_getLast (by intro e; simp [e] at h : out ≠ [])]

theorem holdsR_append (a b : List (Int × Int)) (t : Int) : HoldsR (a ++ b) t ↔ HoldsR a t ∨ HoldsR b t := by
  unfold HoldsR
  constructor
  · rintro ⟨x, hx, h⟩
    rcases List.mem_append.1 hx with hx | hx
    · exact .inl ⟨x, hx, h⟩
    · exact .inr ⟨x, hx, h⟩
  · rintro (⟨x, hx, h⟩ | ⟨x, hx, h⟩)
    · exact ⟨x, List.mem_append.2 (.inl hx), h⟩
    · exact ⟨x, List.mem_append.2 (.inr hx), h⟩
theorem holdsR_one (x : Int × Int) (t : Int) : HoldsR [x] t ↔ x.1 ≤ t ∧ t ≤ x.2 := by simp [HoldsR]

theorem mergeStep_facts (f o s r : Int) (out : List (Int × Int)) (p : Int) (ha : ApartR out) (hlo : ∀ x ∈ out, x.1 ≤ max f (p + s - r)) :
    ApartR (mergeStep f o s r out p) ∧ (∀ x ∈ mergeStep f o s r out p, x.1 ≤ max f (p + s - r)) ∧
      ∀ t, HoldsR (mergeStep f o s r out p) t ↔ HoldsR out t ∨ (max f (p + s - r) ≤ t ∧ t ≤ min o (p - s + r)) := by
  unfold mergeStep
  generalize max f (p + s - r) = lo at *
  generalize min o (p - s + r) = hi at *
  by_cases h1 : hi < lo
  · rw [if_pos h1]
    exact ⟨ha, hlo, fun t => ⟨.inl, fun h => h.elim id fun h => by omega⟩⟩
  rw [if_neg h1]
  by_cases h2 : 0 < out.length ∧ lo ≤ (lastOf out).2 + 1
  · rw [if_pos h2]
    obtain ⟨h0, h2⟩ := h2
    obtain ⟨init, la, rfl, h3, h4⟩ := list_snoc out h0
    rw [h3] at h2
    rw [h3, h4]
    have hla := ha.2 la (by simp)
    have hl1 := hlo la (by simp)
    refine ⟨⟨?_, ?_⟩, ?_, ?_⟩
    · have := ha.1
      rw [List.pairwise_append] at this ⊢
      refine ⟨this.1, by simp, fun a hx b hb => ?_⟩
      obtain rfl := List.mem_singleton.1 hb
      exact this.2.2 a hx la (by simp)
    · intro x hx
      rcases List.mem_append.1 hx with hx | hx
      · exact ha.2 x (List.mem_append.2 (.inl hx))
      · obtain rfl := List.mem_singleton.1 hx
        simp only; omega
    · intro x hx
      rcases List.mem_append.1 hx with hx | hx
      · exact hlo x (List.mem_append.2 (.inl hx))
      · obtain rfl := List.mem_singleton.1 hx
        exact hl1
    · intro t
      rw [holdsR_append, holdsR_append, holdsR_one, holdsR_one]
      simp only
      constructor
      · rintro (h | h)
        · exact .inl (.inl h)
        · by_cases ht : t ≤ la.2
          · exact .inl (.inr ⟨h.1, ht⟩)
          · exact .inr (by omega)
      · rintro ((h | h) | h)
        · exact .inl h
        · exact .inr (by omega)
        · exact .inr (by omega)
  · rw [if_neg h2]
    refine ⟨⟨?_, ?_⟩, ?_, ?_⟩
    · rw [List.pairwise_append]
      refine ⟨ha.1, by simp, fun a hx b hb => ?_⟩
      obtain rfl := List.mem_singleton.1 hb
      have h0 : 0 < out.length := List.length_pos_of_mem hx
      obtain ⟨init, la, rfl, h3, h4⟩ := list_snoc out h0
      rw [h3] at h2
      have : ¬ lo ≤ la.2 + 1 := fun h => h2 ⟨h0, h⟩
      rcases List.mem_append.1 hx with hx | hx
      · have hp := ha.1
        rw [List.pairwise_append] at hp
        have := hp.2.2 a hx la (by simp)
        have := ha.2 la (by simp)
        simp only; omega
      · obtain rfl := List.mem_singleton.1 hx
        simp only; omega
    · intro x hx
      rcases List.mem_append.1 hx with hx | hx
      · exact ha.2 x hx
      · obtain rfl := List.mem_singleton.1 hx
        simp only; omega
    · intro x hx
      rcases List.mem_append.1 hx with hx | hx
      · exact hlo x hx
      · obtain rfl := List.mem_singleton.1 hx
        simp
    · intro t
      rw [holdsR_append, holdsR_one]

theorem foldl_facts (f o s r : Int) : ∀ (l : List Int) (out : List (Int × Int)), l.Pairwise (fun a b => a ≤ b) → ApartR out → (∀ x ∈ out, ∀ p ∈ l, x.1 ≤ max f (p + s - r)) →
    ApartR (l.foldl (mergeStep f o s r) out) ∧ ∀ t, HoldsR (l.foldl (mergeStep f o s r) out) t ↔ HoldsR out t ∨ ReachR f o s r l t
  | [], out, _, ha, _ => ⟨ha, fun t => by simp [ReachR]⟩
  | p :: l, out, hs, ha, hlo => by
    obtain ⟨h1, h2, h3⟩ := mergeStep_facts f o s r out p ha (fun x hx => hlo x hx p (by simp))
    rw [List.pairwise_cons] at hs
    obtain ⟨g1, g2⟩ := foldl_facts f o s r l (mergeStep f o s r out p) hs.2 h1 (fun x hx q hq => by have := h2 x hx; have := hs.1 q hq; omega)
    refine ⟨g1, fun t => ?_⟩
    rw [List.foldl_cons, g2, h3]
    unfold ReachR
    constructor
    · rintro ((h | h) | ⟨q, hq, h⟩)
      · exact .inl h
      · exact .inr ⟨p, by simp, h⟩
      · exact .inr ⟨q, by simp [hq], h⟩
    · rintro (h | ⟨q, hq, h⟩)
      · exact .inl (.inl h)
      · rcases List.mem_cons.1 hq with rfl | hq
        · exact .inl (.inr h)
        · exact .inr ⟨q, hq, h⟩

theorem sorted_pairwise (l : List Int) : (sorted l).Pairwise (fun a b => a ≤ b) := by
  have := List.pairwise_mergeSort (le := fun x y : Int => decide (x ≤ y)) (fun a b c h1 h2 => by simp at *; omega) (fun a b => by simp; omega) l
  simpa [sorted] using this

theorem scanned_facts (f o s r : Int) (l : List Int) : ApartR (scannedOf f o s r l) ∧ ∀ t, HoldsR (scannedOf f o s r l) t ↔ ReachR f o s r l t := by
  obtain ⟨h1, h2⟩ := foldl_facts f o s r (sorted l) [] (sorted_pairwise l) ⟨by simp, by simp⟩ (by simp)
  refine ⟨h1, fun t => (h2 t).trans ?_⟩
  simp only [HoldsR, ReachR, List.not_mem_nil, false_and, exists_false, false_or, sorted, List.mem_mergeSort]

/-- What ranges leave, from a place on. -/
def anewStep (st : List (Int × Int) × Int) (x : Int × Int) : List (Int × Int) × Int := (if st.2 < x.1 then st.1 ++ [(st.2, x.1 - 1)] else st.1, x.2 + 1)
def anewOf (f o s r : Int) (l : List Int) : List (Int × Int) := ((scannedOf f o s r l ++ [(o + 1, o + 1)]).foldl anewStep ([], f)).1

theorem anewStep_length (st : List (Int × Int) × Int) (x : Int × Int) : (anewStep st x).1.length ≤ st.1.length + 1 := by
  unfold anewStep; split <;> simp
theorem foldl_anew_length : ∀ (l : List (Int × Int)) (st : List (Int × Int) × Int), (l.foldl anewStep st).1.length ≤ st.1.length + l.length
  | [], st => by simp
  | x :: l, st => by
    have := foldl_anew_length l (anewStep st x)
    have := anewStep_length st x
    simp only [List.foldl_cons, List.length_cons]; omega
theorem foldl_merge_length (f o s r : Int) : ∀ (l : List Int) (out : List (Int × Int)), (l.foldl (mergeStep f o s r) out).length ≤ out.length + l.length
  | [], out => by simp
  | p :: l, out => by
    have h1 := foldl_merge_length f o s r l (mergeStep f o s r out p)
    have h2 : (mergeStep f o s r out p).length ≤ out.length + 1 := by
      unfold mergeStep
      split
      · omega
      · split
        · simp <;> omega
        · simp
    simp only [List.foldl_cons, List.length_cons]; omega
theorem scanned_length (f o s r : Int) (l : List Int) : (scannedOf f o s r l).length ≤ l.length := by
  have := foldl_merge_length f o s r (sorted l) []
  simpa [scannedOf, sorted] using this
theorem anew_length (f o s r : Int) (l : List Int) : (anewOf f o s r l).length ≤ l.length + 1 := by
  have h1 := foldl_anew_length (scannedOf f o s r l ++ [(o + 1, o + 1)]) ([], f)
  have h2 := scanned_length f o s r l
  simp only [anewOf, List.length_append, List.length_cons, List.length_nil] at *; omega

theorem anew_keeps : ∀ (l : List (Int × Int)) (st : List (Int × Int) × Int) (x : Int × Int), x ∈ st.1 → x ∈ (l.foldl anewStep st).1
  | [], st, x, h => h
  | y :: l, st, x, h => anew_keeps l (anewStep st y) x (by unfold anewStep; split <;> simp [h])

/-- An interval that the ranges do not touch lies within one of those that they leave. -/
theorem anew_covers (a b : Int) (hab : a ≤ b) : ∀ (l : List (Int × Int)) (st : List (Int × Int) × Int), st.2 ≤ a → (∀ x ∈ l, x.1 ≤ x.2) → (∀ t, a ≤ t → t ≤ b → ¬ HoldsR l t) → (∃ x ∈ l, b < x.1) →
    ∃ x ∈ (l.foldl anewStep st).1, x.1 ≤ a ∧ b ≤ x.2
  | [], st, h, _, _, ⟨x, hx, _⟩ => by cases hx
  | y :: l, st, h, hle, hno, ⟨x, hx, hb⟩ => by
    have hy := hle y (by simp)
    by_cases hc : b < y.1
    · refine ⟨(st.2, y.1 - 1), anew_keeps l _ _ ?_, h, by simp only; omega⟩
      unfold anewStep
      rw [if_pos (by omega)]
      simp
    · have h1 : y.1 < a := by
        apply Classical.byContradiction; intro hn
        exact hno y.1 (by omega) (by omega) ⟨y, by simp, by omega, hy⟩
      have h2 : y.2 < a := by
        apply Classical.byContradiction; intro hn
        exact hno a (by omega) (by omega) ⟨y, by simp, by omega, by omega⟩
      rw [List.foldl_cons]
      refine anew_covers a b hab l (anewStep st y) (by simp only [anewStep]; omega) (fun x hx => hle x (by simp [hx])) (fun t h1 h2 h3 => hno t h1 h2 ?_) ?_
      · obtain ⟨z, hz, h4⟩ := h3
        exact ⟨z, by simp [hz], h4⟩
      · rcases List.mem_cons.1 hx with rfl | hx
        · omega
        · exact ⟨x, hx, hb⟩

/-- What is left is untouched, and lies in the track. -/
theorem anew_sound (f : Int) : ∀ (l : List (Int × Int)) (pre : List (Int × Int)) (st : List (Int × Int) × Int), ApartR (pre ++ l) → (∀ x ∈ pre, x.2 < st.2) → f ≤ st.2 →
    (∀ x ∈ l, f ≤ x.1) → (∀ x ∈ st.1, f ≤ x.1 ∧ x.1 ≤ x.2 ∧ (∀ t, x.1 ≤ t → t ≤ x.2 → ¬ HoldsR (pre ++ l) t) ∧ ∃ y ∈ pre ++ l, x.2 < y.1) →
    ∀ x ∈ (l.foldl anewStep st).1, f ≤ x.1 ∧ x.1 ≤ x.2 ∧ (∀ t, x.1 ≤ t → t ≤ x.2 → ¬ HoldsR (pre ++ l) t) ∧ ∃ y ∈ pre ++ l, x.2 < y.1
  | [], pre, st, _, _, _, _, h => h
  | y :: l, pre, st, ha, hp, hf, hfl, h => by
    have hap := ha.1
    rw [List.pairwise_append, List.pairwise_cons] at hap
    have hy := ha.2 y (by simp)
    have hfy := hfl y (by simp)
    have e : pre ++ y :: l = (pre ++ [y]) ++ l := by simp
    rw [e] at ha h ⊢
    rw [List.foldl_cons]
    refine anew_sound f l (pre ++ [y]) (anewStep st y) ha ?_ (by simp only [anewStep]; omega) (fun x hx => hfl x (by simp [hx])) ?_
    · intro x hx
      simp only [anewStep]
      rcases List.mem_append.1 hx with hx | hx
      · have := hap.2.2 x hx y (by simp)
        omega
      · obtain rfl := List.mem_singleton.1 hx
        omega
    · intro x hx
      unfold anewStep at hx
      by_cases hc : st.2 < y.1
      · rw [if_pos hc] at hx
        rcases List.mem_append.1 hx with hx | hx
        · exact h x hx
        · obtain rfl := List.mem_singleton.1 hx
          refine ⟨hf, by simp only; omega, ?_, y, by simp, by simp only; omega⟩
          rintro t h1 h2 ⟨z, hz, h3⟩
          simp only at h1 h2
          rw [← e] at hz
          rcases List.mem_append.1 hz with hz | hz
          · have := hp z hz; omega
          · rcases List.mem_cons.1 hz with rfl | hz
            · omega
            · have := hap.2.1.1 z hz
              omega
      · rw [if_neg hc] at hx
        exact h x hx

/-- Whatever all readings leave, the first of them leave, in one piece. -/
theorem anew_more (f o s r : Int) (hfo : f ≤ o) (l m : List Int) (x : Int × Int) (hx : x ∈ anewOf f o s r (l ++ m)) : ∃ y ∈ anewOf f o s r l, y.1 ≤ x.1 ∧ x.2 ≤ y.2 := by
  have key : ∀ l : List Int, ApartR (scannedOf f o s r l ++ [(o + 1, o + 1)]) ∧ (∀ z ∈ scannedOf f o s r l ++ [(o + 1, o + 1)], f ≤ z.1) ∧ ∀ t, HoldsR (scannedOf f o s r l ++ [(o + 1, o + 1)]) t ↔ ReachR f o s r l t ∨ t = o + 1 := by
    intro l
    obtain ⟨h1, h2⟩ := scanned_facts f o s r l
    have hin : ∀ x ∈ scannedOf f o s r l, f ≤ x.1 ∧ x.2 ≤ o := by
      intro x hx
      have h3 := h1.2 x hx
      obtain ⟨p, _, h5, h6⟩ := (h2 x.1).1 ⟨x, hx, by omega, by omega⟩
      obtain ⟨q, _, h7, h8⟩ := (h2 x.2).1 ⟨x, hx, by omega, by omega⟩
      omega
    refine ⟨⟨?_, ?_⟩, ?_, ?_⟩
    · rw [List.pairwise_append]
      refine ⟨h1.1, by simp, fun a hx b hb => ?_⟩
      obtain rfl := List.mem_singleton.1 hb
      have := (hin a hx).2
      simp only; omega
    · intro x hx
      rcases List.mem_append.1 hx with hx | hx
      · exact h1.2 x hx
      · obtain rfl := List.mem_singleton.1 hx
        simp
    · intro x hx
      rcases List.mem_append.1 hx with hx | hx
      · exact (hin x hx).1
      · obtain rfl := List.mem_singleton.1 hx
        simp only; omega
    · intro t
      rw [holdsR_append, h2, holdsR_one]
      simp only
      constructor
      · rintro (h | h)
        · exact .inl h
        · exact .inr (by omega)
      · rintro (h | h)
        · exact .inl h
        · exact .inr (by omega)
  obtain ⟨a1, a2, a3⟩ := key (l ++ m)
  obtain ⟨b1, b2, b3⟩ := key l
  obtain ⟨h1, h2, h3, h4⟩ := anew_sound f _ [] ([], f) (by simpa using a1) (by simp) (by simp) a2 (by simp) x hx
  rw [List.nil_append] at h3 h4
  have hxo : x.2 < o + 1 := by
    obtain ⟨y, hy, h5⟩ := h4
    apply Classical.byContradiction; intro hn
    have hyy := a1.2 y hy
    obtain h6 | h6 := (a3 y.1).1 ⟨y, hy, by omega, hyy⟩
    · obtain ⟨p, _, _, h7⟩ := h6
      omega
    · omega
  refine anew_covers x.1 x.2 h2 _ ([], f) h1 b1.2 (fun t ht1 ht2 h => h3 t ht1 ht2 ?_) ⟨(o + 1, o + 1), by simp, by simp only; omega⟩
  rw [b3] at h
  rw [a3]
  rcases h with ⟨p, hp, h⟩ | h
  · exact .inl ⟨p, by simp [hp], h⟩
  · exact .inr h
end Go.Proofs.YtbhbabimfkiibaaDoor
