/- What a builder of programs holds, plainly: instructions, labels, marks; the program that comes of it. -/
import Derived.Test.YtgeapkalabijmaaGreatMapR
import Derived.Test.YtgeapkalabijmaaGreatK5
namespace Go.Proofs.YtgeapkalabijmaaGreat
open Go Go.RowKit
set_option maxRecDepth 100000
set_option maxHeartbeats 1000000
set_option linter.unusedVariables false
set_option linter.unusedSimpArgs false

/-- What has been done with a builder. -/
structure Asm where
  tag : Int
  code : List Ins
  tos : List (Option Int)
  labels : Nat
  marks : List (Int × Nat)

/-- What is to be filled in later: the place, the label. -/
def laterOf : Nat → List (Option Int) → List (Nat × Int)
  | _, [] => []
  | n, none :: l => laterOf (n + 1) l
  | n, some x :: l => (n, x) :: laterOf (n + 1) l
theorem laterOf_none : ∀ (n : Nat) (l : List (Option Int)), laterOf n (l ++ [none]) = laterOf n l
  | n, [] => rfl
  | n, none :: l => by simp only [List.cons_append, laterOf]; exact laterOf_none (n + 1) l
  | n, some x :: l => by simp only [List.cons_append, laterOf]; rw [laterOf_none (n + 1) l]
theorem laterOf_some : ∀ (n : Nat) (l : List (Option Int)) (x : Int), laterOf n (l ++ [some x]) = laterOf n l ++ [(n + l.length, x)]
  | n, [], x => rfl
  | n, none :: l, x => by
    simp only [List.cons_append, laterOf, List.length_cons]
    rw [laterOf_some (n + 1) l x, show n + 1 + l.length = n + (l.length + 1) by omega]
  | n, some y :: l, x => by
    simp only [List.cons_append, laterOf, List.length_cons]
    rw [laterOf_some (n + 1) l x, show n + 1 + l.length = n + (l.length + 1) by omega]
theorem laterOf_len : ∀ (n : Nat) (l : List (Option Int)), (laterOf n l).length ≤ l.length
  | n, [] => Nat.le_refl _
  | n, none :: l => by simp only [laterOf, List.length_cons]; have := laterOf_len (n + 1) l; omega
  | n, some y :: l => by simp only [laterOf, List.length_cons]; have := laterOf_len (n + 1) l; omega
theorem laterOf_mem : ∀ (n : Nat) (l : List (Option Int)) (t : Nat × Int), t ∈ laterOf n l ↔ n ≤ t.1 ∧ l[t.1 - n]? = some (some t.2)
  | n, [], t => by simp [laterOf]
  | n, none :: l, t => by
    simp only [laterOf]
    rw [laterOf_mem (n + 1) l t]
    constructor
    · rintro ⟨h1, h2⟩
      refine ⟨by omega, ?_⟩
      rw [show t.1 - n = (t.1 - (n + 1)) + 1 by omega]
      simpa using h2
    · rintro ⟨h1, h2⟩
      have hne : t.1 ≠ n := by rintro e; rw [e] at h2; simp at h2
      refine ⟨by omega, ?_⟩
      rw [show t.1 - n = (t.1 - (n + 1)) + 1 by omega] at h2
      simpa using h2
  | n, some y :: l, t => by
    simp only [laterOf, List.mem_cons]
    rw [laterOf_mem (n + 1) l t]
    constructor
    · rintro (rfl | ⟨h1, h2⟩)
      · simp
      · refine ⟨by omega, ?_⟩
        rw [show t.1 - n = (t.1 - (n + 1)) + 1 by omega]
        simpa using h2
    · rintro ⟨h1, h2⟩
      by_cases e : t.1 = n
      · left
        rw [e] at h2
        simp at h2
        exact Prod.ext e h2.symm
      · right
        refine ⟨by omega, ?_⟩
        rw [show t.1 - n = (t.1 - (n + 1)) + 1 by omega] at h2
        simpa using h2

/-- The places by label. -/
def addMark (m : List (Int × List Nat)) (k : Int) (n : Nat) : List (Int × List Nat) :=
  match pos m k with | some i => m.set i (k, (m.getD i (0, [])).2 ++ [n]) | none => m ++ [(k, [n])]
def groupOf (marks : List (Int × Nat)) : List (Int × List Nat) := marks.foldl (fun m t => addMark m t.1 t.2) []
theorem groupOf_snoc (marks : List (Int × Nat)) (k : Int) (n : Nat) : groupOf (marks ++ [(k, n)]) = addMark (groupOf marks) k n := by
  unfold groupOf
  rw [List.foldl_append]
  rfl
/-- The places of a label. -/
def placesOf (marks : List (Int × Nat)) (k : Int) : List Nat := (marks.filter (fun t => t.1 == k)).map (·.2)
theorem placesOf_snoc (marks : List (Int × Nat)) (k j : Int) (n : Nat) : placesOf (marks ++ [(k, n)]) j = placesOf marks j ++ (if k = j then [n] else []) := by
  unfold placesOf
  rw [List.filter_append, List.map_append]
  congr 1
  by_cases h : k = j <;> simp [h]
/-- What stands in the groups. -/
def GroupOk (m : List (Int × List Nat)) (marks : List (Int × Nat)) : Prop :=
  (m.map (·.1)).Nodup ∧ (∀ t ∈ m, t.2 = placesOf marks t.1 ∧ t.2 ≠ []) ∧ ∀ t ∈ marks, t.1 ∈ m.map (·.1)
theorem placesOf_none {marks : List (Int × Nat)} {k : Int} (h : ∀ t ∈ marks, t.1 ≠ k) : placesOf marks k = [] := by
  unfold placesOf
  rw [List.filter_eq_nil_iff.2 (fun t ht => by simpa using h t ht)]
  rfl
theorem addMark_ok {m : List (Int × List Nat)} {marks : List (Int × Nat)} (h : GroupOk m marks) (k : Int) (n : Nat) : GroupOk (addMark m k n) (marks ++ [(k, n)]) := by
  obtain ⟨h1, h2, h3⟩ := h
  unfold addMark
  cases hp : pos m k with
  | some i =>
    obtain ⟨⟨ps, hi⟩, _⟩ := Kn.of_pos hp
    have hlt := (List.getElem?_eq_some_iff.1 hi).1
    have hg : (m.getD i (0, [])).2 = ps := by rw [List.getD_eq_getElem?_getD, hi]; rfl
    simp only [hg]
    have e1 : (m.set i (k, ps ++ [n])).map (·.1) = m.map (·.1) := by
      rw [List.map_set]
      refine List.ext_getElem? fun j => ?_
      by_cases hj : i = j
      · subst hj
        rw [List.getElem?_set_self (by simpa using hlt), List.getElem?_map, hi]
        rfl
      · rw [List.getElem?_set_ne hj]
    refine ⟨by rw [e1]; exact h1, ?_, ?_⟩
    · intro t ht
      obtain ⟨j, hj⟩ := List.getElem?_of_mem ht
      by_cases hij : i = j
      · subst hij
        rw [List.getElem?_set_self hlt] at hj
        cases hj
        have := (h2 _ (List.mem_of_getElem? hi)).1
        simp only at this
        rw [placesOf_snoc, if_pos rfl, ← this]
        exact ⟨rfl, by simp⟩
      · rw [List.getElem?_set_ne hij] at hj
        have hne : k ≠ t.1 := by
          intro e
          have := (Kn.of_nodup h1 hj).2
          have h5 := (Kn.of_nodup h1 hi).2
          rcases Nat.lt_or_ge i j with hl | hl
          · exact this i hl _ hi e
          · exact h5 j (by omega) _ hj e.symm
        rw [placesOf_snoc, if_neg hne, List.append_nil]
        exact h2 t (List.mem_of_getElem? hj)
    · intro t ht
      rw [e1]
      rcases List.mem_append.1 ht with ht | ht
      · exact h3 t ht
      · simp at ht
        subst ht
        exact List.mem_map.2 ⟨_, List.mem_of_getElem? hi, rfl⟩
  | none =>
    have hu := Un.of_pos hp
    refine ⟨?_, ?_, ?_⟩
    · rw [List.map_append, List.nodup_append]
      refine ⟨h1, by simp, ?_⟩
      intro x hx y hy e
      simp at hy
      obtain ⟨t, ht, rfl⟩ := List.mem_map.1 hx
      exact hu t ht (by rw [e, hy])
    · intro t ht
      rcases List.mem_append.1 ht with ht | ht
      · rw [placesOf_snoc, if_neg (fun e => hu t ht e.symm), List.append_nil]
        exact h2 t ht
      · simp at ht
        subst ht
        rw [placesOf_snoc, if_pos rfl, placesOf_none]
        · exact ⟨rfl, by simp⟩
        · intro t ht e
          obtain ⟨u, hu1, hu2⟩ := List.mem_map.1 (h3 t ht)
          exact hu u hu1 (by rw [hu2, e])
    · intro t ht
      rw [List.map_append, List.mem_append]
      rcases List.mem_append.1 ht with ht | ht
      · exact .inl (h3 t ht)
      · simp at ht
        subst ht
        exact .inr (by simp)
theorem groupOf_ok (marks : List (Int × Nat)) : GroupOk (groupOf marks) marks := by
  suffices h : ∀ (l pre : List (Int × Nat)) (m : List (Int × List Nat)), GroupOk m pre → GroupOk (l.foldl (fun m t => addMark m t.1 t.2) m) (pre ++ l) by
    have := h marks [] [] ⟨by simp, by simp, by simp⟩
    simpa [groupOf] using this
  intro l
  induction l with
  | nil => intro pre m h; simpa using h
  | cons t l ih =>
    intro pre m h
    have := ih (pre ++ [t]) (addMark m t.1 t.2) (addMark_ok h t.1 t.2)
    simpa using this

/-- Are the marks all of labels, and none twice? -/
def MarksOk (s : Asm) : Prop := (∀ t ∈ s.marks, 0 ≤ t.1 ∧ t.1 < s.labels) ∧ (s.marks.map (·.1)).Nodup
/-- .. as the groups say it. -/
theorem marksOk_iff (s : Asm) : MarksOk s ↔ ∀ t ∈ groupOf s.marks, 0 ≤ t.1 ∧ t.1 < s.labels ∧ t.2.length ≤ 1 := by
  obtain ⟨h1, h2, h3⟩ := groupOf_ok s.marks
  have key : (s.marks.map (·.1)).Nodup ↔ ∀ k, (placesOf s.marks k).length ≤ 1 := by
    generalize s.marks = l
    induction l with
    | nil => simp [placesOf]
    | cons t l ih =>
      have hc : ∀ k, placesOf (t :: l) k = if t.1 = k then t.2 :: placesOf l k else placesOf l k := fun k => by
        unfold placesOf
        by_cases h : t.1 = k <;> simp [List.filter_cons, h]
      rw [List.map_cons, List.nodup_cons, ih]
      constructor
      · rintro ⟨a, b⟩ k
        rw [hc]
        split
        · rename_i e
          subst e
          rw [placesOf_none (fun u hu e => a (List.mem_map.2 ⟨u, hu, e⟩))]
          simp
        · exact b k
      · intro a
        refine ⟨fun hm => ?_, fun k => ?_⟩
        · obtain ⟨u, hu, e⟩ := List.mem_map.1 hm
          have := a t.1
          rw [hc, if_pos rfl] at this
          have hne : placesOf l t.1 ≠ [] := by
            unfold placesOf
            intro hnil
            have : u.2 ∈ (l.filter fun v => v.1 == t.1).map (·.2) := List.mem_map.2 ⟨u, List.mem_filter.2 ⟨hu, by simpa using e⟩, rfl⟩
            rw [hnil] at this
            cases this
          have h5 := List.length_pos_iff.2 hne
          have h4 := a t.1
          rw [hc, if_pos rfl, List.length_cons] at h4
          omega
        · have := a k
          rw [hc] at this
          split at this
          · simp at this; simp [this]
          · exact this
  constructor
  · rintro ⟨a, b⟩ t ht
    obtain ⟨e1, e2⟩ := h2 t ht
    have hlen := key.1 b t.1
    rw [← e1] at hlen
    have : ∃ u ∈ s.marks, u.1 = t.1 := by
      obtain ⟨x, hx⟩ := List.exists_mem_of_ne_nil _ e2
      rw [e1] at hx
      unfold placesOf at hx
      obtain ⟨u, hu, _⟩ := List.mem_map.1 hx
      obtain ⟨hu1, hu2⟩ := List.mem_filter.1 hu
      exact ⟨u, hu1, by simpa using hu2⟩
    obtain ⟨u, hu, eu⟩ := this
    obtain ⟨c1, c2⟩ := a u hu
    exact ⟨by omega, by omega, hlen⟩
  · intro a
    refine ⟨fun t ht => ?_, key.2 fun k => ?_⟩
    · obtain ⟨u, hu, eu⟩ := List.mem_map.1 (h3 t ht)
      obtain ⟨c1, c2, _⟩ := a u hu
      rw [eu] at c1 c2
      exact ⟨c1, c2⟩
    · by_cases hk : k ∈ (groupOf s.marks).map (·.1)
      · obtain ⟨u, hu, eu⟩ := List.mem_map.1 hk
        have := (a u hu).2.2
        rw [(h2 u hu).1, eu] at this
        exact this
      · rw [placesOf_none (fun t ht e => hk (by rw [← e]; exact h3 t ht))]
        simp

/-- The instructions with the places put in; none: a label is nowhere. -/
def fill1 (marks : List (Int × Nat)) (x : Ins) (o : Option Int) : Option Ins :=
  match o with | none => some x | some l => match placesOf marks l with | [] => none | n :: _ => some (x.1, (n : Int), x.2.2)
def fillAll (marks : List (Int × Nat)) : List Ins → List (Option Int) → Option (List Ins)
  | x :: xs, t :: ts => match fill1 marks x t with | none => none | some y => (fillAll marks xs ts).map (y :: ·)
  | _, _ => some []
end Go.Proofs.YtgeapkalabijmaaGreat
