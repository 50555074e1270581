/- What the document's builder has seen of the marks: plain laws. -/
import Derived.Test.YthgcmafeahlmpaaA11
import Derived.Test.YthgcmafeahlmpaaA7
namespace Go.Proofs.Ythgcmafeahlmpaa
open Go Go.RowKit
set_option linter.unusedVariables false
set_option linter.unusedSimpArgs false

def seenOf (m : List (Int × Nat)) (j : Int) : Int := match placesOf m j with | [] => 0 | n :: _ => (n : Int) + 1
def seenV (m : List (Int × Nat)) : List Value := (List.range 256).map fun (j : Nat) => .int .i64 (seenOf m (j : Int))
theorem seenV_len (m : List (Int × Nat)) : (seenV m).length = 256 := by simp [seenV]
theorem seenV_at (m : List (Int × Nat)) {j : Nat} (h : j < 256) : (seenV m)[j]? = some (.int .i64 (seenOf m (j : Int))) := by
  unfold seenV
  rw [List.getElem?_map, List.getElem?_range h]
  rfl
theorem seenV_nil : seenV [] = List.replicate 256 (.int .i64 0) := by
  apply List.ext_getElem?
  intro i
  by_cases h : i < 256
  · rw [seenV_at [] h, List.getElem?_replicate, if_pos h]
    rfl
  · rw [List.getElem?_eq_none (by rw [seenV_len]; omega), List.getElem?_eq_none (by rw [List.length_replicate]; omega)]
theorem seenV_snoc {m : List (Int × Nat)} {k n : Nat} (hk : k < 256) (h : placesOf m (k : Int) = []) : seenV (m ++ [((k : Int), n)]) = (seenV m).set k (.int .i64 ((n : Int) + 1)) := by
  apply List.ext_getElem?
  intro i
  by_cases hi : i < 256
  · rw [seenV_at _ hi, List.getElem?_set]
    by_cases e : k = i
    · subst e
      rw [if_pos rfl, if_pos (by rw [seenV_len]; exact hk)]
      unfold seenOf
      rw [placesOf_snoc, h, if_pos rfl]
      rfl
    · rw [if_neg e, seenV_at _ hi]
      unfold seenOf
      rw [placesOf_snoc, if_neg (by omega), List.append_nil]
  · rw [List.getElem?_eq_none (by rw [seenV_len]; omega), List.getElem?_eq_none (by rw [List.length_set, seenV_len]; omega)]
theorem seenOf_pos (m : List (Int × Nat)) (k : Int) : (0 < seenOf m k ↔ placesOf m k ≠ []) ∧ (seenOf m k = 0 ↔ placesOf m k = []) := by
  unfold seenOf
  cases placesOf m k with
  | nil => simp
  | cons n l => simp only [ne_eq, reduceCtorEq, not_false_eq_true, iff_true, iff_false]; omega
theorem placesOf_nil_iff (m : List (Int × Nat)) (k : Int) : placesOf m k = [] ↔ ∀ t ∈ m, t.1 ≠ k := by
  constructor
  · intro h t ht e
    unfold placesOf at h
    have := List.map_eq_nil_iff.1 h
    rw [List.filter_eq_nil_iff] at this
    exact this t ht (by simpa using e)
  · exact placesOf_none

/-- The marks so far are good. -/
def GoodPre (many : Nat) (m : List (Int × Nat)) : Prop := (∀ t ∈ m, 0 ≤ t.1 ∧ t.1 < (many : Int)) ∧ (m.map (·.1)).Nodup
theorem GoodPre.nil (many : Nat) : GoodPre many [] := ⟨by simp, by simp⟩
theorem GoodPre.snoc {many : Nat} {m : List (Int × Nat)} {t : Int × Nat} (h : GoodPre many m) (h0 : 0 ≤ t.1) (h1 : t.1 < (many : Int)) (h2 : placesOf m t.1 = []) : GoodPre many (m ++ [t]) := by
  refine ⟨fun u hu => ?_, ?_⟩
  · rw [List.mem_append] at hu
    rcases hu with hu | hu
    · exact h.1 u hu
    · simp at hu; subst hu; exact ⟨h0, h1⟩
  · rw [List.map_append, List.nodup_append]
    refine ⟨h.2, by simp, fun a ha b hb => ?_⟩
    simp at hb
    subst hb
    obtain ⟨u, hu, rfl⟩ := List.mem_map.1 ha
    exact (placesOf_nil_iff m t.1).1 h2 u hu
theorem GoodPre.bad {many : Nat} {m rest : List (Int × Nat)} {t : Int × Nat} (hb : t.1 < 0 ∨ (many : Int) ≤ t.1 ∨ placesOf m t.1 ≠ []) : ¬ GoodPre many (m ++ t :: rest) := by
  rintro ⟨h1, h2⟩
  have ht := h1 t (by simp)
  rcases hb with h | h | h
  · omega
  · omega
  · apply h
    rw [placesOf_nil_iff]
    intro u hu e
    rw [List.map_append, List.nodup_append] at h2
    exact h2.2.2 u.1 (List.mem_map.2 ⟨u, hu, rfl⟩) t.1 (by simp) e
theorem marksOk_pre (s : Asm) : MarksOk s ↔ GoodPre s.labels s.marks := Iff.rfl
theorem fillAll_snoc (marks : List (Int × Nat)) : ∀ (code : List Ins) (tos : List (Option Int)) (x : Ins) (t : Option Int) (out : List Ins) (y : Ins), code.length = tos.length → fillAll marks code tos = some out → fill1 marks x t = some y → fillAll marks (code ++ [x]) (tos ++ [t]) = some (out ++ [y])
  | [], [], x, t, out, y, _, h, hy => by
    simp [fillAll] at h
    subst h
    simp [fillAll, hy]
  | [], _ :: _, x, t, out, y, hl, _, _ => by simp at hl
  | _ :: _, [], x, t, out, y, hl, _, _ => by simp at hl
  | c :: cs, u :: us, x, t, out, y, hl, h, hy => by
    simp only [List.cons_append, fillAll] at h ⊢
    cases h1 : fill1 marks c u with
    | none => rw [h1] at h; simp at h
    | some z =>
      rw [h1] at h
      simp only at h ⊢
      cases h2 : fillAll marks cs us with
      | none => rw [h2] at h; simp at h
      | some o2 =>
        rw [h2] at h
        simp at h
        rw [fillAll_snoc marks cs us x t o2 y (by simpa using hl) h2 hy, ← h]
        rfl
theorem fillAll_bad (marks : List (Int × Nat)) : ∀ (code : List Ins) (tos : List (Option Int)) (i : Nat) (x : Ins) (t : Option Int), code.length = tos.length → code[i]? = some x → tos[i]? = some t → fill1 marks x t = none → fillAll marks code tos = none
  | [], _, i, x, t, _, h, _, _ => by simp at h
  | _ :: _, [], i, x, t, hl, _, _, _ => by simp at hl
  | c :: cs, u :: us, 0, x, t, _, h, ht, hy => by
    simp at h ht
    subst h ht
    simp [fillAll, hy]
  | c :: cs, u :: us, i + 1, x, t, hl, h, ht, hy => by
    have := fillAll_bad marks cs us i x t (by simpa using hl) (by simpa using h) (by simpa using ht) hy
    simp only [fillAll]
    cases h1 : fill1 marks c u with
    | none => rfl
    | some z => simp [this]
theorem fillAll_len (marks : List (Int × Nat)) : ∀ (code : List Ins) (tos : List (Option Int)) (out : List Ins), code.length = tos.length → fillAll marks code tos = some out → out.length = code.length
  | [], [], out, _, h => by simp [fillAll] at h; subst h; rfl
  | [], _ :: _, out, hl, _ => by simp at hl
  | _ :: _, [], out, hl, _ => by simp at hl
  | c :: cs, u :: us, out, hl, h => by
    simp only [fillAll] at h
    cases h1 : fill1 marks c u with
    | none => rw [h1] at h; simp at h
    | some z =>
      rw [h1] at h
      simp only at h
      cases h2 : fillAll marks cs us with
      | none => rw [h2] at h; simp at h
      | some o2 =>
        rw [h2] at h
        simp at h
        rw [← h, List.length_cons, List.length_cons, fillAll_len marks cs us o2 (by simpa using hl) h2]
end Go.Proofs.Ythgcmafeahlmpaa
