/- The program that comes of a builder: plain laws, and what lies in memory on the way. -/
import Derived.Test.YtgeapkalabijmaaGreatA5
namespace Go.Proofs.YtgeapkalabijmaaGreat
open Go Go.RowKit
set_option maxRecDepth 100000
set_option maxHeartbeats 1000000
set_option linter.unusedVariables false
set_option linter.unusedSimpArgs false

/-- One instruction's number is put in. -/
def setN (cs : List Ins) (i n : Nat) : List Ins := match cs[i]? with | some x => cs.set i (x.1, (n : Int), x.2.2) | none => cs
theorem setN_len (cs : List Ins) (i n : Nat) : (setN cs i n).length = cs.length := by
  unfold setN
  split
  · simp
  · rfl
def fillL (marks : List (Int × Nat)) (cs : List Ins) (ls : List (Nat × Int)) : List Ins := ls.foldl (fun cs t => setN cs t.1 ((placesOf marks t.2).headD 0)) cs
theorem fillL_len (marks : List (Int × Nat)) : ∀ (ls : List (Nat × Int)) (cs : List Ins), (fillL marks cs ls).length = cs.length
  | [], cs => rfl
  | t :: ls, cs => by
    show (fillL marks (setN cs t.1 _) ls).length = cs.length
    rw [fillL_len marks ls, setN_len]
theorem fillL_snoc (marks : List (Int × Nat)) (cs : List Ins) (ls : List (Nat × Int)) (t : Nat × Int) : fillL marks cs (ls ++ [t]) = setN (fillL marks cs ls) t.1 ((placesOf marks t.2).headD 0) := by
  unfold fillL
  rw [List.foldl_append]
  rfl
theorem fillAll_fold (marks : List (Int × Nat)) : ∀ (code : List Ins) (tos : List (Option Int)) (pre : List Ins), code.length = tos.length → (∀ t ∈ laterOf pre.length tos, placesOf marks t.2 ≠ []) →
    ∃ out, fillAll marks code tos = some out ∧ fillL marks (pre ++ code) (laterOf pre.length tos) = pre ++ out
  | [], [], pre, _, _ => ⟨[], rfl, rfl⟩
  | x :: xs, [], pre, h, _ => by simp at h
  | [], t :: ts, pre, h, _ => by simp at h
  | x :: xs, none :: ts, pre, h, hp => by
    obtain ⟨out, h1, h2⟩ := fillAll_fold marks xs ts (pre ++ [x]) (by simpa using h) (by simpa [laterOf] using hp)
    refine ⟨x :: out, by simp [fillAll, fill1, h1], ?_⟩
    have : laterOf pre.length (none :: ts) = laterOf (pre ++ [x]).length ts := by simp [laterOf]
    rw [this]
    simpa using h2
  | x :: xs, some l :: ts, pre, h, hp => by
    obtain ⟨n, ps, hps⟩ : ∃ n ps, placesOf marks l = n :: ps := by
      have := hp (pre.length, l) (by simp [laterOf])
      cases hq : placesOf marks l with
      | nil => exact absurd hq this
      | cons n ps => exact ⟨n, ps, rfl⟩
    obtain ⟨out, h1, h2⟩ := fillAll_fold marks xs ts (pre ++ [(x.1, (n : Int), x.2.2)]) (by simpa using h) (fun t ht => hp t (by simp [laterOf] at ht ⊢; exact .inr ht))
    refine ⟨(x.1, (n : Int), x.2.2) :: out, by simp [fillAll, fill1, hps, h1], ?_⟩
    have e1 : laterOf pre.length (some l :: ts) = (pre.length, l) :: laterOf (pre ++ [(x.1, (n : Int), x.2.2)]).length ts := by simp [laterOf]
    have e2 : setN (pre ++ x :: xs) pre.length n = (pre ++ [(x.1, (n : Int), x.2.2)]) ++ xs := by
      unfold setN
      simp
    rw [e1]
    show fillL marks (setN (pre ++ x :: xs) pre.length ((placesOf marks l).headD 0)) _ = _
    rw [hps]
    show fillL marks (setN (pre ++ x :: xs) pre.length n) _ = _
    rw [e2, h2]
    simp
theorem fillAll_some {marks : List (Int × Nat)} {code : List Ins} {tos : List (Option Int)} (h : code.length = tos.length) (hp : ∀ t ∈ laterOf 0 tos, placesOf marks t.2 ≠ []) : fillAll marks code tos = some (fillL marks code (laterOf 0 tos)) := by
  obtain ⟨out, h1, h2⟩ := fillAll_fold marks code tos [] h hp
  simp at h2
  rw [h1, h2]
theorem fillAll_none' (marks : List (Int × Nat)) : ∀ (code : List Ins) (tos : List (Option Int)) (n : Nat), code.length = tos.length → (∃ t ∈ laterOf n tos, placesOf marks t.2 = []) → fillAll marks code tos = none
  | [], [], n, _, h => by obtain ⟨t, ht, _⟩ := h; simp [laterOf] at ht
  | x :: xs, [], n, h, _ => by simp at h
  | [], t :: ts, n, h, _ => by simp at h
  | x :: xs, none :: ts, n, h, hp => by
    have := fillAll_none' marks xs ts (n + 1) (by simpa using h) (by simpa [laterOf] using hp)
    simp [fillAll, fill1, this]
  | x :: xs, some l :: ts, n, h, hp => by
    obtain ⟨t, ht, hq⟩ := hp
    simp [laterOf] at ht
    cases hl : placesOf marks l with
    | nil => simp [fillAll, fill1, hl]
    | cons m ps =>
      rcases ht with rfl | ht
      · simp only at hq; rw [hl] at hq; cases hq
      · have := fillAll_none' marks xs ts (n + 1) (by simpa using h) ⟨t, ht, hq⟩
        simp [fillAll, fill1, hl, this]

open Classical in
/-- The program's error. -/
noncomputable def progE (s : Asm) : Int := if MarksOk s then (match fillAll s.marks s.code s.tos with | none => 190 | some l => checkE s.tag l) else 190
theorem progE_marks {s : Asm} (h : ¬ MarksOk s) : progE s = 190 := by unfold progE; rw [if_neg h]
theorem progE_none {s : Asm} (h : MarksOk s) (h2 : fillAll s.marks s.code s.tos = none) : progE s = 190 := by unfold progE; rw [if_pos h, h2]
theorem progE_some {s : Asm} {l : List Ins} (h : MarksOk s) (h2 : fillAll s.marks s.code s.tos = some l) : progE s = checkE s.tag l := by unfold progE; rw [if_pos h, h2]

theorem insV_set {cs : List Ins} {i n : Nat} {x : Ins} (h : cs[i]? = some x) : insV (setN cs i n) = (insV cs).set (i * 3 + 1) (.int .i64 (n : Int)) := by
  have key : ∀ (cs : List Ins) (i : Nat) (x : Ins), cs[i]? = some x → insV (cs.set i (x.1, (n : Int), x.2.2)) = (insV cs).set (i * 3 + 1) (.int .i64 (n : Int)) := by
    intro cs
    induction cs with
    | nil => intro i x h; simp at h
    | cons t l ih =>
      intro i x h
      cases i with
      | zero => simp at h; subst h; rfl
      | succ i =>
        have := ih i x (by simpa using h)
        rw [List.set_cons_succ, show (i + 1) * 3 + 1 = (i * 3 + 1) + 3 by omega]
        show [Value.int .i64 t.1, .int .i64 t.2.1, fl t.2.2] ++ insV (l.set i (x.1, (n : Int), x.2.2)) = ([Value.int .i64 t.1, .int .i64 t.2.1, fl t.2.2] ++ insV l).set (i * 3 + 1 + 3) _
        rw [this]
        rfl
  unfold setN
  rw [h]
  exact key cs i x h

/-- The program under way: the result's block, the program's, its instructions' row. -/
def PS (w wr : World) (r0 q gc : Nat) (tag : Int) (cs : List Ins) : Prop :=
  Chg w wr Nothing ∧ wr.heap[r0]? = some (.cells #[.int .i64 0, .slice none 0 0] 26 (0, 0)) ∧ wr.heap[q]? = some (.cells #[.int .i64 tag, .slice (some ⟨gc, 0, none⟩) cs.length cs.length] 26 (0, 0)) ∧
    wr.ownsRow w.heap.size 73 3 (.slice (some ⟨gc, 0, none⟩) cs.length cs.length) cs.length (insV cs) ∧ w.heap.size ≤ r0 ∧ w.heap.size ≤ q ∧ q ≠ gc ∧ r0 ≠ gc ∧ r0 ≠ q
theorem PS.drewN {w wr : World} {r0 q gc : Nat} {tag : Int} {cs : List Ins} (h : PS w wr r0 q gc tag cs) (m : Nat) : PS w (wr.drewN m) r0 q gc tag cs := by
  obtain ⟨h1, h2, h3, h4, h5⟩ := h
  exact ⟨h1.drewN m, h2, h3, ownsRow_heap h4 (fun _ _ => rfl), h5⟩
theorem PS.stored {w wr : World} {r0 q gc i n : Nat} {tag : Int} {cs : List Ins} {x : Ins} (h : PS w wr r0 q gc tag cs) (hi : cs[i]? = some x) :
    PS w (wr.setCell ⟨gc, i * 3 + 1, none⟩ (.int .i64 (n : Int))) r0 q gc tag (setN cs i n) ∧ wr.cell? ⟨gc, i * 3 + 1, none⟩ = some (.int .i64 x.2.1) ∧ wr.frozen? ⟨gc, i * 3 + 1, none⟩ = false := by
  obtain ⟨h1, h2, h3, h4, h5, h6, h7, h8, h9⟩ := h
  have hgw : w.heap.size ≤ gc := (h4.lt gc rfl).1
  have s1 := h4.stored (i * 3 + 1) (.int .i64 (n : Int))
  have hc : (insV cs)[i * 3 + 1]? = some (.int .i64 x.2.1) := (insV_at cs i x hi).2.1
  refine ⟨⟨h1.setCell (.inl hgw) _, (blk_set_other h2 h8 _), ?_, ?_, h5, h6, h7, h8, h9⟩, ?_, h4.frozenAt _⟩
  · rw [setN_len]; exact blk_set_other h3 h7 _
  · rw [setN_len, insV_set hi]; exact s1.1
  · have := h4.cellAt (i * 3 + 1) (by have := (List.getElem?_eq_some_iff.1 hc).1; rw [insV_len] at this; exact this)
    rw [this, hc]
end Go.Proofs.YtgeapkalabijmaaGreat
