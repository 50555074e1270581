/- A run alone, plainly. -/
import Derived.Test.YtgeapkalabijmaaGreatK9
import Derived.Test.YtgeapkalabijmaaGreatK4
namespace Go.Proofs.YtgeapkalabijmaaGreat
open Go Go.RowKit
set_option maxRecDepth 100000
set_option maxHeartbeats 1000000
set_option linter.unusedVariables false
set_option linter.unusedSimpArgs false

/-- A step, and the number that it asks for. -/
def oneP (s : Mc) (fs : List Nat) : Mc := if (stepP s).2.kind = 1 then (giveP (stepP s).1 (getV fs (stepP s).2.cell)).1 else (stepP s).1
/-- So many steps, till it ends. -/
def runN : Nat → Mc → List Nat → Mc
  | 0, s, _ => s
  | k + 1, s, fs => if s.how.1 = 0 then runN k (oneP s fs) fs else s
theorem runN_over {k : Nat} {s : Mc} {fs : List Nat} (h : s.how.1 ≠ 0) : runN k s fs = s := by
  cases k with
  | zero => rfl
  | succ k => exact if_neg h
theorem runN_go {k : Nat} {s : Mc} {fs : List Nat} (h : s.how.1 = 0) : runN (k + 1) s fs = runN k (oneP s fs) fs := if_pos h
/-- The cells that were written are cells. -/
def InR (s : Mc) : Prop := ∀ p ∈ s.buf, 0 ≤ p.1 ∧ p.1 < s.cells
theorem putN_mem {l : List (Int × Nat)} {c : Int} {x : Nat} {p : Int × Nat} (h : p ∈ putN l c x) : p ∈ l ∨ p.1 = c := by
  unfold putN at h
  cases hp : pos l c with
  | none =>
    rw [hp] at h
    rw [List.mem_append] at h
    rcases h with h | h
    · exact .inl h
    · simp at h; subst h; exact .inr rfl
  | some i =>
    rw [hp] at h
    rcases List.mem_or_eq_of_mem_set h with h | h
    · exact .inl h
    · subst h; exact .inr rfl
/-- It has ended, and how. -/
structure Over (s s0 : Mc) : Prop where
  how : s.how.1 = 1 ∨ s.how.1 = 2 ∨ s.how.1 = 3
  err : s.how.1 = 3 ↔ s.how.2.2 ≠ 0
  fixd : s.fixd = s0.fixd
  tag : s0.tag ≠ 2 → s.buf = []
  inr : InR s
theorem cells_fixd {s s0 : Mc} (h : s.fixd = s0.fixd) : s.cells = s0.cells := by unfold Mc.fixd at h; simp only [Prod.mk.injEq] at h; exact h.1
/-- One more of one that goes on. -/
theorem one_goes {s s0 : Mc} {i : Nat} (fs : List Nat) (h : Goes s s0 i) (hf : s.Fine) (hr : InR s) :
    (((stepP s).2 = askEnd ∧ oneP s fs = (stepP s).1) ∧ Over (oneP s fs) s0) ∨ (((i + 1 : Nat) : Int) ≤ s0.fuel ∧ Goes (oneP s fs) s0 (i + 1) ∧ InR (oneP s fs) ∧ Went s (s.used + 1) (stepP s)) := by
  rcases h.class hf with ⟨u, hu, he⟩ | ⟨hu, hw⟩
  · have e : oneP s fs = (stepP s).1 := by unfold oneP; rw [he.ask]; exact if_neg (by decide)
    have hfx : (stepP s).1.fixd = s0.fixd := by rw [step_fixd, h.fixd]
    refine .inl ⟨⟨he.ask, e⟩, ?_⟩
    rw [e]
    refine ⟨he.how, he.err, hfx, fun ht => by rw [he.buf]; exact h.tag ht, fun p hp => ?_⟩
    rw [he.buf] at hp
    rw [cells_fixd (step_fixd s)]
    exact hr p hp
  · have hr2 : InR (stepP s).1 := by
      intro p hp
      rw [cells_fixd (step_fixd s)]
      rcases hw.kind with k | k | k | k
      · rw [(hw.none_ k).1] at hp; exact hr p hp
      · rw [(hw.read k).1] at hp; exact hr p hp
      · rw [(hw.own k).1] at hp; exact hr p hp
      · rw [(hw.write k).2.1] at hp
        rcases putN_mem hp with hp | hp
        · exact hr p hp
        · rw [hp]; exact hw.cell (by rw [k]; decide)
    have hs := h.step hw
    refine .inr ⟨hu, ?_⟩
    unfold oneP
    by_cases hk : (stepP s).2.kind = 1
    · rw [if_pos hk]
      refine ⟨hs.1 _ hk, fun p hp => ?_, hw⟩
      have hwt : (stepP s).1.waits = true := by rw [hw.waits, hk]; rfl
      rw [(give_went hwt _).2.2.2.2] at hp
      rw [cells_fixd (give_fixd _ _)]
      exact hr2 p hp
    · rw [if_neg hk]
      exact ⟨hs.2 hk, hr2, hw⟩
/-- The whole run. -/
def runP (s0 : Mc) (fs : List Nat) : Mc := runN (s0.fuel.toNat + 1) s0 fs
theorem hows {s s0 : Mc} {i : Nat} (h : Goes s s0 i) : s.how.1 = 0 := by rw [h.how]
theorem overs {s s0 : Mc} (h : Over s s0) : s.how.1 ≠ 0 := by rcases h.how with e | e | e <;> rw [e] <;> decide
/-- What the state has then. -/
def afterL (s : Mc) (fs : List Nat) : List Nat := if s.how.1 = 1 then applyL fs s.buf else fs
/-- Whether a run may be. -/
def RunOk (c t f r : Int) (nargs nfs : Nat) : Prop := CfgOk c t f r ∧ (nfs : Int) = c ∧ nargs ≤ 8
instance (c t f r : Int) (a b : Nat) : Decidable (RunOk c t f r a b) := by unfold RunOk; infer_instance
end Go.Proofs.YtgeapkalabijmaaGreat
