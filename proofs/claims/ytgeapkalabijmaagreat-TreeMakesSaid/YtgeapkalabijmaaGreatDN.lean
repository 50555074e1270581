/- Programs that are well, as they lie in memory. -/
import Derived.Test.YtgeapkalabijmaaGreatDM
namespace Go.Proofs.YtgeapkalabijmaaGreat
open Go Go.RowKit
set_option maxRecDepth 100000
set_option maxHeartbeats 1000000
set_option linter.unusedVariables false
set_option linter.unusedSimpArgs false

theorem ProgAt.holds {w : World} {b : Nat} {s : Asm} {v : Value} {out : List Ins} (h : ProgAt w b s v) (he : progE s = 0) (hf : fillAll s.marks s.code s.tos = some out) :
    ∃ g, v = .agg #[.int .i64 s.tag, .slice (some ⟨g, 0, none⟩) out.length out.length] ∧ w.ownsRow b 73 3 (.slice (some ⟨g, 0, none⟩) out.length out.length) out.length (insV out) := by
  rcases h with ⟨h1, _⟩ | ⟨_, out', g, h2, h3, h4, h5⟩
  · exact absurd he h1
  · rw [hf] at h2
    cases h2
    exact ⟨g, h4, h5⟩
/-- Several programs, each in a row of its own. -/
def Held (w : World) (b : Nat) (ts : List (Int × List Ins)) (gs : List Nat) : Prop :=
  ∀ (j : Nat) (t : Int × List Ins), ts[j]? = some t → ∃ g, gs[j]? = some g ∧ w.ownsRow b 73 3 (.slice (some ⟨g, 0, none⟩) t.2.length t.2.length) t.2.length (insV t.2)
theorem Held.quiet {w w' : World} {b : Nat} {ts : List (Int × List Ins)} {gs : List Nat} (h : Held w b ts gs) (hc : Chg w w' Nothing) : Held w' b ts gs := by
  intro j t ht
  obtain ⟨g, h1, h2⟩ := h j t ht
  exact ⟨g, h1, ownsRow_heap h2 (fun k hk => hc.block k (h2.lt k hk).2 id)⟩
theorem Held.low {w : World} {b c : Nat} {ts : List (Int × List Ins)} {gs : List Nat} (h : Held w b ts gs) (hb : c ≤ b) : Held w c ts gs := by
  intro j t ht
  obtain ⟨g, h1, h2⟩ := h j t ht
  exact ⟨g, h1, ownsRow_base h2 hb⟩
/-- Cells of a struct of programs. -/
def heldV : List (Int × List Ins) → List Nat → List Value
  | t :: ts, g :: gs => .int .i64 t.1 :: .slice (some ⟨g, 0, none⟩) t.2.length t.2.length :: heldV ts gs
  | _, _ => []
end Go.Proofs.YtgeapkalabijmaaGreat
