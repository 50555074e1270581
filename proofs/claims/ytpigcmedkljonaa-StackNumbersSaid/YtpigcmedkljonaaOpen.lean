/- What an argument's reading says of its cells. -/
import Derived.Test.YtpigcmedkljonaaBase
import Derived.ProofKit
import Derived.OpenShut
import Derived.ShutString
import Derived.ChangeOld
import Derived.Below
import Derived.Deep.Slices
import Derived.Deep.Strs
namespace Go.Proofs.Ytpigcmedkljonaa
open Go Go.RowKit
set_option linter.unusedVariables false
set_option linter.unusedSimpArgs false

section
variable {H : Type} {enc : TypeId × Value → H} {P : Program} {w : World} {base : Nat} {spare : Nat → Bool} {held : Bool}

theorem cell_spot {w : World} {a : Addr} {v : Value} (h : w.cell? a = some v) : a = ⟨a.block, a.off, none⟩ := by
  obtain ⟨b, o, s⟩ := a
  cases s with
  | none => rfl
  | some s =>
    simp only [World.cell?] at h
    split at h <;> simp at h

/-- A slice, row by row: each row's cells, and that they read as the element type's. -/
theorem open_rows {t e : TypeId} {fuel : Nat} {av : Option Addr} {len cap : Nat} {x : DataW H × List MemPlace} (k : Nat) (hk : P.cellsOf e = k) (hk0 : 0 < k) (ht : P.underlying t = some (.slice e))
    (h : DataW.trod enc P w base spare held fuel t [.slice av len cap] = some x) :
    len ≤ cap ∧ cap ≤ maxLen ∧ ∃ (f : Nat → List Value) (n : Nat), ∀ i, i < len → (f i).length = k ∧ (∃ y, DataW.trod enc P w base spare held n e (f i) = some y) ∧
      ∃ b o, av = some ⟨b, o, none⟩ ∧ ∀ j v, (f i)[j]? = some v → w.cell? ⟨b, o + i * k + j, none⟩ = some v := by
  rcases Deep.open_slice ht h with ⟨hcs, _⟩ | ⟨a, l, c, m, n, D, Pl, hcs, hb, hl, hm, hmm, _, hx⟩
  · simp at hcs
    obtain ⟨rfl, rfl, rfl⟩ := hcs
    exact ⟨Nat.le_refl _, Nat.zero_le _, fun _ => [], 0, fun i hi => absurd hi (Nat.not_lt_zero _)⟩
  · simp at hcs
    obtain ⟨rfl, rfl, rfl⟩ := hcs
    refine ⟨hl, hm, ?_⟩
    rw [hk] at hx
    obtain ⟨f, hf⟩ := Deep.choose_lt (α := List Value) (n := len) (p := fun i cs => w.cells? base (a.add (i * k)) k = some cs ∧ DataW.trod enc P w base spare held n e cs = some (D i, Pl i))
      (fun i hi => hx i (by rw [hmm]; split <;> omega))
    refine ⟨f, n, fun i hi => ?_⟩
    obtain ⟨h1, h2⟩ := hf i hi
    obtain ⟨_, hlen, hc⟩ := World.cells?_some h1
    refine ⟨hlen, ⟨_, h2⟩, ?_⟩
    have h0 : w.cell? a = some ((f 0)[0]'(by have := (World.cells?_some (hf 0 (by omega)).1).2.1; omega)) := by
      have := (World.cells?_some (hf 0 (by omega)).1)
      have h3 := this.2.2 0 hk0
      simp [Addr.add] at h3
      rw [h3, List.getElem?_eq_getElem]
    have ha := cell_spot h0
    refine ⟨a.block, a.off, by rw [← ha], fun j v hj => ?_⟩
    have hjk : j < k := by have := (List.getElem?_eq_some_iff.1 hj).1; omega
    have h4 := hc j hjk
    rw [hj] at h4
    rw [ha] at h4
    rw [show ((⟨a.block, a.off, none⟩ : Addr).add (i * k)).add j = ⟨a.block, a.off + i * k + j, none⟩ from by
      unfold Addr.add
      by_cases e1 : i * k = 0
      · by_cases e2 : j = 0
        · simp [e1, e2]
        · simp [e1, e2]
      · by_cases e2 : j = 0
        · simp [e1, e2]
        · simp [e1, e2]] at h4
    exact h4

theorem trod_float {t : TypeId} {fuel : Nat} {cs : List Value} {k : FloatKind} {x : DataW H × List MemPlace} (ht : P.underlying t = some (.float k)) (h : DataW.trod enc P w base spare held fuel t cs = some x) : ∃ n, cs = [.float k n] ∧ (Lit.float k n).wf = true := by
  cases fuel with
  | zero => simp [DataW.trod] at h
  | succ n =>
    unfold DataW.trod at h
    rw [ht] at h
    split at h <;> simp_all
end

end Go.Proofs.Ytpigcmedkljonaa
