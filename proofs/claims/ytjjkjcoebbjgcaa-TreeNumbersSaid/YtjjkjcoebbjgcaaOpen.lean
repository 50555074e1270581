/- What an argument's reading says of its cells. -/
import Derived.Test.YtjjkjcoebbjgcaaBase
import Derived.ProofKit
import Derived.OpenShut
import Derived.ShutString
import Derived.ChangeOld
import Derived.Below
import Derived.Deep.Slices
import Derived.Deep.Strs
import Derived.SizedLaws
namespace Go.Proofs.Ytjjkjcoebbjgcaa
open Go Go.RowKit
set_option maxRecDepth 100000
set_option maxHeartbeats 1000000
set_option linter.unusedVariables false
set_option linter.unusedSimpArgs false

section
variable {H : Type} {enc : TypeId × Value → H} {P : Program} {w : World} {base : Nat} {spare : Nat → Bool} {held : Bool}

theorem cell_spot {w : World} {a : Addr} {v : Value} (h : w.cell? a = some v) : a = ⟨a.block, a.off, none⟩ := by
  obtain ⟨b, o, s⟩ := a
  cases s with
  | none => rfl
  | some s =>
    simp only [World.cell?] at h
    split at h <;> simp at h

/-- A datum is a slice of so many. -/
def LenOf (d : DataW H) (len : Nat) : Prop := len = 0 ∨ ∃ elems spare, d = .slice elems spare ∧ elems.length = len

theorem LenOf.reach {d : DataW H} {len b : Nat} (h : LenOf d len) {ts : List TypeId} {ds : List (DataW H)} (hsz : (DataW.weightsEach P ts ds).all (· ≤ reachBytes) = true) (j : Nat) {t e : TypeId}
    (ht : ts[j]? = some t) (hd : ds[j]? = some d) (hu : P.underlying t = some (.slice e)) (hb : P.bytesOf e = b) : len * b ≤ 140737488351232 := by
  rcases h with rfl | ⟨elems, spare, rfl, rfl⟩
  · simp
  · have := sized_slice hsz ht hd hu
    rw [hb, Nat.add_mul] at this
    simp only [reachBytes] at this
    omega

/-- A slice, row by row: each row's cells, and that they read as the element type's. -/
theorem open_rows {t e : TypeId} {fuel : Nat} {av : Option Addr} {len cap : Nat} {x : DataW H × List MemPlace} (k : Nat) (hk : P.cellsOf e = k) (hk0 : 0 < k) (ht : P.underlying t = some (.slice e))
    (h : DataW.trod enc P w base spare held fuel t [.slice av len cap] = some x) :
    LenOf x.1 len ∧ len ≤ cap ∧ cap ≤ maxLen ∧ ∃ (f : Nat → List Value) (n : Nat), ∀ i, i < len → (f i).length = k ∧ (∃ y, DataW.trod enc P w base spare held n e (f i) = some y) ∧
      ∃ b o, av = some ⟨b, o, none⟩ ∧ ∀ j v, (f i)[j]? = some v → w.cell? ⟨b, o + i * k + j, none⟩ = some v := by
  rcases Deep.open_slice ht h with ⟨hcs, _⟩ | ⟨a, l, c, m, n, D, Pl, hcs, hb, hl, hm, hmm, hxx, hx⟩
  · simp at hcs
    obtain ⟨rfl, rfl, rfl⟩ := hcs
    exact ⟨.inl rfl, Nat.le_refl _, Nat.zero_le _, fun _ => [], 0, fun i hi => absurd hi (Nat.not_lt_zero _)⟩
  · simp at hcs
    obtain ⟨rfl, rfl, rfl⟩ := hcs
    refine ⟨.inr ⟨_, _, by rw [hxx], by simp⟩, hl, hm, ?_⟩
    rw [hk] at hx
    obtain ⟨f, hf⟩ := Deep.choose_lt (α := List Value) (n := len) (p := fun i cs => w.cells? base (a.add (i * k)) k = some cs ∧ DataW.trod enc P w base spare held n e cs = some (D i, Pl i))
      (fun i hi => hx i (by rw [hmm]; split <;> omega))
    refine ⟨f, n, fun i hi => ?_⟩
    obtain ⟨h1, h2⟩ := hf i hi
    obtain ⟨_, hlen, hc⟩ := World.cells?_some h1
    refine ⟨hlen, ⟨_, h2⟩, ?_⟩
    have h0 : w.cell? a = some ((f 0)[0]'(by have := (World.cells?_some (hf 0 (by omega)).1).2.1; omega)) := by
      have := (World.cells?_some (hf 0 (by omega)).1)
      have h3 := this.2.2 0 hk0
      simp [Addr.add] at h3
      rw [h3, List.getElem?_eq_getElem]
    have ha := cell_spot h0
    refine ⟨a.block, a.off, by rw [← ha], fun j v hj => ?_⟩
    have hjk : j < k := by have := (List.getElem?_eq_some_iff.1 hj).1; omega
    have h4 := hc j hjk
    rw [hj] at h4
    rw [ha] at h4
    rw [show ((⟨a.block, a.off, none⟩ : Addr).add (i * k)).add j = ⟨a.block, a.off + i * k + j, none⟩ from by
      unfold Addr.add
      by_cases e1 : i * k = 0
      · by_cases e2 : j = 0
        · simp [e1, e2]
        · simp [e1, e2]
      · by_cases e2 : j = 0
        · simp [e1, e2]
        · simp [e1, e2]] at h4
    exact h4

/-- .. read as a list of typed things. -/
theorem open_typed {α : Type} [Inhabited α] {t e : TypeId} {fuel : Nat} {av : Option Addr} {len cap : Nat} {x : DataW H × List MemPlace} (k : Nat) (hk : P.cellsOf e = k) (hk0 : 0 < k) (ht : P.underlying t = some (.slice e))
    (val : α → List Value) (hv : ∀ n cs y, cs.length = k → DataW.trod enc P w base spare held n e cs = some y → ∃ a, cs = val a)
    (h : DataW.trod enc P w base spare held fuel t [.slice av len cap] = some x) :
    LenOf x.1 len ∧ ∃ l : List α, l.length = len ∧ len ≤ cap ∧ cap ≤ maxLen ∧ ∀ i x, l[i]? = some x → ∃ b o, av = some ⟨b, o, none⟩ ∧ ∀ j v, (val x)[j]? = some v → w.cell? ⟨b, o + i * k + j, none⟩ = some v := by
  obtain ⟨hL, hl, hm, f, n, hf⟩ := open_rows k hk hk0 ht h
  refine ⟨hL, ?_⟩
  obtain ⟨g, hg⟩ := Deep.choose_lt (α := α) (n := len) (p := fun i a => f i = val a) (fun i hi => by
    obtain ⟨hlen, ⟨y, hy⟩, _⟩ := hf i hi
    exact hv n (f i) y hlen hy)
  refine ⟨(List.range len).map g, by simp, hl, hm, ?_⟩
  intro i y hy
  have hi : i < len := by have := (List.getElem?_eq_some_iff.1 hy).1; simpa using this
  obtain rfl : g i = y := by simpa [hi] using hy
  obtain ⟨_, _, b, o, hav, hc⟩ := hf i hi
  rw [hg i hi] at hc
  exact ⟨b, o, hav, hc⟩

/-- .. of elements of one cell: what the slice's address leads to. -/
theorem sees_of {α : Type} {av : Option Addr} (val : α → Value) (l : List α) (h : ∀ i x, l[i]? = some x → ∃ b o, av = some ⟨b, o, none⟩ ∧ ∀ j v, [val x][j]? = some v → w.cell? ⟨b, o + i * 1 + j, none⟩ = some v) : Sees w av (l.map val) := by
  cases l with
  | nil => exact .inl rfl
  | cons y l =>
    obtain ⟨b, o, hav, _⟩ := h 0 y rfl
    refine .inr ⟨b, o, hav, fun j u hu => ?_⟩
    rw [List.getElem?_map, Option.map_eq_some_iff] at hu
    obtain ⟨x, hx, rfl⟩ := hu
    obtain ⟨b', o', hav', hc⟩ := h j x hx
    rw [hav] at hav'
    cases hav'
    have := hc 0 _ rfl
    simpa using this

theorem ints_of {k : IntKind} {t e : TypeId} {fuel : Nat} {av : Option Addr} {len cap : Nat} {x : DataW H × List MemPlace} (hk : P.cellsOf e = 1) (ht : P.underlying t = some (.slice e)) (he : P.underlying e = some (.int k))
    (h : DataW.trod enc P w base spare held fuel t [.slice av len cap] = some x) : LenOf x.1 len ∧ ∃ zs : List Int, zs.length = len ∧ len ≤ cap ∧ cap ≤ maxLen ∧ Sees w av (zs.map (Value.int k)) ∧ ∀ z ∈ zs, (Lit.int k z).wf = true := by
  have : Inhabited { z : Int // (Lit.int k z).wf = true } := ⟨⟨0, by cases k <;> decide⟩⟩
  obtain ⟨hL, l, h1, h2, h3, h4⟩ := open_typed (α := { z : Int // (Lit.int k z).wf = true }) 1 hk (by decide) ht (fun z => [.int k z.1]) (fun n cs y hl hy => by
    obtain ⟨z, hz, _, hw⟩ := DataW.trod_int he hy
    exact ⟨⟨z, hw⟩, hz⟩) h
  refine ⟨hL, l.map (·.1), by simpa using h1, h2, h3, ?_, ?_⟩
  · rw [List.map_map]
    exact sees_of (α := { z : Int // (Lit.int k z).wf = true }) (fun z => .int k z.1) l h4
  · intro z hz
    obtain ⟨y, _, rfl⟩ := List.mem_map.1 hz
    exact y.2

theorem trod_float {t : TypeId} {fuel : Nat} {cs : List Value} {k : FloatKind} {x : DataW H × List MemPlace} (ht : P.underlying t = some (.float k)) (h : DataW.trod enc P w base spare held fuel t cs = some x) : ∃ n, cs = [.float k n] ∧ (Lit.float k n).wf = true := by
  cases fuel with
  | zero => simp [DataW.trod] at h
  | succ n =>
    unfold DataW.trod at h
    rw [ht] at h
    split at h <;> simp_all
end

end Go.Proofs.Ytjjkjcoebbjgcaa
