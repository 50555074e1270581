/- What an argument's reading says of its cells and of its weights. -/
import Derived.Test.YtpigcmedkljonabOpen
namespace Go.Proofs.Ytpigcmedkljonab
open Go Go.RowKit
set_option linter.unusedVariables false
set_option linter.unusedSimpArgs false

section
variable {H : Type} {enc : TypeId × Value → H} {P : Program} {w : World} {base : Nat} {spare : Nat → Bool} {held : Bool}

/-- All weights fit. -/
def FitsW (P : Program) (t : TypeId) (d : DataW H) : Prop := ∀ n ∈ d.weights P t, n ≤ reachBytes

theorem FitsW.of_each {ts : List TypeId} {ds : List (DataW H)} (hsz : (DataW.weightsEach P ts ds).all (· ≤ reachBytes) = true) (j : Nat) {t : TypeId} {d : DataW H} (ht : ts[j]? = some t) (hd : ds[j]? = some d) : FitsW P t d := fun n hn => by
  have := List.all_eq_true.1 hsz _ (DataW.weights_mem_each ht hd n hn)
  simpa using this

theorem weights_mem_all {e : TypeId} : ∀ {ds : List (DataW H)} {i : Nat} {d : DataW H}, ds[i]? = some d → ∀ n ∈ d.weights P e, n ∈ DataW.weightsAll P e ds
  | [], i, d, h, n, hn => by simp at h
  | d0 :: ds, 0, d, h, n, hn => by
    simp at h; subst h; simp only [DataW.weightsAll, List.mem_append]; exact .inl hn
  | d0 :: ds, i + 1, d, h, n, hn => by
    simp only [List.getElem?_cons_succ] at h
    simp only [DataW.weightsAll, List.mem_append]
    exact .inr (weights_mem_all h n hn)

theorem FitsW.field {t : TypeId} {fs : Array Field} {ds : List (DataW H)} (h : FitsW P t (.agg ds)) (ht : P.underlying t = some (.struct fs)) (j : Nat) {f : TypeId} {d : DataW H} (hf : (fs.toList.map (·.type))[j]? = some f) (hd : ds[j]? = some d) : FitsW P f d := fun n hn => by
  refine h n ?_
  simp only [DataW.weights, ht]
  exact DataW.weights_mem_each hf hd n hn

theorem open_rowsW {t e : TypeId} {fuel : Nat} {av : Option Addr} {len cap : Nat} {x : DataW H × List MemPlace} (k : Nat) (hk : P.cellsOf e = k) (hk0 : 0 < k) (ht : P.underlying t = some (.slice e))
    (h : DataW.trod enc P w base spare held fuel t [.slice av len cap] = some x) (hw : FitsW P t x.1) :
    len * P.bytesOf e ≤ reachBytes ∧ len ≤ cap ∧ cap ≤ maxLen ∧ ∃ (f : Nat → List Value) (n : Nat), ∀ i, i < len → (f i).length = k ∧ (∃ y, DataW.trod enc P w base spare held n e (f i) = some y ∧ FitsW P e y.1) ∧
      ∃ b o, av = some ⟨b, o, none⟩ ∧ ∀ j v, (f i)[j]? = some v → w.cell? ⟨b, o + i * k + j, none⟩ = some v := by
  rcases Deep.open_slice ht h with ⟨hcs, _⟩ | ⟨a, l, c, m, n, D, Pl, hcs, hb, hl, hm, hmm, hxx, hx⟩
  · simp at hcs
    obtain ⟨rfl, rfl, rfl⟩ := hcs
    exact ⟨by simp, Nat.le_refl _, Nat.zero_le _, fun _ => [], 0, fun i hi => absurd hi (Nat.not_lt_zero _)⟩
  · simp at hcs
    obtain ⟨rfl, rfl, rfl⟩ := hcs
    rw [hxx] at hw
    have hmem : ∀ i, i < len → FitsW P e (D i) := fun i hi n hn => by
      refine hw n ?_
      simp only [DataW.weights, ht, List.mem_cons, List.mem_append]
      exact .inr (.inl (weights_mem_all (i := i) (by simp [hi]) n hn))
    refine ⟨?_, hl, hm, ?_⟩
    · have := hw (((List.range len).map D).length * P.bytesOf e + ((List.range (m - len)).map fun j => D (len + j)).length * P.bytesOf e) (by simp only [DataW.weights, ht, List.mem_cons, ← Nat.add_mul]; exact .inl trivial)
      simp at this
      omega
    rw [hk] at hx
    obtain ⟨f, hf⟩ := Deep.choose_lt (α := List Value) (n := len) (p := fun i cs => w.cells? base (a.add (i * k)) k = some cs ∧ DataW.trod enc P w base spare held n e cs = some (D i, Pl i))
      (fun i hi => hx i (by rw [hmm]; split <;> omega))
    refine ⟨f, n, fun i hi => ?_⟩
    obtain ⟨h1, h2⟩ := hf i hi
    obtain ⟨_, hlen, hc⟩ := World.cells?_some h1
    refine ⟨hlen, ⟨_, h2, hmem i hi⟩, ?_⟩
    have h0 : w.cell? a = some ((f 0)[0]'(by have := (World.cells?_some (hf 0 (by omega)).1).2.1; omega)) := by
      have := (World.cells?_some (hf 0 (by omega)).1)
      have h3 := this.2.2 0 hk0
      simp [Addr.add] at h3
      rw [h3, List.getElem?_eq_getElem]
    have ha := cell_spot h0
    refine ⟨a.block, a.off, by rw [← ha], fun j v hj => ?_⟩
    have hjk : j < k := by have := (List.getElem?_eq_some_iff.1 hj).1; omega
    have h4 := hc j hjk
    rw [hj] at h4
    rw [ha] at h4
    rw [show ((⟨a.block, a.off, none⟩ : Addr).add (i * k)).add j = ⟨a.block, a.off + i * k + j, none⟩ from by
      unfold Addr.add
      by_cases e1 : i * k = 0
      · by_cases e2 : j = 0
        · simp [e1, e2]
        · simp [e1, e2]
      · by_cases e2 : j = 0
        · simp [e1, e2]
        · simp [e1, e2]] at h4
    exact h4

/-- .. read as a list of typed things, each of which answers a property. -/
theorem open_typedW {α : Type} [Inhabited α] {t e : TypeId} {fuel : Nat} {av : Option Addr} {len cap : Nat} {x : DataW H × List MemPlace} (k : Nat) (hk : P.cellsOf e = k) (hk0 : 0 < k) (ht : P.underlying t = some (.slice e))
    (val : α → List Value) (Q : α → Prop) (hv : ∀ n cs y, cs.length = k → DataW.trod enc P w base spare held n e cs = some y → FitsW P e y.1 → ∃ a, cs = val a ∧ Q a)
    (h : DataW.trod enc P w base spare held fuel t [.slice av len cap] = some x) (hw : FitsW P t x.1) :
    len * P.bytesOf e ≤ reachBytes ∧ ∃ l : List α, l.length = len ∧ len ≤ cap ∧ cap ≤ maxLen ∧ ∀ i x, l[i]? = some x → Q x ∧ ∃ b o, av = some ⟨b, o, none⟩ ∧ ∀ j v, (val x)[j]? = some v → w.cell? ⟨b, o + i * k + j, none⟩ = some v := by
  obtain ⟨hL, hl, hm, f, n, hf⟩ := open_rowsW k hk hk0 ht h hw
  refine ⟨hL, ?_⟩
  obtain ⟨g, hg⟩ := Deep.choose_lt (α := α) (n := len) (p := fun i a => f i = val a ∧ Q a) (fun i hi => by
    obtain ⟨hlen, ⟨y, hy, hyw⟩, _⟩ := hf i hi
    exact hv n (f i) y hlen hy hyw)
  refine ⟨(List.range len).map g, by simp, hl, hm, ?_⟩
  intro i y hy
  have hi : i < len := by have := (List.getElem?_eq_some_iff.1 hy).1; simpa using this
  obtain rfl : g i = y := by simpa [hi] using hy
  obtain ⟨_, _, b, o, hav, hc⟩ := hf i hi
  obtain ⟨e1, e2⟩ := hg i hi
  rw [e1] at hc
  exact ⟨e2, b, o, hav, hc⟩

/-- A slice in a field: its parts. -/
theorem trod_slice_val {t e : TypeId} {fuel : Nat} {cs : List Value} {x : DataW H × List MemPlace} (ht : P.underlying t = some (.slice e)) (h : DataW.trod enc P w base spare held fuel t cs = some x) : ∃ av len cap, cs = [.slice av len cap] := by
  rcases Deep.open_slice ht h with ⟨hcs, _⟩ | ⟨a, l, c, m, n, D, Pl, hcs, _⟩
  · exact ⟨_, _, _, hcs⟩
  · exact ⟨_, _, _, hcs⟩

theorem trod_struct4 {t : TypeId} {f0 f1 f2 f3 : Field} {fuel : Nat} {cs : List Value} {x : DataW H × List MemPlace} (ht : P.underlying t = some (.struct #[f0, f1, f2, f3])) (h : DataW.trod enc P w base spare held fuel t cs = some x) :
    ∃ y0 y1 y2 y3 n, x.1 = .agg [y0.1, y1.1, y2.1, y3.1] ∧ cs.length = P.cellsOf t ∧ DataW.trod enc P w base spare held n f0.type ((cs.drop f0.offset).take (P.cellsOf f0.type)) = some y0 ∧
      DataW.trod enc P w base spare held n f1.type ((cs.drop f1.offset).take (P.cellsOf f1.type)) = some y1 ∧ DataW.trod enc P w base spare held n f2.type ((cs.drop f2.offset).take (P.cellsOf f2.type)) = some y2 ∧
      DataW.trod enc P w base spare held n f3.type ((cs.drop f3.offset).take (P.cellsOf f3.type)) = some y3 := by
  obtain ⟨xs, n, _, rfl, hl, hlen, hf⟩ := DataW.trod_struct ht h
  match xs, hlen with
  | [y0, y1, y2, y3], _ => exact ⟨y0, y1, y2, y3, n, by simp, hl, by simpa using hf 0 f0 rfl, by simpa using hf 1 f1 rfl, by simpa using hf 2 f2 rfl, by simpa using hf 3 f3 rfl⟩
end

end Go.Proofs.Ytpigcmedkljonab
