/- What an argument's reading says of its cells. -/
import Derived.Test.YtgeapkalabijmaaGreatK1
import Derived.ProofKit
import Derived.OpenShut
import Derived.ShutString
import Derived.ChangeOld
import Derived.Below
import Derived.Deep.Slices
import Derived.Deep.Strs
import Derived.SizedLaws
import Derived.Test.YtgeapkalabijmaaGreatK5
namespace Go.Proofs.YtgeapkalabijmaaGreat
open Go Go.RowKit
set_option maxRecDepth 100000
set_option maxHeartbeats 1000000
set_option linter.unusedVariables false
set_option linter.unusedSimpArgs false

section
variable {H : Type} {enc : TypeId × Value → H} {P : Program} {w : World} {base : Nat} {spare : Nat → Bool} {held : Bool}

theorem cell_spot {w : World} {a : Addr} {v : Value} (h : w.cell? a = some v) : a = ⟨a.block, a.off, none⟩ := by
  obtain ⟨b, o, s⟩ := a
  cases s with
  | none => rfl
  | some s =>
    simp only [World.cell?] at h
    split at h <;> simp at h

/-- A datum is a slice of so many. -/
def LenOf (d : DataW H) (len : Nat) : Prop := len = 0 ∨ ∃ elems spare, d = .slice elems spare ∧ elems.length = len

theorem LenOf.reach {d : DataW H} {len b : Nat} (h : LenOf d len) {ts : List TypeId} {ds : List (DataW H)} (hsz : (DataW.weightsEach P ts ds).all (· ≤ reachBytes) = true) (j : Nat) {t e : TypeId}
    (ht : ts[j]? = some t) (hd : ds[j]? = some d) (hu : P.underlying t = some (.slice e)) (hb : P.bytesOf e = b) : len * b ≤ 140737488351232 := by
  rcases h with rfl | ⟨elems, spare, rfl, rfl⟩
  · simp
  · have := sized_slice hsz ht hd hu
    rw [hb, Nat.add_mul] at this
    simp only [reachBytes] at this
    omega

/-- A slice, row by row: each row's cells, and that they read as the element type's. -/
theorem open_rows {t e : TypeId} {fuel : Nat} {av : Option Addr} {len cap : Nat} {x : DataW H × List MemPlace} (k : Nat) (hk : P.cellsOf e = k) (hk0 : 0 < k) (ht : P.underlying t = some (.slice e))
    (h : DataW.trod enc P w base spare held fuel t [.slice av len cap] = some x) :
    LenOf x.1 len ∧ len ≤ cap ∧ cap ≤ maxLen ∧ ∃ (f : Nat → List Value) (n : Nat), ∀ i, i < len → (f i).length = k ∧ (∃ y, DataW.trod enc P w base spare held n e (f i) = some y) ∧
      ∃ b o, av = some ⟨b, o, none⟩ ∧ ∀ j v, (f i)[j]? = some v → w.cell? ⟨b, o + i * k + j, none⟩ = some v := by
  rcases Deep.open_slice ht h with ⟨hcs, _⟩ | ⟨a, l, c, m, n, D, Pl, hcs, hb, hl, hm, hmm, hxx, hx⟩
  · simp at hcs
    obtain ⟨rfl, rfl, rfl⟩ := hcs
    exact ⟨.inl rfl, Nat.le_refl _, Nat.zero_le _, fun _ => [], 0, fun i hi => absurd hi (Nat.not_lt_zero _)⟩
  · simp at hcs
    obtain ⟨rfl, rfl, rfl⟩ := hcs
    refine ⟨.inr ⟨_, _, by rw [hxx], by simp⟩, hl, hm, ?_⟩
    rw [hk] at hx
    obtain ⟨f, hf⟩ := Deep.choose_lt (α := List Value) (n := len) (p := fun i cs => w.cells? base (a.add (i * k)) k = some cs ∧ DataW.trod enc P w base spare held n e cs = some (D i, Pl i))
      (fun i hi => hx i (by rw [hmm]; split <;> omega))
    refine ⟨f, n, fun i hi => ?_⟩
    obtain ⟨h1, h2⟩ := hf i hi
    obtain ⟨_, hlen, hc⟩ := World.cells?_some h1
    refine ⟨hlen, ⟨_, h2⟩, ?_⟩
    have h0 : w.cell? a = some ((f 0)[0]'(by have := (World.cells?_some (hf 0 (by omega)).1).2.1; omega)) := by
      have := (World.cells?_some (hf 0 (by omega)).1)
      have h3 := this.2.2 0 hk0
      simp [Addr.add] at h3
      rw [h3, List.getElem?_eq_getElem]
    have ha := cell_spot h0
    refine ⟨a.block, a.off, by rw [← ha], fun j v hj => ?_⟩
    have hjk : j < k := by have := (List.getElem?_eq_some_iff.1 hj).1; omega
    have h4 := hc j hjk
    rw [hj] at h4
    rw [ha] at h4
    rw [show ((⟨a.block, a.off, none⟩ : Addr).add (i * k)).add j = ⟨a.block, a.off + i * k + j, none⟩ from by
      unfold Addr.add
      by_cases e1 : i * k = 0
      · by_cases e2 : j = 0
        · simp [e1, e2]
        · simp [e1, e2]
      · by_cases e2 : j = 0
        · simp [e1, e2]
        · simp [e1, e2]] at h4
    exact h4

/-- .. read as a list of typed things. -/
theorem open_typed {α : Type} [Inhabited α] {t e : TypeId} {fuel : Nat} {av : Option Addr} {len cap : Nat} {x : DataW H × List MemPlace} (k : Nat) (hk : P.cellsOf e = k) (hk0 : 0 < k) (ht : P.underlying t = some (.slice e))
    (val : α → List Value) (hv : ∀ n cs y, cs.length = k → DataW.trod enc P w base spare held n e cs = some y → ∃ a, cs = val a)
    (h : DataW.trod enc P w base spare held fuel t [.slice av len cap] = some x) :
    LenOf x.1 len ∧ ∃ l : List α, l.length = len ∧ len ≤ cap ∧ cap ≤ maxLen ∧ ∀ i x, l[i]? = some x → ∃ b o, av = some ⟨b, o, none⟩ ∧ ∀ j v, (val x)[j]? = some v → w.cell? ⟨b, o + i * k + j, none⟩ = some v := by
  obtain ⟨hL, hl, hm, f, n, hf⟩ := open_rows k hk hk0 ht h
  refine ⟨hL, ?_⟩
  obtain ⟨g, hg⟩ := Deep.choose_lt (α := α) (n := len) (p := fun i a => f i = val a) (fun i hi => by
    obtain ⟨hlen, ⟨y, hy⟩, _⟩ := hf i hi
    exact hv n (f i) y hlen hy)
  refine ⟨(List.range len).map g, by simp, hl, hm, ?_⟩
  intro i y hy
  have hi : i < len := by have := (List.getElem?_eq_some_iff.1 hy).1; simpa using this
  obtain rfl : g i = y := by simpa [hi] using hy
  obtain ⟨_, _, b, o, hav, hc⟩ := hf i hi
  rw [hg i hi] at hc
  exact ⟨b, o, hav, hc⟩

/-- .. of elements of one cell: what the slice's address leads to. -/
theorem sees_of {α : Type} {av : Option Addr} (val : α → Value) (l : List α) (h : ∀ i x, l[i]? = some x → ∃ b o, av = some ⟨b, o, none⟩ ∧ ∀ j v, [val x][j]? = some v → w.cell? ⟨b, o + i * 1 + j, none⟩ = some v) : Sees w av (l.map val) := by
  cases l with
  | nil => exact .inl rfl
  | cons y l =>
    obtain ⟨b, o, hav, _⟩ := h 0 y rfl
    refine .inr ⟨b, o, hav, fun j u hu => ?_⟩
    rw [List.getElem?_map, Option.map_eq_some_iff] at hu
    obtain ⟨x, hx, rfl⟩ := hu
    obtain ⟨b', o', hav', hc⟩ := h j x hx
    rw [hav] at hav'
    cases hav'
    have := hc 0 _ rfl
    simpa using this

theorem ints_of {k : IntKind} {t e : TypeId} {fuel : Nat} {av : Option Addr} {len cap : Nat} {x : DataW H × List MemPlace} (hk : P.cellsOf e = 1) (ht : P.underlying t = some (.slice e)) (he : P.underlying e = some (.int k))
    (h : DataW.trod enc P w base spare held fuel t [.slice av len cap] = some x) : LenOf x.1 len ∧ ∃ zs : List Int, zs.length = len ∧ len ≤ cap ∧ cap ≤ maxLen ∧ Sees w av (zs.map (Value.int k)) ∧ ∀ z ∈ zs, (Lit.int k z).wf = true := by
  have : Inhabited { z : Int // (Lit.int k z).wf = true } := ⟨⟨0, by cases k <;> decide⟩⟩
  obtain ⟨hL, l, h1, h2, h3, h4⟩ := open_typed (α := { z : Int // (Lit.int k z).wf = true }) 1 hk (by decide) ht (fun z => [.int k z.1]) (fun n cs y hl hy => by
    obtain ⟨z, hz, _, hw⟩ := DataW.trod_int he hy
    exact ⟨⟨z, hw⟩, hz⟩) h
  refine ⟨hL, l.map (·.1), by simpa using h1, h2, h3, ?_, ?_⟩
  · rw [List.map_map]
    exact sees_of (α := { z : Int // (Lit.int k z).wf = true }) (fun z => .int k z.1) l h4
  · intro z hz
    obtain ⟨y, _, rfl⟩ := List.mem_map.1 hz
    exact y.2

theorem trod_float {t : TypeId} {fuel : Nat} {cs : List Value} {k : FloatKind} {x : DataW H × List MemPlace} (ht : P.underlying t = some (.float k)) (h : DataW.trod enc P w base spare held fuel t cs = some x) : ∃ n, cs = [.float k n] ∧ (Lit.float k n).wf = true := by
  cases fuel with
  | zero => simp [DataW.trod] at h
  | succ n =>
    unfold DataW.trod at h
    rw [ht] at h
    split at h <;> simp_all
end

end Go.Proofs.YtgeapkalabijmaaGreat

/- What an argument's reading says of its cells and of its weights. -/
namespace Go.Proofs.YtgeapkalabijmaaGreat
open Go Go.RowKit
set_option maxRecDepth 100000
set_option maxHeartbeats 1000000
set_option linter.unusedVariables false
set_option linter.unusedSimpArgs false

section
variable {H : Type} {enc : TypeId × Value → H} {P : Program} {w : World} {base : Nat} {spare : Nat → Bool} {held : Bool}

/-- All weights fit. -/
def FitsW (P : Program) (t : TypeId) (d : DataW H) : Prop := ∀ n ∈ d.weights P t, n ≤ reachBytes

theorem FitsW.of_each {ts : List TypeId} {ds : List (DataW H)} (hsz : (DataW.weightsEach P ts ds).all (· ≤ reachBytes) = true) (j : Nat) {t : TypeId} {d : DataW H} (ht : ts[j]? = some t) (hd : ds[j]? = some d) : FitsW P t d := fun n hn => by
  have := List.all_eq_true.1 hsz _ (DataW.weights_mem_each ht hd n hn)
  simpa using this

theorem weights_mem_all {e : TypeId} : ∀ {ds : List (DataW H)} {i : Nat} {d : DataW H}, ds[i]? = some d → ∀ n ∈ d.weights P e, n ∈ DataW.weightsAll P e ds
  | [], i, d, h, n, hn => by simp at h
  | d0 :: ds, 0, d, h, n, hn => by
    simp at h; subst h; simp only [DataW.weightsAll, List.mem_append]; exact .inl hn
  | d0 :: ds, i + 1, d, h, n, hn => by
    simp only [List.getElem?_cons_succ] at h
    simp only [DataW.weightsAll, List.mem_append]
    exact .inr (weights_mem_all h n hn)

theorem FitsW.field {t : TypeId} {fs : Array Field} {ds : List (DataW H)} (h : FitsW P t (.agg ds)) (ht : P.underlying t = some (.struct fs)) (j : Nat) {f : TypeId} {d : DataW H} (hf : (fs.toList.map (·.type))[j]? = some f) (hd : ds[j]? = some d) : FitsW P f d := fun n hn => by
  refine h n ?_
  simp only [DataW.weights, ht]
  exact DataW.weights_mem_each hf hd n hn

theorem open_rowsW {t e : TypeId} {fuel : Nat} {av : Option Addr} {len cap : Nat} {x : DataW H × List MemPlace} (k : Nat) (hk : P.cellsOf e = k) (hk0 : 0 < k) (ht : P.underlying t = some (.slice e))
    (h : DataW.trod enc P w base spare held fuel t [.slice av len cap] = some x) (hw : FitsW P t x.1) :
    len * P.bytesOf e ≤ reachBytes ∧ len ≤ cap ∧ cap ≤ maxLen ∧ ∃ (f : Nat → List Value) (n : Nat), ∀ i, i < len → (f i).length = k ∧ (∃ y, DataW.trod enc P w base spare held n e (f i) = some y ∧ FitsW P e y.1) ∧
      ∃ b o, av = some ⟨b, o, none⟩ ∧ ∀ j v, (f i)[j]? = some v → w.cell? ⟨b, o + i * k + j, none⟩ = some v := by
  rcases Deep.open_slice ht h with ⟨hcs, _⟩ | ⟨a, l, c, m, n, D, Pl, hcs, hb, hl, hm, hmm, hxx, hx⟩
  · simp at hcs
    obtain ⟨rfl, rfl, rfl⟩ := hcs
    exact ⟨by simp, Nat.le_refl _, Nat.zero_le _, fun _ => [], 0, fun i hi => absurd hi (Nat.not_lt_zero _)⟩
  · simp at hcs
    obtain ⟨rfl, rfl, rfl⟩ := hcs
    rw [hxx] at hw
    have hmem : ∀ i, i < len → FitsW P e (D i) := fun i hi n hn => by
      refine hw n ?_
      simp only [DataW.weights, ht, List.mem_cons, List.mem_append]
      exact .inr (.inl (weights_mem_all (i := i) (by simp [hi]) n hn))
    refine ⟨?_, hl, hm, ?_⟩
    · have := hw (((List.range len).map D).length * P.bytesOf e + ((List.range (m - len)).map fun j => D (len + j)).length * P.bytesOf e) (by simp only [DataW.weights, ht, List.mem_cons, ← Nat.add_mul]; exact .inl trivial)
      simp at this
      omega
    rw [hk] at hx
    obtain ⟨f, hf⟩ := Deep.choose_lt (α := List Value) (n := len) (p := fun i cs => w.cells? base (a.add (i * k)) k = some cs ∧ DataW.trod enc P w base spare held n e cs = some (D i, Pl i))
      (fun i hi => hx i (by rw [hmm]; split <;> omega))
    refine ⟨f, n, fun i hi => ?_⟩
    obtain ⟨h1, h2⟩ := hf i hi
    obtain ⟨_, hlen, hc⟩ := World.cells?_some h1
    refine ⟨hlen, ⟨_, h2, hmem i hi⟩, ?_⟩
    have h0 : w.cell? a = some ((f 0)[0]'(by have := (World.cells?_some (hf 0 (by omega)).1).2.1; omega)) := by
      have := (World.cells?_some (hf 0 (by omega)).1)
      have h3 := this.2.2 0 hk0
      simp [Addr.add] at h3
      rw [h3, List.getElem?_eq_getElem]
    have ha := cell_spot h0
    refine ⟨a.block, a.off, by rw [← ha], fun j v hj => ?_⟩
    have hjk : j < k := by have := (List.getElem?_eq_some_iff.1 hj).1; omega
    have h4 := hc j hjk
    rw [hj] at h4
    rw [ha] at h4
    rw [show ((⟨a.block, a.off, none⟩ : Addr).add (i * k)).add j = ⟨a.block, a.off + i * k + j, none⟩ from by
      unfold Addr.add
      by_cases e1 : i * k = 0
      · by_cases e2 : j = 0
        · simp [e1, e2]
        · simp [e1, e2]
      · by_cases e2 : j = 0
        · simp [e1, e2]
        · simp [e1, e2]] at h4
    exact h4

/-- .. read as a list of typed things, each of which answers a property. -/
theorem open_typedW {α : Type} [Inhabited α] {t e : TypeId} {fuel : Nat} {av : Option Addr} {len cap : Nat} {x : DataW H × List MemPlace} (k : Nat) (hk : P.cellsOf e = k) (hk0 : 0 < k) (ht : P.underlying t = some (.slice e))
    (val : α → List Value) (Q : α → Prop) (hv : ∀ n cs y, cs.length = k → DataW.trod enc P w base spare held n e cs = some y → FitsW P e y.1 → ∃ a, cs = val a ∧ Q a)
    (h : DataW.trod enc P w base spare held fuel t [.slice av len cap] = some x) (hw : FitsW P t x.1) :
    len * P.bytesOf e ≤ reachBytes ∧ ∃ l : List α, l.length = len ∧ len ≤ cap ∧ cap ≤ maxLen ∧ ∀ i x, l[i]? = some x → Q x ∧ ∃ b o, av = some ⟨b, o, none⟩ ∧ ∀ j v, (val x)[j]? = some v → w.cell? ⟨b, o + i * k + j, none⟩ = some v := by
  obtain ⟨hL, hl, hm, f, n, hf⟩ := open_rowsW k hk hk0 ht h hw
  refine ⟨hL, ?_⟩
  obtain ⟨g, hg⟩ := Deep.choose_lt (α := α) (n := len) (p := fun i a => f i = val a ∧ Q a) (fun i hi => by
    obtain ⟨hlen, ⟨y, hy, hyw⟩, _⟩ := hf i hi
    exact hv n (f i) y hlen hy hyw)
  refine ⟨(List.range len).map g, by simp, hl, hm, ?_⟩
  intro i y hy
  have hi : i < len := by have := (List.getElem?_eq_some_iff.1 hy).1; simpa using this
  obtain rfl : g i = y := by simpa [hi] using hy
  obtain ⟨_, _, b, o, hav, hc⟩ := hf i hi
  obtain ⟨e1, e2⟩ := hg i hi
  rw [e1] at hc
  exact ⟨e2, b, o, hav, hc⟩

/-- A slice in a field: its parts. -/
theorem trod_slice_val {t e : TypeId} {fuel : Nat} {cs : List Value} {x : DataW H × List MemPlace} (ht : P.underlying t = some (.slice e)) (h : DataW.trod enc P w base spare held fuel t cs = some x) : ∃ av len cap, cs = [.slice av len cap] := by
  rcases Deep.open_slice ht h with ⟨hcs, _⟩ | ⟨a, l, c, m, n, D, Pl, hcs, _⟩
  · exact ⟨_, _, _, hcs⟩
  · exact ⟨_, _, _, hcs⟩

theorem trod_struct4 {t : TypeId} {f0 f1 f2 f3 : Field} {fuel : Nat} {cs : List Value} {x : DataW H × List MemPlace} (ht : P.underlying t = some (.struct #[f0, f1, f2, f3])) (h : DataW.trod enc P w base spare held fuel t cs = some x) :
    ∃ y0 y1 y2 y3 n, x.1 = .agg [y0.1, y1.1, y2.1, y3.1] ∧ cs.length = P.cellsOf t ∧ DataW.trod enc P w base spare held n f0.type ((cs.drop f0.offset).take (P.cellsOf f0.type)) = some y0 ∧
      DataW.trod enc P w base spare held n f1.type ((cs.drop f1.offset).take (P.cellsOf f1.type)) = some y1 ∧ DataW.trod enc P w base spare held n f2.type ((cs.drop f2.offset).take (P.cellsOf f2.type)) = some y2 ∧
      DataW.trod enc P w base spare held n f3.type ((cs.drop f3.offset).take (P.cellsOf f3.type)) = some y3 := by
  obtain ⟨xs, n, _, rfl, hl, hlen, hf⟩ := DataW.trod_struct ht h
  match xs, hlen with
  | [y0, y1, y2, y3], _ => exact ⟨y0, y1, y2, y3, n, by simp, hl, by simpa using hf 0 f0 rfl, by simpa using hf 1 f1 rfl, by simpa using hf 2 f2 rfl, by simpa using hf 3 f3 rfl⟩
end

end Go.Proofs.YtgeapkalabijmaaGreat

/- A config, a program, numbers among the arguments: what their readings say. -/
namespace Go.Proofs.YtgeapkalabijmaaGreat
open Go Go.RowKit Go.ChangeShapes Go.WideShapes Go.ChangeAt
set_option maxRecDepth 100000
set_option maxHeartbeats 1000000
set_option linter.unusedVariables false
set_option linter.unusedSimpArgs false

theorem arr_two {cs : Array Value} {n : Nat} (h : cs.size = n) (hn : n = 2) : ∃ c0 c1, cs = #[c0, c1] := by
  subst hn
  obtain ⟨l⟩ := cs
  match l, h with
  | [c0, c1], _ => exact ⟨c0, c1, rfl⟩
theorem arr_four {cs : Array Value} {n : Nat} (h : cs.size = n) (hn : n = 4) : ∃ c0 c1 c2 c3, cs = #[c0, c1, c2, c3] := by
  subst hn
  obtain ⟨l⟩ := cs
  match l, h with
  | [c0, c1, c2, c3], _ => exact ⟨c0, c1, c2, c3, rfl⟩
theorem trod_struct2' {H : Type} {enc : TypeId × Value → H} {P : Program} {w : World} {base : Nat} {spare : Nat → Bool} {held : Bool} {t : TypeId} {f0 f1 : Field} {fuel : Nat} {cs : List Value} {x : DataW H × List MemPlace} (ht : P.underlying t = some (.struct #[f0, f1])) (h : DataW.trod enc P w base spare held fuel t cs = some x) :
    ∃ y0 y1 n, x.1 = .agg [y0.1, y1.1] ∧ cs.length = P.cellsOf t ∧ DataW.trod enc P w base spare held n f0.type ((cs.drop f0.offset).take (P.cellsOf f0.type)) = some y0 ∧
      DataW.trod enc P w base spare held n f1.type ((cs.drop f1.offset).take (P.cellsOf f1.type)) = some y1 := by
  obtain ⟨xs, n, _, rfl, hl, hlen, hf⟩ := DataW.trod_struct ht h
  match xs, hlen with
  | [y0, y1], _ => exact ⟨y0, y1, n, by simp, hl, by simpa using hf 0 f0 rfl, by simpa using hf 1 f1 rfl⟩
section
variable {H : Type} {enc : TypeId × Value → H} {w : World} {base : Nat} {spare : Nat → Bool} {held : Bool} {fuel : Nat}
theorem cfg_of {c0 c1 c2 c3 : Value} {x : DataW H × List MemPlace} (h : DataW.trod enc Tryz.prog w base spare held fuel 51 [c0, c1, c2, c3] = some x) :
    ∃ a b c d : Int, c0 = .int .i64 a ∧ c1 = .int .i64 b ∧ c2 = .int .i64 c ∧ c3 = .int .i64 d := by
  obtain ⟨y0, y1, y2, y3, n, _, _, g0, g1, g2, g3⟩ := trod_struct4 Tryz.underlying51 h
  simp [show Tryz.prog.cellsOf 3 = 1 by kernel_rfl] at g0 g1 g2 g3
  obtain ⟨n0, e0, _⟩ := DataW.trod_int Tryz.underlying3 g0
  obtain ⟨n1, e1, _⟩ := DataW.trod_int Tryz.underlying3 g1
  obtain ⟨n2, e2, _⟩ := DataW.trod_int Tryz.underlying3 g2
  obtain ⟨n3, e3, _⟩ := DataW.trod_int Tryz.underlying3 g3
  simp at e0 e1 e2 e3
  exact ⟨n0, n1, n2, n3, e0, e1, e2, e3⟩
theorem float_bd {n : Nat} (h : (Lit.float .f64 n).wf = true) : n < 18446744073709551616 := of_decide_eq_true h
theorem floats_ofW {av : Option Addr} {len cap : Nat} {x : DataW H × List MemPlace} (h : DataW.trod enc Tryz.prog w base spare held fuel 55 [.slice av len cap] = some x) (hw : FitsW Tryz.prog 55 x.1) :
    ∃ l : List Nat, l.length = len ∧ len ≤ cap ∧ Sees w av (l.map fl) ∧ (∀ y ∈ l, y < 18446744073709551616) ∧ len * 8 ≤ 140737488351232 := by
  obtain ⟨hL, l, h1, h2, h3, h4⟩ := open_typedW (α := Nat) 1 (by kernel_rfl) (by decide) Tryz.underlying55 (fun y => [fl y]) (fun y => y < 18446744073709551616) (fun n cs y hlen hy hyw => by
    obtain ⟨n0, e0, hwf⟩ := trod_float Tryz.underlying61 hy
    exact ⟨n0, e0, float_bd hwf⟩) h hw
  rw [show Tryz.prog.bytesOf 61 = 8 by kernel_rfl] at hL
  refine ⟨l, h1, h2, sees_of (α := Nat) (fun y => fl y) l (fun i x hx => (h4 i x hx).2), ?_, by simpa [reachBytes] using hL⟩
  intro y hy
  obtain ⟨i, hi⟩ := List.mem_iff_getElem?.1 hy
  exact (h4 i y hi).1
theorem insV_cell' : ∀ (l : List Ins) (k : Nat) (u : Value), (insV l)[k]? = some u → ∃ i j x, k = i * 3 + j ∧ l[i]? = some x ∧ [Value.int .i64 x.1, .int .i64 x.2.1, fl x.2.2][j]? = some u
  | [], k, u, h => by simp [insV] at h
  | t :: l, 0, u, h => ⟨0, 0, t, rfl, rfl, by simpa [insV] using h⟩
  | t :: l, 1, u, h => ⟨0, 1, t, rfl, rfl, by simpa [insV] using h⟩
  | t :: l, 2, u, h => ⟨0, 2, t, rfl, rfl, by simpa [insV] using h⟩
  | t :: l, k + 3, u, h => by
    obtain ⟨i, j, x, rfl, h1, h2⟩ := insV_cell' l k u (by simpa [insV] using h)
    exact ⟨i + 1, j, x, by omega, by simpa using h1, h2⟩
theorem slice_nil {t e : TypeId} {av : Option Addr} {len cap : Nat} {x : DataW H × List MemPlace} (ht : Tryz.prog.underlying t = some (.slice e)) (h : DataW.trod enc Tryz.prog w base spare held fuel t [.slice av len cap] = some x) : av = none → cap = 0 := by
  intro hn
  subst hn
  rcases Deep.open_slice ht h with ⟨h, _⟩ | ⟨a, l, c, _, _, _, _, h, _⟩
  · simp at h; exact h.2
  · simp at h
theorem ins_ofW {av : Option Addr} {len cap : Nat} {x : DataW H × List MemPlace} (h : DataW.trod enc Tryz.prog w base spare held fuel 24 [.slice av len cap] = some x) (hw : FitsW Tryz.prog 24 x.1) :
    ∃ l : List Ins, l.length = len ∧ len ≤ cap ∧ Sees w av (insV l) ∧ (∀ y ∈ l, y.2.2 < 18446744073709551616) ∧ len * 24 ≤ 140737488351232 := by
  obtain ⟨hL, l, h1, h2, h3, h4⟩ := open_typedW (α := Ins) 3 (by kernel_rfl) (by decide) Tryz.underlying24 (fun y => [.int .i64 y.1, .int .i64 y.2.1, fl y.2.2]) (fun y => y.2.2 < 18446744073709551616) (fun n cs y hlen hy hyw => by
    obtain ⟨y0, y1, y2, m, _, _, g0, g1, g2⟩ := Deep.trod_struct3 Tryz.underlying73 hy
    match cs, hlen with
    | [c0, c1, c2], _ =>
      simp [show Tryz.prog.cellsOf 3 = 1 by kernel_rfl, show Tryz.prog.cellsOf 61 = 1 by kernel_rfl] at g0 g1 g2
      obtain ⟨n0, e0, _⟩ := DataW.trod_int Tryz.underlying3 g0
      obtain ⟨n1, e1, _⟩ := DataW.trod_int Tryz.underlying3 g1
      obtain ⟨n2, e2, hwf⟩ := trod_float Tryz.underlying61 g2
      simp at e0 e1 e2
      exact ⟨(n0, n1, n2), by rw [e0, e1, e2], float_bd hwf⟩) h hw
  rw [show Tryz.prog.bytesOf 73 = 24 by kernel_rfl] at hL
  refine ⟨l, h1, h2, ?_, ?_, by simpa [reachBytes] using hL⟩
  · cases l with
    | nil => exact .inl rfl
    | cons t l =>
      obtain ⟨_, b, o, hav, _⟩ := h4 0 t rfl
      refine .inr ⟨b, o, hav, fun k u hu => ?_⟩
      obtain ⟨i, j, x, rfl, e1, e2⟩ := insV_cell' _ k u hu
      obtain ⟨_, b', o', hav', hc⟩ := h4 i x e1
      rw [hav] at hav'
      cases hav'
      rw [← Nat.add_assoc]
      exact hc j u e2
  · intro y hy
    obtain ⟨i, hi⟩ := List.mem_iff_getElem?.1 hy
    exact (h4 i y hi).1
theorem prog_ofW {c0 c1 : Value} {x : DataW H × List MemPlace} (h : DataW.trod enc Tryz.prog w base spare held fuel 26 [c0, c1] = some x) (hw : FitsW Tryz.prog 26 x.1) :
    ∃ (tag : Int) (av : Option Addr) (l : List Ins) (cap : Nat), c0 = .int .i64 tag ∧ c1 = .slice av l.length cap ∧ l.length ≤ cap ∧ (av = none → cap = 0) ∧ Sees w av (insV l) ∧ (∀ y ∈ l, y.2.2 < 18446744073709551616) ∧ l.length * 24 ≤ 140737488351232 := by
  obtain ⟨y0, y1, m, hx, _, g0, g1⟩ := trod_struct2' Tryz.underlying26 h
  rw [hx] at hw
  have hw1 : FitsW Tryz.prog 24 y1.1 := hw.field Tryz.underlying26 1 rfl rfl
  simp [show Tryz.prog.cellsOf 3 = 1 by kernel_rfl, show Tryz.prog.cellsOf 24 = 1 by kernel_rfl] at g0 g1
  obtain ⟨n0, e0, _⟩ := DataW.trod_int Tryz.underlying3 g0
  simp at e0
  obtain ⟨av, len, cap, e1⟩ := trod_slice_val Tryz.underlying24 g1
  simp at e1
  subst e1
  obtain ⟨l, rfl, h2, h4, h5, h6⟩ := ins_ofW g1 hw1
  exact ⟨n0, av, l, cap, e0, rfl, h2, slice_nil Tryz.underlying24 g1, h4, h5, h6⟩
end
end Go.Proofs.YtgeapkalabijmaaGreat
