/- Programs, configs and numbers among the arguments: what their readings say of their cells. -/
import Derived.Test.YthgcmafeahlmpaaOpen
import Derived.Test.YthgcmafeahlmpaaC5B
namespace Go.Proofs.Ythgcmafeahlmpaa
open Go Go.RowKit Go.ChangeShapes Go.WideShapes Go.ChangeAt
set_option linter.unusedVariables false
set_option linter.unusedSimpArgs false

theorem two_cells {cs : Array Value} {n : Nat} (h : cs.size = n) (hn : n = 2) : ∃ c0 c1, cs = #[c0, c1] := by
  subst hn
  obtain ⟨l⟩ := cs
  match l, h with
  | [c0, c1], _ => exact ⟨c0, c1, rfl⟩
theorem four_cells {cs : Array Value} {n : Nat} (h : cs.size = n) (hn : n = 4) : ∃ c0 c1 c2 c3, cs = #[c0, c1, c2, c3] := by
  subst hn
  obtain ⟨l⟩ := cs
  match l, h with
  | [c0, c1, c2, c3], _ => exact ⟨c0, c1, c2, c3, rfl⟩
section
variable {H : Type} {enc : TypeId × Value → H} {w : World} {base : Nat} {spare : Nat → Bool} {held : Bool} {fuel : Nat}

theorem insV_cell : ∀ (l : List Ins) (k : Nat) (u : Value), (insV l)[k]? = some u → ∃ i j x, k = i * 3 + j ∧ l[i]? = some x ∧ [Value.int .i64 x.1, .int .i64 x.2.1, fl x.2.2][j]? = some u
  | [], k, u, h => by simp [insV] at h
  | t :: l, 0, u, h => ⟨0, 0, t, rfl, rfl, by simpa [insV] using h⟩
  | t :: l, 1, u, h => ⟨0, 1, t, rfl, rfl, by simpa [insV] using h⟩
  | t :: l, 2, u, h => ⟨0, 2, t, rfl, rfl, by simpa [insV] using h⟩
  | t :: l, k + 3, u, h => by
    obtain ⟨i, j, x, rfl, h1, h2⟩ := insV_cell l k u (by simpa [insV] using h)
    exact ⟨i + 1, j, x, by omega, by simpa using h1, h2⟩
theorem ins_of {av : Option Addr} {len cap : Nat} {x : DataW H × List MemPlace} (h : DataW.trod enc Try.prog w base spare held fuel 35 [.slice av len cap] = some x) :
    ∃ l : List Ins, l.length = len ∧ len ≤ cap ∧ cap ≤ maxLen ∧ Sees w av (insV l) := by
  obtain ⟨_, l, h1, h2, h3, h4⟩ := open_typed (α := Ins) 3 (by kernel_rfl) (by decide) Try.underlying35 (fun y => [.int .i64 y.1, .int .i64 y.2.1, fl y.2.2]) (fun n cs y hlen hy => by
    obtain ⟨y0, y1, y2, m, _, _, g0, g1, g2⟩ := Deep.trod_struct3 Try.underlying42 hy
    match cs, hlen with
    | [c0, c1, c2], _ =>
      simp [show Try.prog.cellsOf 3 = 1 by kernel_rfl, show Try.prog.cellsOf 28 = 1 by kernel_rfl] at g0 g1 g2
      obtain ⟨n0, e0, _⟩ := DataW.trod_int Try.underlying3 g0
      obtain ⟨n1, e1, _⟩ := DataW.trod_int Try.underlying3 g1
      obtain ⟨n2, e2, _⟩ := trod_float Try.underlying28 g2
      simp at e0 e1 e2
      exact ⟨(n0, n1, n2), by rw [e0, e1, e2]⟩) h
  refine ⟨l, h1, h2, h3, ?_⟩
  cases l with
  | nil => exact .inl rfl
  | cons t l =>
    obtain ⟨b, o, hav, _⟩ := h4 0 t rfl
    refine .inr ⟨b, o, hav, fun k u hu => ?_⟩
    obtain ⟨i, j, x, rfl, e1, e2⟩ := insV_cell _ k u hu
    obtain ⟨b', o', hav', hc⟩ := h4 i x e1
    rw [hav] at hav'
    cases hav'
    rw [← Nat.add_assoc]
    exact hc j u e2
theorem prog_of {c0 c1 : Value} {x : DataW H × List MemPlace} (h : DataW.trod enc Try.prog w base spare held fuel 37 [c0, c1] = some x) :
    ∃ (tag : Int) (av : Option Addr) (l : List Ins) (cap : Nat), c0 = .int .i64 tag ∧ c1 = .slice av l.length cap ∧ l.length ≤ cap ∧ cap ≤ maxLen ∧ Sees w av (insV l) := by
  obtain ⟨y0, y1, m, _, _, g0, g1⟩ := trod_struct2 Try.underlying37 h
  simp [show Try.prog.cellsOf 3 = 1 by kernel_rfl, show Try.prog.cellsOf 35 = 1 by kernel_rfl] at g0 g1
  obtain ⟨n0, e0, _⟩ := DataW.trod_int Try.underlying3 g0
  simp at e0
  obtain ⟨av, len, cap, e1⟩ : ∃ av len cap, c1 = .slice av len cap := by
    rcases Deep.open_slice Try.underlying35 g1 with ⟨h, _⟩ | ⟨a, l, c, _, _, _, _, h, _⟩
    · simp at h; exact ⟨_, _, _, h⟩
    · simp at h; exact ⟨_, _, _, h⟩
  subst e1
  obtain ⟨l, rfl, h2, h3, h4⟩ := ins_of g1
  exact ⟨n0, av, l, cap, e0, rfl, h2, h3, h4⟩
end
end Go.Proofs.Ythgcmafeahlmpaa
