/- What an instruction does to the stack and the places. -/
import Derived.Test.YthgllaomafhdkaaK9
namespace Go.Proofs.Ythgllaomafhdkaa
open Go Go.RowKit
set_option maxRecDepth 100000
set_option maxHeartbeats 1000000
set_option linter.unusedVariables false
set_option linter.unusedSimpArgs false

/-- What an instruction does to the stack and the places. -/
structure Eff (s : Mc) (x : Ins) (r : Mc × AskD) : Prop where
  len : (r.1.s.length : Int) = s.s.length - takesOf x.1 + laysOf x.1 - (if r.2.kind = 1 then 1 else 0)
  jump : (x.1 = 11 ∨ x.1 = 12 ∨ x.1 = 13) → ((r.1.at_ : Int) = s.at_ ∨ (r.1.at_ : Int) = x.2.1) ∧ r.1.calls.length = s.calls.length
  call : x.1 = 14 → (r.1.at_ : Int) = x.2.1 ∧ r.1.calls.length = s.calls.length + 1
  ret : x.1 = 15 → r.1.calls.length + 1 = s.calls.length
  rest : x.1 < 11 ∨ 15 < x.1 → r.1.at_ = s.at_ ∧ r.1.calls.length = s.calls.length
  rd : r.2.kind = 1 → x.1 = 16
theorem eff_plain {s : Mc} {x : Ins} {l : List Nat} {o : List Nat} {z : Nat → Nat} (hx : x.1 < 11 ∨ 15 < x.1) (hl : (l.length : Int) = s.s.length - takesOf x.1 + laysOf x.1) : Eff s x ({ s with s := l, out := o, locals := z }, askNone) :=
  ⟨by show (l.length : Int) = s.s.length - takesOf x.1 + laysOf x.1 - 0; omega, fun h => by omega, fun h => by omega, fun h => by omega, fun _ => ⟨rfl, rfl⟩, fun h => absurd (show (0 : Int) = 1 from h) (by decide)⟩

theorem no_eq {P : Prop} {a b : Int} (d : decide (a = b) = false) (h : a = b) : P := absurd h (of_decide_eq_false d)
theorem no_lt {P : Prop} {a b : Int} (d : decide (a < b) = false) (h : a < b) : P := absurd h (of_decide_eq_false d)
theorem need_of {k n : Int} {v : Nat} (h : k ≠ 5) : needOf (k, n, v) = takesOf k := if_neg h
theorem do_eff {s : Mc} {x : Ins} (h1 : 1 ≤ x.1) (h2 : x.1 ≤ 20) (hn : (x.1 = 11 ∨ x.1 = 12 ∨ x.1 = 13 ∨ x.1 = 14) → 0 ≤ x.2.1) (hr : needOf x ≤ s.s.length) (hk : (doP s x).2.kind ≠ 4) : Eff s x (doP s x) := by
  obtain ⟨op, n, v⟩ := x
  dsimp only at h1 h2 hn
  rcases twenty h1 h2 with (rfl | rfl | rfl | rfl | rfl) | (rfl | rfl | rfl | rfl | rfl) | (rfl | rfl | rfl | rfl | rfl) | (rfl | rfl | rfl | rfl | rfl)
  · have ht : takesOf 1 = 0 := by decide
    have hl : laysOf 1 = 1 := by decide
    have hq : (0 : Int) ≤ s.s.length := by rw [need_of (by decide), ht] at hr; exact hr
    have e : doP s (1, n, v) = ({ s with s := s.s ++ [fixB v], out := s.out, locals := s.locals }, askNone) := rfl
    rw [e]
    exact eff_plain (.inl (show (1 : Int) < 11 by decide)) (by show ((s.s ++ [fixB v]).length : Int) = s.s.length - takesOf 1 + laysOf 1; rw [ht, hl]; simp; try omega)
  · have ht : takesOf 2 = 1 := by decide
    have hl : laysOf 2 = 0 := by decide
    have hq : (1 : Int) ≤ s.s.length := by rw [need_of (by decide), ht] at hr; exact hr
    have e : doP s (2, n, v) = ({ s with s := s.s.dropLast, out := s.out, locals := s.locals }, askNone) := rfl
    rw [e]
    exact eff_plain (.inl (show (2 : Int) < 11 by decide)) (by show ((s.s.dropLast).length : Int) = s.s.length - takesOf 2 + laysOf 2; rw [ht, hl]; simp; try omega)
  · have ht : takesOf 3 = 1 := by decide
    have hl : laysOf 3 = 2 := by decide
    have hq : (1 : Int) ≤ s.s.length := by rw [need_of (by decide), ht] at hr; exact hr
    have e : doP s (3, n, v) = ({ s with s := s.s ++ [topN s.s 0], out := s.out, locals := s.locals }, askNone) := rfl
    rw [e]
    exact eff_plain (.inl (show (3 : Int) < 11 by decide)) (by show ((s.s ++ [topN s.s 0]).length : Int) = s.s.length - takesOf 3 + laysOf 3; rw [ht, hl]; simp; try omega)
  · have ht : takesOf 4 = 2 := by decide
    have hl : laysOf 4 = 2 := by decide
    have hq : (2 : Int) ≤ s.s.length := by rw [need_of (by decide), ht] at hr; exact hr
    have e : doP s (4, n, v) = ({ s with s := s.s.dropLast.dropLast ++ [topN s.s 0, topN s.s 1], out := s.out, locals := s.locals }, askNone) := rfl
    rw [e]
    exact eff_plain (.inl (show (4 : Int) < 11 by decide)) (by show ((s.s.dropLast.dropLast ++ [topN s.s 0, topN s.s 1]).length : Int) = s.s.length - takesOf 4 + laysOf 4; rw [ht, hl]; simp; try omega)
  · have ht : takesOf 5 = 0 := by decide
    have hl : laysOf 5 = 1 := by decide
    have e : doP s (5, n, v) = ({ s with s := s.s ++ [topN s.s n.toNat], out := s.out, locals := s.locals }, askNone) := rfl
    rw [e]
    exact eff_plain (.inl (show (5 : Int) < 11 by decide)) (by show ((s.s ++ [topN s.s n.toNat]).length : Int) = s.s.length - takesOf 5 + laysOf 5; rw [ht, hl]; simp; try omega)
  · have ht : takesOf 6 = 0 := by decide
    have hl : laysOf 6 = 1 := by decide
    have hq : (0 : Int) ≤ s.s.length := by rw [need_of (by decide), ht] at hr; exact hr
    have e : doP s (6, n, v) = ({ s with s := s.s ++ [s.args n.toNat], out := s.out, locals := s.locals }, askNone) := rfl
    rw [e]
    exact eff_plain (.inl (show (6 : Int) < 11 by decide)) (by show ((s.s ++ [s.args n.toNat]).length : Int) = s.s.length - takesOf 6 + laysOf 6; rw [ht, hl]; simp; try omega)
  · have ht : takesOf 7 = 0 := by decide
    have hl : laysOf 7 = 1 := by decide
    have hq : (0 : Int) ≤ s.s.length := by rw [need_of (by decide), ht] at hr; exact hr
    have e : doP s (7, n, v) = ({ s with s := s.s ++ [s.locals n.toNat], out := s.out, locals := s.locals }, askNone) := rfl
    rw [e]
    exact eff_plain (.inl (show (7 : Int) < 11 by decide)) (by show ((s.s ++ [s.locals n.toNat]).length : Int) = s.s.length - takesOf 7 + laysOf 7; rw [ht, hl]; simp; try omega)
  · have ht : takesOf 8 = 1 := by decide
    have hl : laysOf 8 = 0 := by decide
    have hq : (1 : Int) ≤ s.s.length := by rw [need_of (by decide), ht] at hr; exact hr
    have e : doP s (8, n, v) = ({ s with s := s.s.dropLast, out := s.out, locals := locSet s.locals n.toNat (topN s.s 0) }, askNone) := rfl
    rw [e]
    exact eff_plain (.inl (show (8 : Int) < 11 by decide)) (by show ((s.s.dropLast).length : Int) = s.s.length - takesOf 8 + laysOf 8; rw [ht, hl]; simp; try omega)
  · have ht : takesOf 9 = 1 := by decide
    have hl : laysOf 9 = 1 := by decide
    have hq : (1 : Int) ≤ s.s.length := by rw [need_of (by decide), ht] at hr; exact hr
    have e : doP s (9, n, v) = ({ s with s := s.s.dropLast ++ [oneV n (topN s.s 0)], out := s.out, locals := s.locals }, askNone) := rfl
    rw [e]
    exact eff_plain (.inl (show (9 : Int) < 11 by decide)) (by show ((s.s.dropLast ++ [oneV n (topN s.s 0)]).length : Int) = s.s.length - takesOf 9 + laysOf 9; rw [ht, hl]; simp; try omega)
  · have ht : takesOf 10 = 2 := by decide
    have hl : laysOf 10 = 1 := by decide
    have hq : (2 : Int) ≤ s.s.length := by rw [need_of (by decide), ht] at hr; exact hr
    have e : doP s (10, n, v) = ({ s with s := s.s.dropLast.dropLast ++ [twoV n (topN s.s 1) (topN s.s 0)], out := s.out, locals := s.locals }, askNone) := rfl
    rw [e]
    exact eff_plain (.inl (show (10 : Int) < 11 by decide)) (by show ((s.s.dropLast.dropLast ++ [twoV n (topN s.s 1) (topN s.s 0)]).length : Int) = s.s.length - takesOf 10 + laysOf 10; rw [ht, hl]; simp; try omega)
  · have ht : takesOf 11 = 0 := by decide
    have hl : laysOf 11 = 0 := by decide
    have hq : (0 : Int) ≤ s.s.length := by rw [need_of (by decide), ht] at hr; exact hr
    have e : doP s (11, n, v) = ({ s with at_ := n.toNat }, askNone) := rfl
    rw [e]
    exact ⟨by show (s.s.length : Int) = s.s.length - takesOf 11 + laysOf 11 - 0; rw [ht, hl]; omega, fun _ => ⟨.inr (by show ((n.toNat : Nat) : Int) = n; have := hn (.inl rfl); omega), rfl⟩, fun h => no_eq (a := 11) (b := 14) rfl h, fun h => no_eq (a := 11) (b := 15) rfl h, fun h => by rcases h with h | h; exact no_lt (a := 11) (b := 11) rfl h; exact no_lt (a := 15) (b := 11) rfl h, fun h => absurd (show (0 : Int) = 1 from h) (by decide)⟩
  · have ht : takesOf 12 = 1 := by decide
    have hl : laysOf 12 = 0 := by decide
    have hq : (1 : Int) ≤ s.s.length := by rw [need_of (by decide), ht] at hr; exact hr
    have e : doP s (12, n, v) = ((if trueB (topN s.s 0) then { s with s := s.s.dropLast, at_ := n.toNat } else { s with s := s.s.dropLast }), askNone) := rfl
    rw [e]
    by_cases hb : trueB (topN s.s 0) = true
    · rw [if_pos hb]; exact ⟨by show ((s.s.dropLast).length : Int) = s.s.length - takesOf 12 + laysOf 12 - 0; rw [ht, hl, List.length_dropLast]; omega, fun _ => ⟨.inr (by show ((n.toNat : Nat) : Int) = n; have := hn (.inr (.inl rfl)); omega), rfl⟩, fun h => no_eq (a := 12) (b := 14) rfl h, fun h => no_eq (a := 12) (b := 15) rfl h, fun h => by rcases h with h | h; exact no_lt (a := 12) (b := 11) rfl h; exact no_lt (a := 15) (b := 12) rfl h, fun h => absurd (show (0 : Int) = 1 from h) (by decide)⟩
    · rw [if_neg hb]; exact ⟨by show ((s.s.dropLast).length : Int) = s.s.length - takesOf 12 + laysOf 12 - 0; rw [ht, hl, List.length_dropLast]; omega, fun _ => ⟨.inl rfl, rfl⟩, fun h => no_eq (a := 12) (b := 14) rfl h, fun h => no_eq (a := 12) (b := 15) rfl h, fun h => by rcases h with h | h; exact no_lt (a := 12) (b := 11) rfl h; exact no_lt (a := 15) (b := 12) rfl h, fun h => absurd (show (0 : Int) = 1 from h) (by decide)⟩
  · have ht : takesOf 13 = 1 := by decide
    have hl : laysOf 13 = 0 := by decide
    have hq : (1 : Int) ≤ s.s.length := by rw [need_of (by decide), ht] at hr; exact hr
    have e : doP s (13, n, v) = ((if trueB (topN s.s 0) then { s with s := s.s.dropLast } else { s with s := s.s.dropLast, at_ := n.toNat }), askNone) := rfl
    rw [e]
    by_cases hb : trueB (topN s.s 0) = true
    · rw [if_pos hb]; exact ⟨by show ((s.s.dropLast).length : Int) = s.s.length - takesOf 13 + laysOf 13 - 0; rw [ht, hl, List.length_dropLast]; omega, fun _ => ⟨.inl rfl, rfl⟩, fun h => no_eq (a := 13) (b := 14) rfl h, fun h => no_eq (a := 13) (b := 15) rfl h, fun h => by rcases h with h | h; exact no_lt (a := 13) (b := 11) rfl h; exact no_lt (a := 15) (b := 13) rfl h, fun h => absurd (show (0 : Int) = 1 from h) (by decide)⟩
    · rw [if_neg hb]; exact ⟨by show ((s.s.dropLast).length : Int) = s.s.length - takesOf 13 + laysOf 13 - 0; rw [ht, hl, List.length_dropLast]; omega, fun _ => ⟨.inr (by show ((n.toNat : Nat) : Int) = n; have := hn (.inr (.inr (.inl rfl))); omega), rfl⟩, fun h => no_eq (a := 13) (b := 14) rfl h, fun h => no_eq (a := 13) (b := 15) rfl h, fun h => by rcases h with h | h; exact no_lt (a := 13) (b := 11) rfl h; exact no_lt (a := 15) (b := 13) rfl h, fun h => absurd (show (0 : Int) = 1 from h) (by decide)⟩
  · have ht : takesOf 14 = 0 := by decide
    have hl : laysOf 14 = 0 := by decide
    have hq : (0 : Int) ≤ s.s.length := by rw [need_of (by decide), ht] at hr; exact hr
    have e : doP s (14, n, v) = ({ s with calls := s.calls ++ [(s.at_ : Int)], at_ := n.toNat }, askNone) := rfl
    rw [e]
    exact ⟨by show (s.s.length : Int) = s.s.length - takesOf 14 + laysOf 14 - 0; rw [ht, hl]; omega, fun h => by rcases h with h | h | h; exact no_eq (a := 14) (b := 11) rfl h; exact no_eq (a := 14) (b := 12) rfl h; exact no_eq (a := 14) (b := 13) rfl h, fun _ => ⟨by show ((n.toNat : Nat) : Int) = n; have := hn (.inr (.inr (.inr rfl))); omega, by simp⟩, fun h => no_eq (a := 14) (b := 15) rfl h, fun h => by rcases h with h | h; exact no_lt (a := 14) (b := 11) rfl h; exact no_lt (a := 15) (b := 14) rfl h, fun h => absurd (show (0 : Int) = 1 from h) (by decide)⟩
  · have ht : takesOf 15 = 0 := by decide
    have hl : laysOf 15 = 0 := by decide
    have hq : (0 : Int) ≤ s.s.length := by rw [need_of (by decide), ht] at hr; exact hr
    cases hc : s.calls.getLast? with
    | none =>
      have e : doP s (15, n, v) = ({ s with how := (1, 0, 0) }, askEnd) := by
        show (match s.calls.getLast? with | none => _ | some a => _) = _
        rw [hc]
      rw [e] at hk
      exact absurd rfl hk
    | some a =>
      have e : doP s (15, n, v) = ({ s with calls := s.calls.dropLast, at_ := a.toNat }, askNone) := by
        show (match s.calls.getLast? with | none => _ | some a => _) = _
        rw [hc]
      rw [e]
      have hne : s.calls ≠ [] := fun h => by rw [h] at hc; cases hc
      have hlp := List.length_pos_iff.2 hne
      exact ⟨by show (s.s.length : Int) = s.s.length - takesOf 15 + laysOf 15 - 0; rw [ht, hl]; omega, fun h => by rcases h with h | h | h; exact no_eq (a := 15) (b := 11) rfl h; exact no_eq (a := 15) (b := 12) rfl h; exact no_eq (a := 15) (b := 13) rfl h, fun h => no_eq (a := 15) (b := 14) rfl h, fun _ => by show s.calls.dropLast.length + 1 = s.calls.length; rw [List.length_dropLast]; omega, fun h => by rcases h with h | h; exact no_lt (a := 15) (b := 11) rfl h; exact no_lt (a := 15) (b := 15) rfl h, fun h => absurd (show (0 : Int) = 1 from h) (by decide)⟩
  · have ht : takesOf 16 = 1 := by decide
    have hl : laysOf 16 = 1 := by decide
    have hq : (1 : Int) ≤ s.s.length := by rw [need_of (by decide), ht] at hr; exact hr
    have e : doP s (16, n, v) = readP s := rfl
    rw [e] at hk ⊢
    unfold readP at hk ⊢
    by_cases hi : idxE (topN s.s 0) s.cells = 0
    · rw [if_pos hi] at hk ⊢
      dsimp only at hk ⊢
      cases hg : getN s.buf (idxI (topN s.s 0) s.cells) with
      | none => exact ⟨by show (s.s.dropLast.length : Int) = s.s.length - takesOf 16 + laysOf 16 - 1; rw [ht, hl, List.length_dropLast]; omega, fun h => by rcases h with h | h | h; exact no_eq (a := 16) (b := 11) rfl h; exact no_eq (a := 16) (b := 12) rfl h; exact no_eq (a := 16) (b := 13) rfl h, fun h => no_eq (a := 16) (b := 14) rfl h, fun h => no_eq (a := 16) (b := 15) rfl h, fun _ => ⟨rfl, rfl⟩, fun _ => rfl⟩
      | some y => exact ⟨by show ((s.s.dropLast ++ [y]).length : Int) = s.s.length - takesOf 16 + laysOf 16 - 0; rw [ht, hl]; simp; omega, fun h => by rcases h with h | h | h; exact no_eq (a := 16) (b := 11) rfl h; exact no_eq (a := 16) (b := 12) rfl h; exact no_eq (a := 16) (b := 13) rfl h, fun h => no_eq (a := 16) (b := 14) rfl h, fun h => no_eq (a := 16) (b := 15) rfl h, fun _ => ⟨rfl, rfl⟩, fun _ => rfl⟩
    · rw [if_neg hi] at hk; exact absurd rfl hk
  · have ht : takesOf 17 = 2 := by decide
    have hl : laysOf 17 = 0 := by decide
    have hq : (2 : Int) ≤ s.s.length := by rw [need_of (by decide), ht] at hr; exact hr
    have e : doP s (17, n, v) = writeP s := rfl
    rw [e] at hk ⊢
    unfold writeP at hk ⊢
    by_cases htg : s.tag = 2
    · rw [if_pos htg] at hk ⊢
      by_cases hi : idxE (topN s.s 0) s.cells = 0
      · rw [if_pos hi] at hk ⊢
        dsimp only at hk ⊢
        cases hg : getN s.buf (idxI (topN s.s 0) s.cells) with
        | none =>
          rw [hg] at hk
          dsimp only at hk ⊢
          by_cases hf : (s.buf.length : Int) = s.writes
          · rw [if_pos hf] at hk; exact absurd rfl hk
          · rw [if_neg hf]; exact ⟨by show (s.s.dropLast.dropLast.length : Int) = s.s.length - takesOf 17 + laysOf 17 - 0; rw [ht, hl, List.length_dropLast, List.length_dropLast]; omega, fun h => by rcases h with h | h | h; exact no_eq (a := 17) (b := 11) rfl h; exact no_eq (a := 17) (b := 12) rfl h; exact no_eq (a := 17) (b := 13) rfl h, fun h => no_eq (a := 17) (b := 14) rfl h, fun h => no_eq (a := 17) (b := 15) rfl h, fun _ => ⟨rfl, rfl⟩, fun h => absurd (show (3 : Int) = 1 from h) (by decide)⟩
        | some y => exact ⟨by show (s.s.dropLast.dropLast.length : Int) = s.s.length - takesOf 17 + laysOf 17 - 0; rw [ht, hl, List.length_dropLast, List.length_dropLast]; omega, fun h => by rcases h with h | h | h; exact no_eq (a := 17) (b := 11) rfl h; exact no_eq (a := 17) (b := 12) rfl h; exact no_eq (a := 17) (b := 13) rfl h, fun h => no_eq (a := 17) (b := 14) rfl h, fun h => no_eq (a := 17) (b := 15) rfl h, fun _ => ⟨rfl, rfl⟩, fun h => absurd (show (3 : Int) = 1 from h) (by decide)⟩
      · rw [if_neg hi] at hk; exact absurd rfl hk
    · rw [if_neg htg] at hk; exact absurd rfl hk
  · have ht : takesOf 18 = 1 := by decide
    have hl : laysOf 18 = 0 := by decide
    have hq : (1 : Int) ≤ s.s.length := by rw [need_of (by decide), ht] at hr; exact hr
    have e : doP s (18, n, v) = ({ s with s := s.s.dropLast, out := s.out ++ [topN s.s 0], locals := s.locals }, askNone) := rfl
    rw [e]
    exact eff_plain (.inr (show (15 : Int) < 18 by decide)) (by show ((s.s.dropLast).length : Int) = s.s.length - takesOf 18 + laysOf 18; rw [ht, hl]; simp; try omega)
  · have ht : takesOf 19 = 0 := by decide
    have hl : laysOf 19 = 0 := by decide
    have hq : (0 : Int) ≤ s.s.length := by rw [need_of (by decide), ht] at hr; exact hr
    exact absurd rfl hk
  · have ht : takesOf 20 = 0 := by decide
    have hl : laysOf 20 = 0 := by decide
    have hq : (0 : Int) ≤ s.s.length := by rw [need_of (by decide), ht] at hr; exact hr
    exact absurd rfl hk
/-- A step that goes on, by its instruction. -/
theorem step_eff {s : Mc} (ok : s.Ok) (hw : s.waits = false) (hh : s.how = (0, 0, 0)) (hk : (stepP s).2.kind ≠ 4) : ∃ x, s.code[s.at_]? = some x ∧ 1 ≤ x.1 ∧ x.1 ≤ 20 ∧ Eff { s with used := s.used + 1, at_ := s.at_ + 1 } x (stepP s) := by
  unfold stepP at hk ⊢
  rw [if_neg (by rw [hw]; decide), if_neg (by rw [hh]; decide)] at hk ⊢
  by_cases hb : s.bad = true
  · rw [if_pos hb] at hk; exact absurd rfl hk
  rw [if_neg hb] at hk ⊢
  by_cases hf : (s.used : Int) = s.fuel
  · rw [if_pos hf] at hk; exact absurd rfl hk
  rw [if_neg hf] at hk ⊢
  cases hx : s.code[s.at_]? with
  | none => rw [hx] at hk; exact absurd rfl hk
  | some x =>
    rw [hx] at hk
    dsimp only at hk ⊢
    have hbf : s.bad = false := by cases h : s.bad; rfl; exact absurd h hb
    obtain ⟨hl, hmay⟩ := bad_facts hbf
    have hm := may_facts (hmay x (List.mem_of_getElem? hx))
    by_cases hr : roomOk s x = true
    · rw [if_pos hr] at hk ⊢
      exact ⟨x, rfl, hm.lo, hm.hi, do_eff hm.lo hm.hi (fun h => (hm.jump h).1) (room_facts hr).1 hk⟩
    · rw [if_neg hr] at hk; exact absurd rfl hk
end Go.Proofs.Ythgllaomafhdkaa
