/- What a machine keeps, plainly; the document's Run. -/
import Derived.Test.YthgllaomafhdkaaGreatM5A
import Derived.Test.YthgllaomafhdkaaGreatM45
import Derived.Test.YthgllaomafhdkaaGreatM43
namespace Go.Proofs.YthgllaomafhdkaaGreat
open Go Go.RowKit
set_option maxRecDepth 100000
set_option maxHeartbeats 1000000
set_option linter.unusedVariables false
set_option linter.unusedSimpArgs false

theorem do_fits {s : Mc} {x : Ins} (hl : s.s.length ≤ 64) (hc : s.calls.length ≤ 16) (hr : roomOk s x = true) : (doP s x).1.s.length ≤ 64 ∧ (doP s x).1.calls.length ≤ 16 := by
  obtain ⟨g1, g2, g3⟩ := room_facts hr
  obtain ⟨op, n, v⟩ := x
  dsimp only at g2 g3
  clear g1 hr
  by_cases e : op = 1
  · subst e
    have g2 : (s.s.length : Int) - 0 + 1 ≤ 64 := g2
    show (s.s ++ [fixB v]).length ≤ 64 ∧ s.calls.length ≤ 16
    (try simp only [List.length_append, List.length_dropLast, List.length_cons, List.length_nil])
    omega
  by_cases e : op = 2
  · subst e
    have g2 : (s.s.length : Int) - 1 + 0 ≤ 64 := g2
    show (s.s.dropLast).length ≤ 64 ∧ s.calls.length ≤ 16
    (try simp only [List.length_append, List.length_dropLast, List.length_cons, List.length_nil])
    omega
  by_cases e : op = 3
  · subst e
    have g2 : (s.s.length : Int) - 1 + 2 ≤ 64 := g2
    show (s.s ++ [topN s.s 0]).length ≤ 64 ∧ s.calls.length ≤ 16
    (try simp only [List.length_append, List.length_dropLast, List.length_cons, List.length_nil])
    omega
  by_cases e : op = 4
  · subst e
    have g2 : (s.s.length : Int) - 2 + 2 ≤ 64 := g2
    show (s.s.dropLast.dropLast ++ [topN s.s 0, topN s.s 1]).length ≤ 64 ∧ s.calls.length ≤ 16
    (try simp only [List.length_append, List.length_dropLast, List.length_cons, List.length_nil])
    omega
  by_cases e : op = 5
  · subst e
    have g2 : (s.s.length : Int) - 0 + 1 ≤ 64 := g2
    show (s.s ++ [topN s.s n.toNat]).length ≤ 64 ∧ s.calls.length ≤ 16
    (try simp only [List.length_append, List.length_dropLast, List.length_cons, List.length_nil])
    omega
  by_cases e : op = 6
  · subst e
    have g2 : (s.s.length : Int) - 0 + 1 ≤ 64 := g2
    show (s.s ++ [s.args n.toNat]).length ≤ 64 ∧ s.calls.length ≤ 16
    (try simp only [List.length_append, List.length_dropLast, List.length_cons, List.length_nil])
    omega
  by_cases e : op = 7
  · subst e
    have g2 : (s.s.length : Int) - 0 + 1 ≤ 64 := g2
    show (s.s ++ [s.locals n.toNat]).length ≤ 64 ∧ s.calls.length ≤ 16
    (try simp only [List.length_append, List.length_dropLast, List.length_cons, List.length_nil])
    omega
  by_cases e : op = 8
  · subst e
    have g2 : (s.s.length : Int) - 1 + 0 ≤ 64 := g2
    show (s.s.dropLast).length ≤ 64 ∧ s.calls.length ≤ 16
    (try simp only [List.length_append, List.length_dropLast, List.length_cons, List.length_nil])
    omega
  by_cases e : op = 9
  · subst e
    have g2 : (s.s.length : Int) - 1 + 1 ≤ 64 := g2
    show (s.s.dropLast ++ [oneV n (topN s.s 0)]).length ≤ 64 ∧ s.calls.length ≤ 16
    (try simp only [List.length_append, List.length_dropLast, List.length_cons, List.length_nil])
    omega
  by_cases e : op = 10
  · subst e
    have g2 : (s.s.length : Int) - 2 + 1 ≤ 64 := g2
    show (s.s.dropLast.dropLast ++ [twoV n (topN s.s 1) (topN s.s 0)]).length ≤ 64 ∧ s.calls.length ≤ 16
    (try simp only [List.length_append, List.length_dropLast, List.length_cons, List.length_nil])
    omega
  by_cases e : op = 11
  · subst e
    have g2 : (s.s.length : Int) - 0 + 0 ≤ 64 := g2
    show (s.s).length ≤ 64 ∧ s.calls.length ≤ 16
    (try simp only [List.length_append, List.length_dropLast, List.length_cons, List.length_nil])
    omega
  by_cases e : op = 12
  · subst e
    have g2 : (s.s.length : Int) - 1 + 0 ≤ 64 := g2
    have h0 : s.s.dropLast.length ≤ 64 := by rw [List.length_dropLast]; omega
    have hb : ∀ b : Bool, trueB (topN s.s 0) = b → (doP s (12, n, v)).1.s.length ≤ 64 ∧ (doP s (12, n, v)).1.calls.length ≤ 16 := fun b hb => by
      cases b with
      | true => exact (show (doP s (12, n, v)).1 = { s with s := s.s.dropLast, at_ := n.toNat } by show (if trueB (topN s.s 0) = true then _ else _) = _; rw [if_pos hb]) ▸ ⟨h0, hc⟩
      | false => exact (show (doP s (12, n, v)).1 = { s with s := s.s.dropLast } by show (if trueB (topN s.s 0) = true then _ else _) = _; rw [if_neg (by rw [hb]; decide)]) ▸ ⟨h0, hc⟩
    exact hb _ rfl
  by_cases e : op = 13
  · subst e
    have g2 : (s.s.length : Int) - 1 + 0 ≤ 64 := g2
    have h0 : s.s.dropLast.length ≤ 64 := by rw [List.length_dropLast]; omega
    have hb : ∀ b : Bool, trueB (topN s.s 0) = b → (doP s (13, n, v)).1.s.length ≤ 64 ∧ (doP s (13, n, v)).1.calls.length ≤ 16 := fun b hb => by
      cases b with
      | true => exact (show (doP s (13, n, v)).1 = { s with s := s.s.dropLast } by show (if trueB (topN s.s 0) = true then _ else _) = _; rw [if_pos hb]) ▸ ⟨h0, hc⟩
      | false => exact (show (doP s (13, n, v)).1 = { s with s := s.s.dropLast, at_ := n.toNat } by show (if trueB (topN s.s 0) = true then _ else _) = _; rw [if_neg (by rw [hb]; decide)]) ▸ ⟨h0, hc⟩
    exact hb _ rfl
  by_cases e : op = 14
  · subst e
    have g2 : (s.s.length : Int) - 0 + 0 ≤ 64 := g2
    have g4 := g3 rfl
    show s.s.length ≤ 64 ∧ (s.calls ++ [(s.at_ : Int)]).length ≤ 16
    simp only [List.length_append, List.length_cons, List.length_nil]
    omega
  by_cases e : op = 15
  · subst e
    have g2 : (s.s.length : Int) - 0 + 0 ≤ 64 := g2
    have hd : doP s (15, n, v) = (match s.calls.getLast? with | none => ({ s with how := (1, 0, 0) }, askEnd) | some a => ({ s with calls := s.calls.dropLast, at_ := a.toNat }, askNone)) := rfl
    rw [hd]
    cases s.calls.getLast? with
    | none => exact ⟨hl, hc⟩
    | some a => exact ⟨hl, by show s.calls.dropLast.length ≤ 16; rw [List.length_dropLast]; omega⟩
  by_cases e : op = 16
  · subst e
    have g2 : (s.s.length : Int) - 1 + 1 ≤ 64 := g2
    have hd : doP s (16, n, v) = readP s := rfl
    rw [hd]
    unfold readP
    by_cases hi : idxE (topN s.s 0) s.cells = 0
    · rw [if_pos hi]
      dsimp only
      cases getN s.buf (idxI (topN s.s 0) s.cells) with
      | none => exact ⟨by show s.s.dropLast.length ≤ 64; rw [List.length_dropLast]; omega, hc⟩
      | some y => exact ⟨by show (s.s.dropLast ++ [y]).length ≤ 64; simp only [List.length_append, List.length_dropLast, List.length_cons, List.length_nil]; omega, hc⟩
    · rw [if_neg hi]; exact ⟨hl, hc⟩
  by_cases e : op = 17
  · subst e
    have g2 : (s.s.length : Int) - 2 + 0 ≤ 64 := g2
    have h0 : s.s.dropLast.dropLast.length ≤ 64 := by rw [List.length_dropLast, List.length_dropLast]; omega
    have hd : doP s (17, n, v) = writeP s := rfl
    rw [hd]
    unfold writeP
    refine ite_in (fun m : Mc × AskD => m.1.s.length ≤ 64 ∧ m.1.calls.length ≤ 16) (ite_in (fun m : Mc × AskD => m.1.s.length ≤ 64 ∧ m.1.calls.length ≤ 16) ?_ ⟨hl, hc⟩) ⟨hl, hc⟩
    dsimp only
    cases getN s.buf (idxI (topN s.s 0) s.cells) with
    | none => exact ite_in (fun m : Mc × AskD => m.1.s.length ≤ 64 ∧ m.1.calls.length ≤ 16) ⟨hl, hc⟩ ⟨h0, hc⟩
    | some y => exact ⟨h0, hc⟩
  by_cases e : op = 18
  · subst e
    have g2 : (s.s.length : Int) - 1 + 0 ≤ 64 := g2
    show (s.s.dropLast).length ≤ 64 ∧ s.calls.length ≤ 16
    (try simp only [List.length_append, List.length_dropLast, List.length_cons, List.length_nil])
    omega
  by_cases e : op = 19
  · subst e
    have g2 : (s.s.length : Int) - 0 + 0 ≤ 64 := g2
    show (s.s).length ≤ 64 ∧ s.calls.length ≤ 16
    (try simp only [List.length_append, List.length_dropLast, List.length_cons, List.length_nil])
    omega
  by_cases e : op = 20
  · subst e
    have g2 : (s.s.length : Int) - 0 + 0 ≤ 64 := g2
    show (s.s).length ≤ 64 ∧ s.calls.length ≤ 16
    (try simp only [List.length_append, List.length_dropLast, List.length_cons, List.length_nil])
    omega
  have hd : doP s (op, n, v) = (s, askNone) := by
    unfold doP reckonP
    simp only [*, if_false]
  rw [hd]
  exact ⟨hl, hc⟩
theorem step_fits {s : Mc} (hl : s.s.length ≤ 64) (hc : s.calls.length ≤ 16) : (stepP s).1.s.length ≤ 64 ∧ (stepP s).1.calls.length ≤ 16 := by
  unfold stepP
  refine ite_in (fun m : Mc × AskD => m.1.s.length ≤ 64 ∧ m.1.calls.length ≤ 16) ⟨hl, hc⟩ (ite_in (fun m : Mc × AskD => m.1.s.length ≤ 64 ∧ m.1.calls.length ≤ 16) ⟨hl, hc⟩ (ite_in (fun m : Mc × AskD => m.1.s.length ≤ 64 ∧ m.1.calls.length ≤ 16) ⟨hl, hc⟩ (ite_in (fun m : Mc × AskD => m.1.s.length ≤ 64 ∧ m.1.calls.length ≤ 16) ⟨hl, hc⟩ ?_)))
  cases s.code[s.at_]? with
  | none => exact ⟨hl, hc⟩
  | some x =>
    dsimp only
    by_cases hr : roomOk s x = true
    · rw [if_pos hr]
      exact do_fits (s := { s with used := s.used + 1, at_ := s.at_ + 1 }) hl hc hr
    · rw [if_neg hr]; exact ⟨hl, hc⟩
/-- All that the walks of both machines ask. -/
structure Mc.Full (s : Mc) : Prop where
  fine : s.Fine
  rok : s.Rok
  inw : InW s
  wr : s.writes ≤ 32
theorem Mc.Full.hok {s : Mc} (h : s.Full) : s.Hok := ⟨h.rok.how, h.rok.cell⟩
theorem mc0_full {c t f r tag : Int} {code : List Ins} {args : List Nat} (h : CfgOk c t f r) (hx : ∀ i ∈ code, i.2.2 < 18446744073709551616) (ha : ∀ y ∈ args, y < 18446744073709551616) : (mc0 c t f r tag code args).Full :=
  ⟨mc0_fine h hx ha, ⟨by show (0 : Nat) ≤ 64; decide, by show (0 : Nat) ≤ 16; decide, by show (0 : Nat) ≤ 32; decide, List.Pairwise.nil, fun _ => rfl, fun h => by cases h⟩, by show ((0 : Nat) : Int) ≤ r; have := h.2.2.2; omega, h.2.2.2.2⟩
theorem Full.step {s : Mc} (h : s.Full) : (stepP s).1.Full := by
  have hfx := fixd_all (step_fixd s)
  have hf := step_fits h.rok.len h.rok.calls
  have hb := step_buf s
  have hw : InW (stepP s).1 := by
    unfold InW
    rw [hfx.2.2.2.1]
    rcases hb with e | ⟨c, y, e, hn⟩
    · rw [e]; exact h.inw
    · rw [e]
      have hi := h.inw
      unfold InW at hi
      cases hg : getN s.buf c with
      | none => have := hn hg; have := (putN_len (l := s.buf) (c := c) (x := y)).1; omega
      | some z => rw [(putN_len (l := s.buf) (c := c) (x := y)).2 (by rw [hg]; simp)]; exact hi
  have hk : ((stepP s).1.buf.map (·.1)).Nodup := by
    rcases hb with e | ⟨c, y, e, hn⟩
    · rw [e]; exact h.rok.nd
    · rw [e]; exact putN_keys h.rok.nd
  have hh := Hok.step h.hok h.fine
  have hwr : (stepP s).1.writes ≤ 32 := by rw [hfx.2.2.2.1]; exact h.wr
  exact ⟨⟨stepP_ok h.fine.ok, hf.1, step_room h.rok.len h.fine.room⟩, ⟨hf.1, hf.2, by unfold InW at hw; omega, hk, hh.1, hh.2⟩, hw, hwr⟩
theorem Full.give {s : Mc} {x : Nat} (h : s.Full) (hx : x < 18446744073709551616) : (giveP s x).1.Full := by
  have hfx := fixd_all (give_fixd s x)
  have hh := Hok.give h.hok x
  have hb := give_buf s x
  have hs : (giveP s x).1.s.length ≤ 64 ∧ (giveP s x).1.calls.length ≤ 16 ∧ ((giveP s x).1.waits = true → (giveP s x).1.s.length < 64) := by
    unfold giveP
    by_cases hw : s.waits = true
    · rw [if_pos hw]
      have := h.fine.room hw
      exact ⟨by show (s.s ++ [fixB x]).length ≤ 64; simp; omega, h.rok.calls, fun e => by cases e⟩
    · rw [if_neg hw]
      exact ⟨h.rok.len, h.rok.calls, h.fine.room⟩
  have hok : (giveP s x).1.Ok := by
    by_cases hw : s.waits = true
    · exact giveP_ok h.fine.ok hx
    · have e : giveP s x = (s, 3) := by unfold giveP; rw [if_neg hw]
      rw [e]; exact h.fine.ok
  exact ⟨⟨hok, hs.1, hs.2.2⟩, ⟨hs.1, hs.2.1, by rw [hb]; exact h.rok.buf, by rw [hb]; exact h.rok.nd, hh.1, hh.2⟩, by unfold InW; rw [hb, hfx.2.2.2.1]; exact h.inw, by rw [hfx.2.2.2.1]; exact h.wr⟩
end Go.Proofs.YthgllaomafhdkaaGreat
