/- The laws' helpers: bits, fed, sameAsk; a first run. -/
import Derived.Test.YtgeapkalabijmaaGreatK8
namespace Go.Proofs.YtgeapkalabijmaaGreat
open Go Go.RowKit
set_option maxRecDepth 100000
set_option maxHeartbeats 1000000
set_option linter.unusedVariables false
set_option linter.unusedSimpArgs false

def fedP (l : List Nat) (k : Nat) : Nat := if l.length = 0 then 0 else l.getD (k % l.length) 0
theorem fedP_lt {l : List Nat} (h : ∀ x ∈ l, x < 18446744073709551616) (k : Nat) : fedP l k < 18446744073709551616 := by
  unfold fedP
  split
  · decide
  · rw [List.getD_eq_getElem?_getD]
    cases e : l[k % l.length]? with
    | none => decide
    | some y => exact h y (List.mem_of_getElem? e)
theorem ite_in {α : Type} (P : α → Prop) {c : Prop} [Decidable c] {a b : α} (ha : P a) (hb : P b) : P (if c then a else b) := by
  by_cases h : c
  · rw [if_pos h]; exact ha
  · rw [if_neg h]; exact hb
/-- A field that reckoning leaves alone. -/
theorem reckon_keeps {α : Type} (f : Mc → α) (h : ∀ (s : Mc) l o z, f { s with s := l, out := o, locals := z } = f s) (s : Mc) (x : Ins) : f (reckonP s x) = f s := by
  unfold reckonP
  iterate 11 (refine ite_in (fun m : Mc => f m = f s) (h s _ _ _) ?_)
  rfl
theorem write_keeps {α : Type} (f : Mc → α) (h : ∀ (s : Mc) l b e, f { s with s := l, buf := b, how := e } = f s) (s : Mc) : f (writeP s).1 = f s := by
  unfold writeP
  refine ite_in (fun m : Mc × AskD => f m.1 = f s) (ite_in (fun m : Mc × AskD => f m.1 = f s) ?_ (h s _ _ _)) (h s _ _ _)
  dsimp only
  cases getN s.buf (idxI (topN s.s 0) s.cells) with
  | none => exact ite_in (fun m : Mc × AskD => f m.1 = f s) (h s _ _ _) (h s _ _ _)
  | some y => exact h s _ _ _
/-- What an instruction other than a read leaves alone. -/
theorem do_keeps {α : Type} (f : Mc → α) (h1 : ∀ (s : Mc) l o z, f { s with s := l, out := o, locals := z } = f s) (h2 : ∀ (s : Mc) l b e, f { s with s := l, buf := b, how := e } = f s) (h3 : ∀ (s : Mc) l a c, f { s with s := l, at_ := a, calls := c } = f s) {s : Mc} {x : Ins} (hx : x.1 ≠ 16) : f (doP s x).1 = f s := by
  unfold doP
  rw [if_neg hx]
  refine ite_in (fun m : Mc × AskD => f m.1 = f s) (write_keeps f h2 s) (ite_in (fun m : Mc × AskD => f m.1 = f s) (h2 s _ _ _) (ite_in (fun m : Mc × AskD => f m.1 = f s) (h2 s _ _ _) (ite_in (fun m : Mc × AskD => f m.1 = f s) (h3 s _ _ _) (ite_in (fun m : Mc × AskD => f m.1 = f s) ?_ (ite_in (fun m : Mc × AskD => f m.1 = f s) ?_ (ite_in (fun m : Mc × AskD => f m.1 = f s) (h3 s _ _ _) (ite_in (fun m : Mc × AskD => f m.1 = f s) ?_ ?_)))))))
  · exact ite_in (fun m : Mc => f m = f s) (h3 s _ _ _) (h3 s _ s.at_ s.calls)
  · exact ite_in (fun m : Mc => f m = f s) (h3 s _ s.at_ s.calls) (h3 s _ _ _)
  · cases s.calls.getLast? with
    | none => exact h2 s _ _ _
    | some a => exact h3 s _ _ _
  · exact reckon_keeps f h1 s x
/-- Where it waits the stack has room. -/
theorem do_waits {s : Mc} {x : Ins} (hw : s.waits = false) (h : (doP s x).1.waits = true) : x.1 = 16 ∧ (doP s x).1.s = s.s.dropLast ∧ (doP s x).2.kind = 1 := by
  by_cases hx : x.1 = 16
  · refine ⟨hx, ?_⟩
    unfold doP at h ⊢
    rw [if_pos hx] at h ⊢
    unfold readP at h ⊢
    by_cases hi : idxE (topN s.s 0) s.cells = 0
    · rw [if_pos hi] at h ⊢
      dsimp only at h ⊢
      cases hg : getN s.buf (idxI (topN s.s 0) s.cells) with
      | none => exact ⟨rfl, rfl⟩
      | some y => rw [hg] at h; exact absurd (hw.symm.trans h) (by decide)
    · rw [if_neg hi] at h
      exact absurd (hw.symm.trans h) (by decide)
  · have := do_keeps Mc.waits (fun _ _ _ _ => rfl) (fun _ _ _ _ => rfl) (fun _ _ _ _ => rfl) (s := s) hx
    rw [this, hw] at h
    cases h
theorem step_room {s : Mc} (hl : s.s.length ≤ 64) (h : s.waits = true → s.s.length < 64) : (stepP s).1.waits = true → (stepP s).1.s.length < 64 := by
  cases hw : s.waits with
  | true =>
    have e : stepP s = (s, ⟨1, s.cell, 0, false⟩) := by unfold stepP; rw [if_pos hw]
    rw [e]; exact fun _ => h hw
  | false =>
    unfold stepP
    rw [if_neg (by rw [hw]; decide)]
    split
    · intro h'; exact absurd (hw.symm.trans h') (by decide)
    split
    · intro h'; exact absurd (hw.symm.trans h') (by decide)
    split
    · intro h'; exact absurd (hw.symm.trans h') (by decide)
    split
    · intro h'; exact absurd (hw.symm.trans h') (by decide)
    · dsimp only
      split
      · rename_i x hx hr
        intro h'
        obtain ⟨h1, h2, _⟩ := do_waits (s := { s with used := s.used + 1, at_ := s.at_ + 1 }) hw h'
        rw [h2]
        have := (room_facts hr).1
        unfold needOf at this
        rw [if_neg (by rw [h1]; decide), h1] at this
        have e : takesOf 16 = 1 := by decide
        rw [e] at this
        show s.s.dropLast.length < 64
        rw [List.length_dropLast]
        omega
      · intro h'; exact absurd (hw.symm.trans h') (by decide)
/-- All that the walks ask of a machine. -/
structure Mc.Fine (s : Mc) : Prop where
  ok : s.Ok
  len : s.s.length ≤ 64
  room : s.waits = true → s.s.length < 64
theorem mstep_any (m : Nat) (F : Nat → Prop) (s : Mc) (w : World) (h : Ma w m F s) (ok : s.Fine) :
    Calls Tryz.prog 61 #[.pointer (some ⟨m, 0, none⟩)] w fun e w' => e = .returned (askV (stepP s).2) ∧ MaS w w' m F (stepP s).1 ∧ (stepP s).1.Fine :=
  (step_any m F s w h ok.ok).mono fun e w' ⟨he, hS⟩ => ⟨he, hS, stepP_ok ok.ok, hS.ma.fits.1, step_room ok.len ok.room⟩
theorem mgive_any (m : Nat) (F : Nat → Prop) (s : Mc) (x : Nat) (w : World) (h : Ma w m F s) (ok : s.Fine) (hx : x < 18446744073709551616) :
    Calls Tryz.prog 63 #[.pointer (some ⟨m, 0, none⟩), fl x] w fun e w' => e = .returned (.int .i64 (giveP s x).2) ∧ MaS w w' m F (giveP s x).1 ∧ (giveP s x).1.Fine := by
  cases hw : s.waits with
  | false =>
    have e : giveP s x = (s, 3) := by unfold giveP; rw [if_neg (by rw [hw]; decide)]
    rw [e]
    refine (give_no m F s x w h hw).mono ?_
    rintro e w' ⟨rfl, rfl⟩
    exact ⟨rfl, MaS.of h (Chg.refl _ _), ok⟩
  | true =>
    have e : giveP s x = ({ s with s := s.s ++ [fixB x], reads := s.reads ++ [(s.cell, fixB x)], waits := false }, 0) := by unfold giveP; rw [if_pos hw]
    have hr := ok.ok.rds
    have hu := ok.ok.used
    have hf := ok.ok.fuel
    rw [hw] at hr
    simp at hr
    have hl := ok.room hw
    refine (give_yes m F s x w h hw (by omega) hl).mono ?_
    rintro e' w' ⟨rfl, hS⟩
    rw [e]
    exact ⟨rfl, hS, e ▸ giveP_ok ok.ok hx, hS.ma.fits.1, fun h => by simp at h⟩
theorem mc0_fine {c t f r tag : Int} {code : List Ins} {args : List Nat} (h : CfgOk c t f r) (hx : ∀ i ∈ code, i.2.2 < 18446744073709551616) (ha : ∀ y ∈ args, y < 18446744073709551616) : (mc0 c t f r tag code args).Fine :=
  ⟨mc0_ok h hx ha, by show ([] : List Nat).length ≤ 64; decide, fun h => by cases h⟩
/-- The first run. -/
def lvCode : List Ins := [(1, 0, 4619567317775286272), (1, 0, 0), (17, 0, 0), (1, 0, 4607182418800017408), (16, 0, 0), (18, 0, 0), (20, 0, 0)]
def lv0 : Mc := mc0 2 1 10 1 2 lvCode []
def lv1 : Mc := (stepP lv0).1
def lv2 : Mc := (stepP lv1).1
def lv3 : Mc := (stepP lv2).1
def lv4 : Mc := (stepP lv3).1
def lv5 : Mc := (stepP lv4).1
def lv6 : Mc := (giveP lv5 4617315517961601024).1
def lv7 : Mc := (stepP lv6).1
def lv8 : Mc := (stepP lv7).1
theorem lv_a1 : (stepP lv0).2 = askNone := by kernel_rfl
theorem lv_a2 : (stepP lv1).2 = askNone := by kernel_rfl
theorem lv_a3 : (stepP lv2).2 = ⟨3, 0, 4619567317775286272, true⟩ := by kernel_rfl
theorem lv_a4 : (stepP lv3).2 = askNone := by kernel_rfl
theorem lv_a5 : (stepP lv4).2 = ⟨1, 1, 0, false⟩ := by kernel_rfl
theorem lv_w5 : lv5.waits = true := by kernel_rfl
theorem lv_a6 : (giveP lv5 4617315517961601024).2 = 0 := by kernel_rfl
theorem lv_a7 : (stepP lv6).2 = askNone := by kernel_rfl
theorem lv_a8 : (stepP lv7).2 = askEnd := by kernel_rfl
theorem lv_h8 : lv8.how = (1, 0, 0) := by kernel_rfl
theorem lv_o8 : lv8.out = [4617315517961601024] := by kernel_rfl
theorem lv_u8 : lv8.used = 7 := by kernel_rfl
theorem lv_o0 : lv0.Fine := mc0_fine (by decide) (by decide) (by decide)
end Go.Proofs.YtgeapkalabijmaaGreat

/- What a step may be: an end, or one instruction. -/
namespace Go.Proofs.YtgeapkalabijmaaGreat
open Go Go.RowKit
set_option maxRecDepth 100000
set_option maxHeartbeats 1000000
set_option linter.unusedVariables false
set_option linter.unusedSimpArgs false

theorem idx_bd {x : Nat} {n : Int} (h : idxE x n = 0) : 0 ≤ idxI x n ∧ idxI x n < n := by
  unfold idxE at h
  unfold idxI
  split at h
  · rename_i hc
    rw [if_pos hc]
    rw [Bool.and_eq_true] at hc
    exact ⟨by omega, of_decide_eq_true hc.2⟩
  · omega
theorem getN_putN (l : List (Int × Nat)) (c : Int) (x : Nat) (d : Int) : getN (putN l c x) d = if d = c then some x else getN l d := by
  have pset : ∀ (l : List (Int × Nat)) (i : Nat) (d : Int), Kn l c i → pos (l.set i (c, x)) d = pos l d := by
    intro l
    induction l with
    | nil => intro i d h; obtain ⟨⟨y, hy⟩, _⟩ := h; simp at hy
    | cons t l ih =>
      intro i d h
      cases i with
      | zero =>
        obtain ⟨⟨y, hy⟩, _⟩ := h
        simp at hy
        subst hy
        rw [List.set_cons_zero, pos_cons, pos_cons]
      | succ i => rw [List.set_cons_succ, pos_cons, pos_cons, ih i d h.tail.2]
  have papp : ∀ (l : List (Int × Nat)) (d : Int), pos (l ++ [(c, x)]) d = match pos l d with | some i => some i | none => if c = d then some l.length else none := by
    intro l d
    induction l with
    | nil => simp only [List.nil_append, pos_cons, List.length_nil]; by_cases h : c = d <;> simp [h, pos]
    | cons t l ih =>
      rw [List.cons_append, pos_cons, pos_cons, ih]
      by_cases h : (t.1 == d) = true
      · rw [if_pos h, if_pos h]
      · rw [if_neg h, if_neg h]
        cases pos l d with
        | none => by_cases h2 : c = d <;> simp [h2]
        | some i => rfl
  unfold putN
  cases hp : pos l c with
  | some i =>
    have hk := Kn.of_pos hp
    show getN (l.set i (c, x)) d = _
    unfold getN
    rw [pset l i d hk]
    by_cases hd : d = c
    · subst hd
      rw [hp, if_pos rfl]
      simp [List.getD_eq_getElem?_getD, hk.lt]
    · rw [if_neg hd]
      cases hq : pos l d with
      | none => rfl
      | some j =>
        have hj := Kn.of_pos hq
        have hij : i ≠ j := by
          rintro rfl
          obtain ⟨⟨y, hy⟩, _⟩ := hk
          obtain ⟨⟨z, hz⟩, _⟩ := hj
          rw [hy] at hz
          injection hz with hz
          injection hz with h1 h2
          exact hd h1.symm
        simp [List.getD_eq_getElem?_getD, List.getElem?_set, hij]
  | none =>
    show getN (l ++ [(c, x)]) d = _
    unfold getN
    rw [papp]
    by_cases hd : d = c
    · subst hd
      rw [hp, if_pos rfl]
      simp [List.getD_eq_getElem?_getD]
    · rw [if_neg hd]
      cases hq : pos l d with
      | none => simp [Ne.symm hd]
      | some j =>
        have hj := (Kn.of_pos hq).lt
        simp [List.getD_eq_getElem?_getD, List.getElem?_append_left hj]

/-- It has ended. -/
structure Ended (s : Mc) (u : Nat) (r : Mc × AskD) : Prop where
  ask : r.2 = askEnd
  used : r.1.used = u
  waits : r.1.waits = false
  how : r.1.how.1 = 1 ∨ r.1.how.1 = 2 ∨ r.1.how.1 = 3
  err : r.1.how.1 = 3 ↔ r.1.how.2.2 ≠ 0
  fuel : r.1.how.2.2 = 80 → (r.1.used : Int) = s.fuel
  buf : r.1.buf = s.buf
/-- An instruction was done. -/
structure Went (s : Mc) (u : Nat) (r : Mc × AskD) : Prop where
  kind : r.2.kind = 0 ∨ r.2.kind = 1 ∨ r.2.kind = 2 ∨ r.2.kind = 3
  used : r.1.used = u
  how : r.1.how = s.how
  waits : r.1.waits = (r.2.kind == 1)
  none_ : r.2.kind = 0 → r.1.buf = s.buf ∧ r.2 = askNone
  cell : r.2.kind ≠ 0 → 0 ≤ r.2.cell ∧ r.2.cell < s.cells
  read : r.2.kind = 1 → r.1.buf = s.buf ∧ getN s.buf r.2.cell = none ∧ r.1.cell = r.2.cell ∧ r.2.x = 0 ∧ r.2.first = false
  own : r.2.kind = 2 → r.1.buf = s.buf ∧ getN s.buf r.2.cell = some r.2.x ∧ r.2.first = false
  write : r.2.kind = 3 → s.tag = 2 ∧ r.1.buf = putN s.buf r.2.cell r.2.x ∧ r.2.first = (getN s.buf r.2.cell).isNone ∧ r.2.x = topN s.s 1
theorem Went.plain {s s' : Mc} (hu : s'.used = s.used) (hh : s'.how = s.how) (hw : s'.waits = false) (hb : s'.buf = s.buf) : Went s s.used (s', askNone) :=
  ⟨.inl rfl, hu, hh, hw, fun _ => ⟨hb, rfl⟩, fun h => absurd rfl h, (fun h => by simp [askNone] at h), (fun h => by simp [askNone] at h), (fun h => by simp [askNone] at h)⟩
theorem Ended.fault {s : Mc} {e : Int} (hw : s.waits = false) (he : e ≠ 0) (h8 : e = 80 → (s.used : Int) = s.fuel) : Ended s s.used (s.fails e, askEnd) :=
  ⟨rfl, rfl, hw, .inr (.inr rfl), ⟨fun _ => he, fun _ => rfl⟩, h8, rfl⟩
theorem do_class {s : Mc} (x : Ins) (hw : s.waits = false) : Ended s s.used (doP s x) ∨ Went s s.used (doP s x) := by
  unfold doP
  by_cases h16 : x.1 = 16
  · rw [if_pos h16]
    unfold readP
    by_cases hi : idxE (topN s.s 0) s.cells = 0
    · rw [if_pos hi]
      dsimp only
      have hb := idx_bd hi
      cases hg : getN s.buf (idxI (topN s.s 0) s.cells) with
      | none => exact .inr ⟨.inr (.inl rfl), rfl, rfl, rfl, (fun h => by simp [askNone] at h), fun _ => hb, fun _ => ⟨rfl, hg, rfl, rfl, rfl⟩, (fun h => by simp [askNone] at h), (fun h => by simp [askNone] at h)⟩
      | some y => exact .inr ⟨.inr (.inr (.inl rfl)), rfl, rfl, hw, (fun h => by simp [askNone] at h), fun _ => hb, (fun h => by simp [askNone] at h), fun _ => ⟨rfl, hg, rfl⟩, (fun h => by simp [askNone] at h)⟩
    · rw [if_neg hi]; exact .inl (.fault hw (by decide) ((fun h => by simp [askNone] at h)))
  rw [if_neg h16]
  by_cases h17 : x.1 = 17
  · rw [if_pos h17]
    unfold writeP
    by_cases ht : s.tag = 2
    · rw [if_pos ht]
      by_cases hi : idxE (topN s.s 0) s.cells = 0
      · rw [if_pos hi]
        dsimp only
        have hb := idx_bd hi
        cases hg : getN s.buf (idxI (topN s.s 0) s.cells) with
        | none =>
          dsimp only
          by_cases hl : (s.buf.length : Int) = s.writes
          · rw [if_pos hl]; exact .inl (.fault hw (by decide) ((fun h => by simp [askNone] at h)))
          · rw [if_neg hl]; exact .inr ⟨.inr (.inr (.inr rfl)), rfl, rfl, hw, (fun h => by simp [askNone] at h), fun _ => hb, (fun h => by simp [askNone] at h), (fun h => by simp [askNone] at h), fun _ => ⟨ht, rfl, by show true = _; rw [hg]; rfl, rfl⟩⟩
        | some y => exact .inr ⟨.inr (.inr (.inr rfl)), rfl, rfl, hw, (fun h => by simp [askNone] at h), fun _ => hb, (fun h => by simp [askNone] at h), (fun h => by simp [askNone] at h), fun _ => ⟨ht, rfl, by show false = _; rw [hg]; rfl, rfl⟩⟩
      · rw [if_neg hi]; exact .inl (.fault hw (by decide) ((fun h => by simp [askNone] at h)))
    · rw [if_neg ht]; exact .inl (.fault hw (by decide) ((fun h => by simp [askNone] at h)))
  rw [if_neg h17]
  by_cases h19 : x.1 = 19
  · rw [if_pos h19]; exact .inl ⟨rfl, rfl, hw, .inr (.inl rfl), ⟨(fun h => by simp [askNone] at h), fun h => absurd rfl h⟩, (fun h => by simp [askNone] at h), rfl⟩
  rw [if_neg h19]
  by_cases h20 : x.1 = 20
  · rw [if_pos h20]; exact .inl ⟨rfl, rfl, hw, .inl rfl, ⟨(fun h => by simp [askNone] at h), fun h => absurd rfl h⟩, (fun h => by simp [askNone] at h), rfl⟩
  rw [if_neg h20]
  by_cases h11 : x.1 = 11
  · rw [if_pos h11]; exact .inr (.plain rfl rfl hw rfl)
  rw [if_neg h11]
  by_cases h12 : x.1 = 12
  · rw [if_pos h12]
    by_cases hb : trueB (topN s.s 0) = true
    · rw [if_pos hb]; exact .inr (.plain rfl rfl hw rfl)
    · rw [if_neg hb]; exact .inr (.plain rfl rfl hw rfl)
  rw [if_neg h12]
  by_cases h13 : x.1 = 13
  · rw [if_pos h13]
    by_cases hb : trueB (topN s.s 0) = true
    · rw [if_pos hb]; exact .inr (.plain rfl rfl hw rfl)
    · rw [if_neg hb]; exact .inr (.plain rfl rfl hw rfl)
  rw [if_neg h13]
  by_cases h14 : x.1 = 14
  · rw [if_pos h14]; exact .inr (.plain rfl rfl hw rfl)
  rw [if_neg h14]
  by_cases h15 : x.1 = 15
  · rw [if_pos h15]
    cases s.calls.getLast? with
    | none => exact .inl ⟨rfl, rfl, hw, .inl rfl, ⟨(fun h => by simp [askNone] at h), fun h => absurd rfl h⟩, (fun h => by simp [askNone] at h), rfl⟩
    | some a => exact .inr (.plain rfl rfl hw rfl)
  rw [if_neg h15]
  exact .inr (.plain (reckon_keeps Mc.used (fun _ _ _ _ => rfl) s x) (reckon_keeps Mc.how (fun _ _ _ _ => rfl) s x) ((reckon_keeps Mc.waits (fun _ _ _ _ => rfl) s x).trans hw) (reckon_keeps Mc.buf (fun _ _ _ _ => rfl) s x))
/-- A step of one that goes on. -/
theorem step_class {s : Mc} (hw : s.waits = false) (hh : s.how = (0, 0, 0)) (hu : (s.used : Int) ≤ s.fuel) :
    (∃ u : Nat, (u : Int) ≤ s.fuel ∧ Ended s u (stepP s)) ∨ (((s.used + 1 : Nat) : Int) ≤ s.fuel ∧ Went s (s.used + 1) (stepP s)) := by
  unfold stepP
  rw [if_neg (by rw [hw]; decide), if_neg (by rw [hh]; decide)]
  by_cases hb : s.bad = true
  · rw [if_pos hb]; exact .inl ⟨s.used, hu, .fault hw (by decide) ((fun h => by simp [askNone] at h))⟩
  rw [if_neg hb]
  by_cases hf : (s.used : Int) = s.fuel
  · rw [if_pos hf]; exact .inl ⟨s.used, hu, .fault hw (by decide) (fun _ => hf)⟩
  rw [if_neg hf]
  cases hx : s.code[s.at_]? with
  | none => exact .inl ⟨s.used, hu, .fault hw (by decide) ((fun h => by simp [askNone] at h))⟩
  | some x =>
    dsimp only
    by_cases hr : roomOk s x = true
    · rw [if_pos hr]
      rcases do_class (s := { s with used := s.used + 1, at_ := s.at_ + 1 }) x hw with h | h
      · exact .inl ⟨_, by show ((s.used + 1 : Nat) : Int) ≤ s.fuel; omega, ⟨h.ask, h.used, h.waits, h.how, h.err, h.fuel, h.buf⟩⟩
      · exact .inr ⟨by omega, ⟨h.kind, h.used, h.how, h.waits, h.none_, h.cell, h.read, h.own, h.write⟩⟩
    · rw [if_neg hr]
      exact .inl ⟨s.used + 1, by omega, ⟨rfl, rfl, hw, .inr (.inr rfl), ⟨fun _ => by show (82 : Int) ≠ 0; decide, fun _ => rfl⟩, (fun h => absurd (show (82 : Int) = 80 from h) (by decide)), rfl⟩⟩
end Go.Proofs.YtgeapkalabijmaaGreat

/- live: a first run of the machine. -/
namespace Go.Proofs.YtgeapkalabijmaaGreat
open Go Go.RowKit
set_option maxRecDepth 100000
set_option maxHeartbeats 1000000
set_option linter.unusedVariables false
set_option linter.unusedSimpArgs false

theorem MaS.keep {w w' : World} {m b : Nat} {F : Nat → Prop} {s : Mc} {o : Obj} (h : MaS w w' m F s) (hb : w.heap[b]? = some o) (hF : ¬ F b) : w'.heap[b]? = some o ∧ ¬ Grow F w w' b :=
  ⟨(h.chg.block b (blk_lt hb) hF).trans hb, fun hg => by
    have := blk_lt hb
    rcases hg with hg | hg
    · exact hF hg
    · omega⟩
/-- A box that was laid beside it. -/
theorem Ma.box {w : World} {m : Nat} {F : Nat → Prop} {s : Mc} (h : Ma w m F s) (o : Obj) : Ma (w.alloc o) m F s ∧ (w.alloc o).heap[w.heap.size]? = some o ∧ ¬ F w.heap.size :=
  ⟨h.boxed o, heap_alloc_new w o, fun hF => Nat.lt_irrefl _ (h.lt _ hF)⟩
def askBx (a : AskD) : Obj := .cells #[.int .i64 a.kind, .int .i64 a.cell, fl a.x, .bool a.first] 99 (0, 0)
theorem sees_box {w : World} {b : Nat} {cs : Array Value} {T : TypeId} {fr : Nat × Nat} {xs : List Value} (h : w.heap[b]? = some (.cells cs T fr)) (e : cs = xs.toArray) : Sees w (some ⟨b, 0, none⟩) xs :=
  .inr ⟨b, 0, rfl, fun j u hu => by rw [Nat.zero_add, blk_cell h, e]; simpa using hu⟩
/-- A machine of the call's own, as it stands. -/
structure Run0 (w wi : World) (m : Nat) (F : Nat → Prop) (s : Mc) : Prop where
  ma : Ma wi m F s
  fine : s.Fine
  chg : Chg w wi Nothing
  new : ∀ k, F k → w.heap.size ≤ k
section
variable {w wi w' : World} {m : Nat} {F : Nat → Prop} {s s' : Mc}
theorem Run0.next (h : Run0 w wi m F s) (hS : MaS wi w' m F s') (hf : s'.Fine) : Run0 w w' m (Grow F wi w') s' :=
  ⟨hS.ma, hf, h.chg.trans hS.chg (fun k hk hF => by have := h.new k hF; omega), fun k hk => by have := h.chg.size; rcases hk with hk | hk; exact h.new k hk; omega⟩
theorem Run0.box (h : Run0 w wi m F s) (o : Obj) : Run0 w (wi.alloc o) m F s := ⟨h.ma.boxed o, h.fine, h.chg.alloc o, h.new⟩
theorem Run0.quiet (h : Run0 w wi m F s) (hc : Chg wi w' Nothing) : Run0 w w' m F s := ⟨h.ma.quiet hc, h.fine, h.chg.trans hc (fun _ _ h => h), h.new⟩
theorem Run0.off (h : Run0 w wi m F s) : ¬ F wi.heap.size := fun hF => Nat.lt_irrefl _ (h.ma.lt _ hF)
end
/-- A box beside a machine. -/
def Beside (w : World) (b : Nat) (F : Nat → Prop) (o : Obj) : Prop := w.heap[b]? = some o ∧ ¬ F b
theorem Beside.next {w w' : World} {m b : Nat} {F : Nat → Prop} {s : Mc} {o : Obj} (h : Beside w b F o) (hS : MaS w w' m F s) : Beside w' b (Grow F w w') o := hS.keep h.1 h.2
theorem Beside.alloc {w : World} {b : Nat} {F : Nat → Prop} {o : Obj} (h : Beside w b F o) (o' : Obj) : Beside (w.alloc o') b F o := ⟨blk_alloc h.1 o', h.2⟩
theorem Beside.quiet {w w' : World} {b : Nat} {F : Nat → Prop} {o : Obj} (h : Beside w b F o) (hc : Chg w w' Nothing) : Beside w' b F o := ⟨(hc.block b (blk_lt h.1) id).trans h.1, h.2⟩
theorem Run0.beside {w wi : World} {m : Nat} {F : Nat → Prop} {s : Mc} (h : Run0 w wi m F s) (o : Obj) : Beside (wi.alloc o) wi.heap.size F o := ⟨heap_alloc_new wi o, h.off⟩
end Go.Proofs.YtgeapkalabijmaaGreat

/- What a step leaves as it was; how the laws begin. -/
namespace Go.Proofs.YtgeapkalabijmaaGreat
open Go Go.RowKit
set_option maxRecDepth 100000
set_option maxHeartbeats 1000000
set_option linter.unusedVariables false
set_option linter.unusedSimpArgs false

/-- What no step changes. -/
def Mc.fixd (s : Mc) : Int × Int × Int × Int × Int × List Ins × (Nat → Nat) := (s.cells, s.threads, s.fuel, s.writes, s.tag, s.code, s.args)
theorem do_fixd (s : Mc) (x : Ins) : (doP s x).1.fixd = s.fixd := by
  by_cases hx : x.1 = 16
  · unfold doP
    rw [if_pos hx]
    unfold readP
    refine ite_in (fun m : Mc × AskD => m.1.fixd = s.fixd) ?_ rfl
    dsimp only
    cases getN s.buf (idxI (topN s.s 0) s.cells) <;> rfl
  · exact do_keeps Mc.fixd (fun _ _ _ _ => rfl) (fun _ _ _ _ => rfl) (fun _ _ _ _ => rfl) hx
theorem step_fixd (s : Mc) : (stepP s).1.fixd = s.fixd := by
  unfold stepP
  refine ite_in (fun m : Mc × AskD => m.1.fixd = s.fixd) rfl (ite_in (fun m : Mc × AskD => m.1.fixd = s.fixd) rfl (ite_in (fun m : Mc × AskD => m.1.fixd = s.fixd) rfl (ite_in (fun m : Mc × AskD => m.1.fixd = s.fixd) rfl ?_)))
  cases s.code[s.at_]? with
  | none => rfl
  | some x => exact ite_in (fun m : Mc × AskD => m.1.fixd = s.fixd) (do_fixd _ x) rfl
theorem give_fixd (s : Mc) (x : Nat) : (giveP s x).1.fixd = s.fixd := ite_in (fun m : Mc × Int => m.1.fixd = s.fixd) rfl rfl
theorem give_went {s : Mc} (h : s.waits = true) (x : Nat) : (giveP s x).2 = 0 ∧ (giveP s x).1.used = s.used ∧ (giveP s x).1.how = s.how ∧ (giveP s x).1.waits = false ∧ (giveP s x).1.buf = s.buf := by
  unfold giveP
  rw [if_pos h]
  exact ⟨rfl, rfl, rfl, rfl, rfl⟩
/-- It goes on; so many instructions were begun. -/
structure Goes (s s0 : Mc) (i : Nat) : Prop where
  waits : s.waits = false
  how : s.how = (0, 0, 0)
  used : s.used = i
  fixd : s.fixd = s0.fixd
  tag : s0.tag ≠ 2 → s.buf = []
theorem Goes.begin (c t f r tag : Int) (code : List Ins) (args : List Nat) : Goes (mc0 c t f r tag code args) (mc0 c t f r tag code args) 0 := ⟨rfl, rfl, rfl, rfl, fun _ => rfl⟩
theorem Goes.facts {s s0 : Mc} {i : Nat} (h : Goes s s0 i) : s.cells = s0.cells ∧ s.threads = s0.threads ∧ s.fuel = s0.fuel ∧ s.writes = s0.writes ∧ s.tag = s0.tag ∧ s.code = s0.code ∧ s.args = s0.args := by
  have := h.fixd
  unfold Mc.fixd at this
  simpa using this
theorem Goes.step {s s0 : Mc} {i : Nat} (h : Goes s s0 i) (hw : Went s (s.used + 1) (stepP s)) : (∀ n, (stepP s).2.kind = 1 → Goes (giveP (stepP s).1 n).1 s0 (i + 1)) ∧ ((stepP s).2.kind ≠ 1 → Goes (stepP s).1 s0 (i + 1)) := by
  have ht : s0.tag ≠ 2 → (stepP s).1.buf = [] := fun ht => by
    have hb := h.tag ht
    rcases hw.kind with k | k | k | k
    · rw [(hw.none_ k).1, hb]
    · rw [(hw.read k).1, hb]
    · rw [(hw.own k).1, hb]
    · exact absurd ((h.facts.2.2.2.2.1).symm.trans (hw.write k).1) ht
  constructor
  · intro n hk
    have hwt : (stepP s).1.waits = true := by rw [hw.waits, hk]; rfl
    obtain ⟨g1, g2, g3, g4, g5⟩ := give_went hwt n
    exact ⟨g4, by rw [g3, hw.how, h.how], by rw [g2, hw.used, h.used], by rw [give_fixd, step_fixd, h.fixd], fun t => by rw [g5, ht t]⟩
  · intro hk
    exact ⟨by rw [hw.waits]; simpa using hk, by rw [hw.how, h.how], by rw [hw.used, h.used], by rw [step_fixd, h.fixd], ht⟩
theorem Goes.class {s s0 : Mc} {i : Nat} (h : Goes s s0 i) (hf : s.Fine) : (∃ u : Nat, (u : Int) ≤ s0.fuel ∧ Ended s u (stepP s)) ∨ (((i + 1 : Nat) : Int) ≤ s0.fuel ∧ Went s (s.used + 1) (stepP s)) := by
  have := step_class h.waits h.how hf.ok.used
  rw [h.facts.2.2.1] at this
  rw [← h.used]
  exact this
/-- Where the instructions lie that were handed in. -/
def CodeB (ac : Option Addr) (code : List Ins) : Nat → Prop := fun k => code ≠ [] ∧ ∃ o, ac = some ⟨k, o, none⟩
theorem code_row {w : World} {ac : Option Addr} {cc : Nat} {code : List Ins} (h : Sees w ac (insV code)) (hl : code.length ≤ cc) (hn : ac = none → cc = 0) : (∀ k, CodeB ac code k → k < w.heap.size) ∧ RRow w (CodeB ac code) (.slice ac code.length cc) code.length 3 (insV code) := by
  cases code with
  | nil => exact ⟨fun k hk => absurd rfl hk.1, ac, cc, rfl, hl, rfl, .inl ⟨rfl, hn⟩⟩
  | cons t l =>
    rcases h with h | ⟨b, o, rfl, hc⟩
    · simp [insV] at h
    · refine ⟨fun k hk => ?_, some ⟨b, o, none⟩, cc, rfl, hl, insV_len _, .inr ⟨b, o, rfl, ⟨by simp, o, rfl⟩, hc⟩⟩
      obtain ⟨_, o', he⟩ := hk
      injection he with he
      injection he with h1 h2 h3
      subst h1
      exact cell_lt (hc 0 _ rfl)
/-- The boxes that a law lays first. -/
def cfgBx (c t f r : Int) : Obj := .cells #[.int .i64 c, .int .i64 t, .int .i64 f, .int .i64 r] 51 (0, 0)
def prgBx (tag : Int) (ac : Option Addr) (n cc : Nat) : Obj := .cells #[.int .i64 tag, .slice ac n cc] 26 (0, 0)
theorem law_boxes {w w' : World} {c t f r tag : Int} {ac : Option Addr} {n cc : Nat} (h : Chg ((w.alloc (cfgBx c t f r)).alloc (prgBx tag ac n cc)) w' Nothing) :
    w'.heap[w.heap.size]? = some (cfgBx c t f r) ∧ w'.heap[w.heap.size + 1]? = some (prgBx tag ac n cc) ∧ w.heap.size + 2 ≤ w'.heap.size := by
  have h1 := h.size
  simp at h1
  refine ⟨?_, ?_, h1⟩
  · exact (h.block _ (by simp; omega) id).trans ((Below.heap_alloc _ _ _ (by simp)).trans (heap_alloc_new w _))
  · exact (h.block _ (by simp) id).trans step_blk
theorem law_cells {w w' : World} {c t f r tag : Int} {ac : Option Addr} {n cc : Nat} (h : Chg ((w.alloc (cfgBx c t f r)).alloc (prgBx tag ac n cc)) w' Nothing) :
    w'.cell? ⟨w.heap.size, 0, none⟩ = some (.int .i64 c) ∧ w'.cell? ⟨w.heap.size, 1, none⟩ = some (.int .i64 t) ∧ w'.cell? ⟨w.heap.size, 2, none⟩ = some (.int .i64 f) ∧ w'.cell? ⟨w.heap.size, 3, none⟩ = some (.int .i64 r) ∧
      w'.cell? ⟨w.heap.size + 1, 0, none⟩ = some (.int .i64 tag) ∧ w'.cell? ⟨w.heap.size + 1, 1, none⟩ = some (.slice ac n cc) ∧ w.heap.size < w'.heap.size ∧ w.heap.size + 1 < w'.heap.size := by
  obtain ⟨x0, x1, hz⟩ := law_boxes h
  exact ⟨blk_cell x0 0, blk_cell x0 1, blk_cell x0 2, blk_cell x0 3, blk_cell x1 0, blk_cell x1 1, by omega, by omega⟩
theorem law_old {w w' : World} {c t f r tag : Int} {ac : Option Addr} {n cc : Nat} (h : Chg ((w.alloc (cfgBx c t f r)).alloc (prgBx tag ac n cc)) w' Nothing) : Chg w w' Nothing :=
  (((Chg.refl w Nothing).alloc _).alloc _).trans h (fun _ _ h => h)
end Go.Proofs.YtgeapkalabijmaaGreat

/- Threads are not seen; two machines side by side. -/
namespace Go.Proofs.YtgeapkalabijmaaGreat
open Go Go.RowKit
set_option maxRecDepth 100000
set_option maxHeartbeats 1000000
set_option linter.unusedVariables false
set_option linter.unusedSimpArgs false

/-- The same, with so many threads. -/
def Mc.thr (s : Mc) (t : Int) : Mc := { s with threads := t }
def thrR (r : Mc × AskD) (t : Int) : Mc × AskD := (r.1.thr t, r.2)
theorem thr_ite {c : Prop} [Decidable c] {a b a' b' : Mc × AskD} {t : Int} (ha : a' = thrR a t) (hb : b' = thrR b t) : (if c then a' else b') = thrR (if c then a else b) t := by
  by_cases h : c
  · rw [if_pos h, if_pos h]; exact ha
  · rw [if_neg h, if_neg h]; exact hb
theorem thr_ite1 {c : Prop} [Decidable c] {a b a' b' : Mc} {t : Int} (ha : a' = a.thr t) (hb : b' = b.thr t) : (if c then a' else b') = (if c then a else b).thr t := by
  by_cases h : c
  · rw [if_pos h, if_pos h]; exact ha
  · rw [if_neg h, if_neg h]; exact hb
theorem reckon_thr (s : Mc) (x : Ins) (t : Int) : reckonP (s.thr t) x = (reckonP s x).thr t := by
  unfold reckonP
  iterate 11 (refine thr_ite1 rfl ?_)
  rfl
theorem read_thr (s : Mc) (t : Int) : readP (s.thr t) = thrR (readP s) t := by
  unfold readP
  refine thr_ite ?_ rfl
  show (match getN s.buf (idxI (topN s.s 0) s.cells) with | none => _ | some x => _) = thrR (match getN s.buf (idxI (topN s.s 0) s.cells) with | none => _ | some x => _) t
  cases getN s.buf (idxI (topN s.s 0) s.cells) <;> rfl
theorem write_thr (s : Mc) (t : Int) : writeP (s.thr t) = thrR (writeP s) t := by
  unfold writeP
  refine thr_ite (thr_ite ?_ rfl) rfl
  show (match getN s.buf (idxI (topN s.s 0) s.cells) with | none => _ | some x => _) = thrR (match getN s.buf (idxI (topN s.s 0) s.cells) with | none => _ | some x => _) t
  cases getN s.buf (idxI (topN s.s 0) s.cells) with
  | none => exact thr_ite rfl rfl
  | some y => rfl
theorem do_thr (s : Mc) (x : Ins) (t : Int) : doP (s.thr t) x = thrR (doP s x) t := by
  unfold doP
  refine thr_ite (read_thr s t) (thr_ite (write_thr s t) (thr_ite rfl (thr_ite rfl (thr_ite rfl (thr_ite ?_ (thr_ite ?_ (thr_ite rfl (thr_ite ?_ ?_))))))))
  · exact Prod.ext (thr_ite1 (c := trueB (topN s.s 0) = true) rfl rfl) rfl
  · exact Prod.ext (thr_ite1 (c := trueB (topN s.s 0) = true) rfl rfl) rfl
  · show (match s.calls.getLast? with | none => _ | some a => _) = thrR (match s.calls.getLast? with | none => _ | some a => _) t
    cases s.calls.getLast? <;> rfl
  · exact Prod.ext (reckon_thr s x t) rfl
theorem step_thr (s : Mc) (t : Int) : stepP (s.thr t) = thrR (stepP s) t := by
  unfold stepP
  refine thr_ite rfl (thr_ite rfl (thr_ite rfl (thr_ite rfl ?_)))
  show (match s.code[s.at_]? with | none => _ | some x => _) = thrR (match s.code[s.at_]? with | none => _ | some x => _) t
  cases s.code[s.at_]? with
  | none => rfl
  | some x => exact thr_ite (do_thr { s with used := s.used + 1, at_ := s.at_ + 1 } x t) rfl
theorem give_thr (s : Mc) (x : Nat) (t : Int) : giveP (s.thr t) x = ((giveP s x).1.thr t, (giveP s x).2) := by
  unfold giveP
  show (if s.waits = true then _ else _) = _
  cases s.waits <;> rfl

/-- Two machines of the call's own. -/
structure Pair0 (w wi : World) (m1 : Nat) (F1 : Nat → Prop) (s1 : Mc) (m2 : Nat) (F2 : Nat → Prop) (s2 : Mc) : Prop where
  a : Run0 w wi m1 F1 s1
  b : Run0 w wi m2 F2 s2
  off : ∀ k, F1 k → ¬ F2 k
section
variable {w wi w' : World} {m1 m2 : Nat} {F1 F2 : Nat → Prop} {s1 s2 s' : Mc}
theorem Pair0.stepA (h : Pair0 w wi m1 F1 s1 m2 F2 s2) (hS : MaS wi w' m1 F1 s') (hf : s'.Fine) : Pair0 w w' m1 (Grow F1 wi w') s' m2 F2 s2 :=
  ⟨h.a.next hS hf, ⟨h.b.ma.chg hS.chg (fun k h2 h1 => h.off k h1 h2), h.b.fine, (h.a.next hS hf).chg, h.b.new⟩, fun k hk h2 => by
    rcases hk with hk | hk
    · exact h.off k hk h2
    · have := h.b.ma.lt k h2; omega⟩
theorem Pair0.stepB (h : Pair0 w wi m1 F1 s1 m2 F2 s2) (hS : MaS wi w' m2 F2 s') (hf : s'.Fine) : Pair0 w w' m1 F1 s1 m2 (Grow F2 wi w') s' :=
  ⟨⟨h.a.ma.chg hS.chg (fun k h1 h2 => h.off k h1 h2), h.a.fine, (h.b.next hS hf).chg, h.a.new⟩, h.b.next hS hf, fun k h1 hk => by
    rcases hk with hk | hk
    · exact h.off k h1 hk
    · have := h.a.ma.lt k h1; omega⟩
theorem Pair0.quiet (h : Pair0 w wi m1 F1 s1 m2 F2 s2) (hc : Chg wi w' Nothing) : Pair0 w w' m1 F1 s1 m2 F2 s2 := ⟨h.a.quiet hc, h.b.quiet hc, h.off⟩
end
end Go.Proofs.YtgeapkalabijmaaGreat

/- exact and touches of layer 8's statements: equal lists. -/
namespace Go.Proofs.YtgeapkalabijmaaGreat
open Go Go.RowKit
set_option maxRecDepth 100000
set_option maxHeartbeats 1000000
set_option linter.unusedVariables false
set_option linter.unusedSimpArgs false

theorem tch_at08 {w : World} {a : Option Addr} {l : List (Int × Nat)} {i : Nat} {c : Int} {y : Nat} (h : Sees w a (tchV l)) (hi : l[i]? = some (c, y)) : ∃ b o, a = some ⟨b, o, none⟩ ∧ w.cell? ⟨b, o + i * 2, none⟩ = some (.int .i64 c) ∧ w.cell? ⟨b, o + i * 2 + 1, none⟩ = some (fl y) := by
  obtain ⟨h1, h2⟩ := tchV_at l i _ hi
  rcases h with h | ⟨b, o, rfl, h⟩
  · rw [h] at h1; simp at h1
  · exact ⟨b, o, rfl, h _ _ h1, by rw [Nat.add_assoc]; exact h _ _ h2⟩
end Go.Proofs.YtgeapkalabijmaaGreat
