/- More fuel, more writes; the other tag; another number in a cell that is not touched: plain laws. -/
import Derived.Test.YthgllaomafhdkaaGreatM45
namespace Go.Proofs.YthgllaomafhdkaaGreat
open Go Go.RowKit
set_option maxRecDepth 100000
set_option maxHeartbeats 1000000
set_option linter.unusedVariables false
set_option linter.unusedSimpArgs false

/-- The same, with so much fuel and so many writes. -/
def Mc.up (s : Mc) (f r : Int) : Mc := { s with fuel := f, writes := r }
def upR (p : Mc × AskD) (f r : Int) : Mc × AskD := (p.1.up f r, p.2)
theorem up_ite {c : Prop} [Decidable c] {a b a' b' : Mc × AskD} {f r : Int} (ha : a' = upR a f r) (hb : b' = upR b f r) : (if c then a' else b') = upR (if c then a else b) f r := by
  by_cases h : c
  · rw [if_pos h, if_pos h]; exact ha
  · rw [if_neg h, if_neg h]; exact hb
theorem up_ite1 {c : Prop} [Decidable c] {a b a' b' : Mc} {f r : Int} (ha : a' = a.up f r) (hb : b' = b.up f r) : (if c then a' else b') = (if c then a else b).up f r := by
  by_cases h : c
  · rw [if_pos h, if_pos h]; exact ha
  · rw [if_neg h, if_neg h]; exact hb
/-- It failed for want of fuel or writes. -/
def Short (s : Mc) : Prop := s.how.1 ≠ 0 ∧ (s.how.2.2 = 80 ∨ s.how.2.2 = 70)
def UpOr (a' a : Mc × AskD) (f r : Int) : Prop := a' = upR a f r ∨ Short a.1
theorem upo_ite {c : Prop} [Decidable c] {a b a' b' : Mc × AskD} {f r : Int} (ha : UpOr a' a f r) (hb : UpOr b' b f r) : UpOr (if c then a' else b') (if c then a else b) f r := by
  by_cases h : c
  · rw [if_pos h, if_pos h]; exact ha
  · rw [if_neg h, if_neg h]; exact hb
theorem reckon_up (s : Mc) (x : Ins) (f r : Int) : reckonP (s.up f r) x = (reckonP s x).up f r := by
  unfold reckonP
  iterate 11 (refine up_ite1 rfl ?_)
  rfl
theorem read_up (s : Mc) (f r : Int) : readP (s.up f r) = upR (readP s) f r := by
  unfold readP
  refine up_ite ?_ rfl
  show (match getN s.buf (idxI (topN s.s 0) s.cells) with | none => _ | some x => _) = upR (match getN s.buf (idxI (topN s.s 0) s.cells) with | none => _ | some x => _) f r
  cases getN s.buf (idxI (topN s.s 0) s.cells) <;> rfl
theorem write_up {s : Mc} {f r : Int} (hw : InW s) (hr : s.writes ≤ r) : UpOr (writeP (s.up f r)) (writeP s) f r := by
  unfold writeP
  refine upo_ite (upo_ite ?_ (.inl rfl)) (.inl rfl)
  show UpOr (match getN s.buf (idxI (topN s.s 0) s.cells) with | none => _ | some x => _) (match getN s.buf (idxI (topN s.s 0) s.cells) with | none => _ | some x => _) f r
  cases getN s.buf (idxI (topN s.s 0) s.cells) with
  | none =>
    dsimp only
    by_cases hl : (s.buf.length : Int) = s.writes
    · exact .inr (by rw [if_pos hl]; exact ⟨by show (3 : Int) ≠ 0; decide, .inr rfl⟩)
    · have h2 : ¬ (((s.up f r).buf.length : Int) = (s.up f r).writes) := by
        show ¬ ((s.buf.length : Int) = r)
        unfold InW at hw
        omega
      rw [if_neg hl, if_neg h2]
      exact .inl rfl
  | some y => exact .inl rfl
theorem do_up {s : Mc} {f r : Int} (x : Ins) (hw : InW s) (hr : s.writes ≤ r) : UpOr (doP (s.up f r) x) (doP s x) f r := by
  unfold doP
  refine upo_ite (.inl (read_up s f r)) (upo_ite (write_up hw hr) (.inl ?_))
  refine up_ite rfl (up_ite rfl (up_ite rfl (up_ite ?_ (up_ite ?_ (up_ite rfl (up_ite ?_ ?_))))))
  · exact Prod.ext (up_ite1 (c := trueB (topN s.s 0) = true) rfl rfl) rfl
  · exact Prod.ext (up_ite1 (c := trueB (topN s.s 0) = true) rfl rfl) rfl
  · show (match s.calls.getLast? with | none => _ | some a => _) = upR (match s.calls.getLast? with | none => _ | some a => _) f r
    cases s.calls.getLast? <;> rfl
  · exact Prod.ext (reckon_up s x f r) rfl
theorem step_up {s : Mc} {f r : Int} (hu : (s.used : Int) ≤ s.fuel) (hf : s.fuel ≤ f) (hw : InW s) (hr : s.writes ≤ r) : UpOr (stepP (s.up f r)) (stepP s) f r := by
  unfold stepP
  refine upo_ite (.inl rfl) (upo_ite (.inl rfl) (upo_ite (.inl rfl) ?_))
  by_cases he : (s.used : Int) = s.fuel
  · exact .inr (by rw [if_pos he]; exact ⟨by show (3 : Int) ≠ 0; decide, .inl rfl⟩)
  · have h2 : ¬ (((s.up f r).used : Int) = (s.up f r).fuel) := by
      show ¬ ((s.used : Int) = f)
      omega
    rw [if_neg he, if_neg h2]
    show UpOr (match s.code[s.at_]? with | none => _ | some x => _) (match s.code[s.at_]? with | none => _ | some x => _) f r
    cases s.code[s.at_]? with
    | none => exact .inl rfl
    | some x => exact upo_ite (do_up (s := { s with used := s.used + 1, at_ := s.at_ + 1 }) x hw hr) (.inl rfl)
theorem give_up (s : Mc) (x : Nat) (f r : Int) : (giveP (s.up f r) x).1 = (giveP s x).1.up f r := by
  unfold giveP
  show (if s.waits = true then _ else _ : Mc × Int).1 = _
  cases s.waits <;> rfl
theorem one_up {s : Mc} {f r : Int} (fs : List Nat) (hu : (s.used : Int) ≤ s.fuel) (hf : s.fuel ≤ f) (hw : InW s) (hr : s.writes ≤ r) : oneP (s.up f r) fs = (oneP s fs).up f r ∨ Short (oneP s fs) := by
  rcases step_up (f := f) (r := r) hu hf hw hr with e | e
  · refine .inl ?_
    unfold oneP
    rw [e]
    show (if (stepP s).2.kind = 1 then _ else _) = Mc.up (if (stepP s).2.kind = 1 then _ else _) f r
    exact up_ite1 (give_up _ _ f r) rfl
  · refine .inr ?_
    unfold oneP
    split
    · have e2 : (giveP (stepP s).1 (getV fs (stepP s).2.cell)).1.how = (stepP s).1.how := by
        unfold giveP
        exact ite_in (fun m : Mc × Int => m.1.how = (stepP s).1.how) rfl rfl
      unfold Short
      rw [e2]
      exact e
    · exact e
theorem runN_up {fs : List Nat} {f r : Int} (hx : ∀ y ∈ fs, y < 18446744073709551616) : ∀ (k : Nat) (s : Mc), s.Ok → InW s → s.fuel ≤ f → s.writes ≤ r → runN k (s.up f r) fs = (runN k s fs).up f r ∨ Short (runN k s fs)
  | 0, s, _, _, _, _ => .inl rfl
  | k + 1, s, ok, hw, hf, hr => by
    by_cases h0 : s.how.1 = 0
    · rw [runN_go h0, runN_go (s := s.up f r) h0]
      have hx' := fixd_all (one_fixd s fs)
      rcases one_up fs ok.used hf hw hr with e | e
      · rw [e]
        exact runN_up hx k _ (one_ok ok hx) (one_inw fs hw) (by rw [hx'.2.2.1]; exact hf) (by rw [hx'.2.2.2.1]; exact hr)
      · rw [runN_over e.1]; exact .inr e
    · rw [runN_over h0, runN_over (s := s.up f r) h0]; exact .inl rfl
/-- With more of both it comes to the same. -/
theorem runP_up {c t f r tag : Int} {code : List Ins} {args fs : List Nat} (hc : CfgOk c t f r) (hx : ∀ i ∈ code, i.2.2 < 18446744073709551616) (hax : ∀ y ∈ args, y < 18446744073709551616) (hfx : ∀ y ∈ fs, y < 18446744073709551616)
    (ho : (runP (mc0 c t f r tag code args) fs).how.1 ≠ 0) (hs : ¬ Short (runP (mc0 c t f r tag code args) fs)) :
    runP (mc0 c t 1024 32 tag code args) fs = (runP (mc0 c t f r tag code args) fs).up 1024 32 := by
  have h1 := hc.2.2.1
  have h2 := hc.2.2.2
  have e : (mc0 c t f r tag code args).up 1024 32 = mc0 c t 1024 32 tag code args := rfl
  have hk : (mc0 c t 1024 32 tag code args).fuel.toNat + 1 = (f.toNat + 1) + (1024 - f.toNat) := by
    show (1024 : Int).toNat + 1 = _
    have : (1024 : Int).toNat = 1024 := rfl
    omega
  unfold runP at ho hs ⊢
  rw [hk]
  rcases runN_up (f := 1024) (r := 32) hfx (f.toNat + 1) (mc0 c t f r tag code args) (mc0_ok hc hx hax) (by show ((([] : List (Int × Nat)).length : Nat) : Int) ≤ r; simp; omega) h1.2 h2.2 with e2 | e2
  · rw [e] at e2
    rw [runN_stay _ _ _ (by rw [e2]; exact ho), e2]
    rfl
  · exact absurd e2 hs

/-- The same under the tag Reads. -/
def Mc.rd (s : Mc) : Mc := { s with tag := 1 }
def rdR (p : Mc × AskD) : Mc × AskD := (p.1.rd, p.2)
/-- It failed for its tag, and has told what the other one has. -/
def NoTag (m s : Mc) : Prop := m.how = (3, 0, 81) ∧ Pre m s
def RdOr (a' a : Mc × AskD) : Prop := a' = rdR a ∨ (a'.2 = askEnd ∧ NoTag a'.1 a.1)
theorem rd_ite {c : Prop} [Decidable c] {a b a' b' : Mc × AskD} (ha : a' = rdR a) (hb : b' = rdR b) : (if c then a' else b') = rdR (if c then a else b) := by
  by_cases h : c
  · rw [if_pos h, if_pos h]; exact ha
  · rw [if_neg h, if_neg h]; exact hb
theorem rd_ite1 {c : Prop} [Decidable c] {a b a' b' : Mc} (ha : a' = a.rd) (hb : b' = b.rd) : (if c then a' else b') = (if c then a else b).rd := by
  by_cases h : c
  · rw [if_pos h, if_pos h]; exact ha
  · rw [if_neg h, if_neg h]; exact hb
theorem rdo_ite {c : Prop} [Decidable c] {a b a' b' : Mc × AskD} (ha : RdOr a' a) (hb : RdOr b' b) : RdOr (if c then a' else b') (if c then a else b) := by
  by_cases h : c
  · rw [if_pos h, if_pos h]; exact ha
  · rw [if_neg h, if_neg h]; exact hb
theorem reckon_rd (s : Mc) (x : Ins) : reckonP s.rd x = (reckonP s x).rd := by
  unfold reckonP
  iterate 11 (refine rd_ite1 rfl ?_)
  rfl
theorem read_rd (s : Mc) : readP s.rd = rdR (readP s) := by
  unfold readP
  refine rd_ite ?_ rfl
  show (match getN s.buf (idxI (topN s.s 0) s.cells) with | none => _ | some x => _) = rdR (match getN s.buf (idxI (topN s.s 0) s.cells) with | none => _ | some x => _)
  cases getN s.buf (idxI (topN s.s 0) s.cells) <;> rfl
theorem write_rd (s : Mc) : RdOr (writeP s.rd) (writeP s) := by
  refine .inr ?_
  have e : writeP s.rd = (s.rd.fails 81, askEnd) := if_neg (by show ¬ ((1 : Int) = 2); decide)
  rw [e]
  exact ⟨rfl, rfl, .of (write_keeps Mc.reads (fun _ _ _ _ => rfl) s) (write_keeps Mc.out (fun _ _ _ _ => rfl) s) (write_keeps Mc.used (fun _ _ _ _ => rfl) s)⟩
theorem do_rd (s : Mc) (x : Ins) : RdOr (doP s.rd x) (doP s x) := by
  unfold doP
  refine rdo_ite (.inl (read_rd s)) (rdo_ite (write_rd s) (.inl ?_))
  refine rd_ite rfl (rd_ite rfl (rd_ite rfl (rd_ite ?_ (rd_ite ?_ (rd_ite rfl (rd_ite ?_ ?_))))))
  · exact Prod.ext (rd_ite1 (c := trueB (topN s.s 0) = true) rfl rfl) rfl
  · exact Prod.ext (rd_ite1 (c := trueB (topN s.s 0) = true) rfl rfl) rfl
  · show (match s.calls.getLast? with | none => _ | some a => _) = rdR (match s.calls.getLast? with | none => _ | some a => _)
    cases s.calls.getLast? <;> rfl
  · exact Prod.ext (reckon_rd s x) rfl
theorem check_rd (l : List Ins) : checkE 1 l = checkE 2 l := by
  by_cases c : 1 ≤ l.length ∧ l.length ≤ 1024 ∧ ∀ t ∈ l, mayB t.1 t.2.1 t.2.2 l.length = true
  · exact (if_pos ⟨.inl rfl, c⟩).trans (if_pos ⟨.inr rfl, c⟩).symm
  · exact (if_neg (fun h => c h.2)).trans (if_neg (fun h => c h.2)).symm
theorem bad_rd {s : Mc} (h : s.tag = 2) : s.rd.bad = s.bad := by
  show (checkE 1 s.code != 0) = (checkE s.tag s.code != 0)
  rw [h, check_rd]
theorem step_rd {s : Mc} (h : s.tag = 2) : RdOr (stepP s.rd) (stepP s) := by
  unfold stepP
  rw [bad_rd h]
  refine rdo_ite (.inl rfl) (rdo_ite (.inl rfl) (rdo_ite (.inl rfl) (rdo_ite (.inl rfl) ?_)))
  show RdOr (match s.code[s.at_]? with | none => _ | some x => _) (match s.code[s.at_]? with | none => _ | some x => _)
  cases s.code[s.at_]? with
  | none => exact .inl rfl
  | some x => exact rdo_ite (do_rd { s with used := s.used + 1, at_ := s.at_ + 1 } x) (.inl rfl)
theorem give_rd (s : Mc) (x : Nat) : (giveP s.rd x).1 = (giveP s x).1.rd := by
  unfold giveP
  show (if s.waits = true then _ else _ : Mc × Int).1 = _
  cases s.waits <;> rfl
theorem give_how (s : Mc) (x : Nat) : (giveP s x).1.how = s.how := ite_in (fun m : Mc × Int => m.1.how = s.how) rfl rfl
theorem one_rd {s : Mc} (fs : List Nat) (h : s.tag = 2) : oneP s.rd fs = (oneP s fs).rd ∨ NoTag (oneP s.rd fs) (oneP s fs) := by
  rcases step_rd h with e | ⟨e0, e⟩
  · refine .inl ?_
    unfold oneP
    rw [e]
    show (if (stepP s).2.kind = 1 then _ else _) = Mc.rd (if (stepP s).2.kind = 1 then _ else _)
    exact rd_ite1 (give_rd _ _) rfl
  · refine .inr ?_
    unfold oneP
    rw [if_neg (by rw [e0]; show ¬ ((4 : Int) = 1); decide)]
    refine ⟨e.1, e.2.trans ?_⟩
    split
    · exact give_pre _ _
    · exact .rfl' _
theorem runN_rd {fs : List Nat} : ∀ (k : Nat) (s : Mc), s.tag = 2 → runN k s.rd fs = (runN k s fs).rd ∨ NoTag (runN k s.rd fs) (runN k s fs)
  | 0, s, _ => .inl rfl
  | k + 1, s, ht => by
    by_cases h0 : s.how.1 = 0
    · rw [runN_go h0, runN_go (s := s.rd) h0]
      rcases one_rd fs ht with e | e
      · rw [e]
        exact runN_rd k _ (by rw [(fixd_all (one_fixd s fs)).2.2.2.2.1]; exact ht)
      · rw [runN_over (s := oneP s.rd fs) (by rw [e.1]; decide)]
        exact .inr ⟨e.1, e.2.trans (runN_pre k _ fs)⟩
    · rw [runN_over h0, runN_over (s := s.rd) h0]; exact .inl rfl
theorem runP_rd (c t f r : Int) (code : List Ins) (args fs : List Nat) : runP (mc0 c t f r 1 code args) fs = (runP (mc0 c t f r 2 code args) fs).rd ∨ NoTag (runP (mc0 c t f r 1 code args) fs) (runP (mc0 c t f r 2 code args) fs) :=
  runN_rd (f.toNat + 1) (mc0 c t f r 2 code args) rfl

/-- Where it waits, for what. -/
theorem do_kind1 {s : Mc} {x : Ins} (h : (doP s x).2.kind = 1) : (doP s x).1.waits = true ∧ (doP s x).1.cell = (doP s x).2.cell := by
  have no : ∀ m : Mc, (m, askNone).2.kind = 1 → (m, askNone).1.waits = true ∧ (m, askNone).1.cell = (m, askNone).2.cell := fun m h => absurd (show (0 : Int) = 1 from h) (by decide)
  have ne : ∀ m : Mc, (m, askEnd).2.kind = 1 → (m, askEnd).1.waits = true ∧ (m, askEnd).1.cell = (m, askEnd).2.cell := fun m h => absurd (show (4 : Int) = 1 from h) (by decide)
  revert h
  unfold doP
  refine ite_in (fun m : Mc × AskD => m.2.kind = 1 → m.1.waits = true ∧ m.1.cell = m.2.cell) ?_ (ite_in (fun m : Mc × AskD => m.2.kind = 1 → m.1.waits = true ∧ m.1.cell = m.2.cell) ?_ (ite_in (fun m : Mc × AskD => m.2.kind = 1 → m.1.waits = true ∧ m.1.cell = m.2.cell) (ne _) (ite_in (fun m : Mc × AskD => m.2.kind = 1 → m.1.waits = true ∧ m.1.cell = m.2.cell) (ne _) (ite_in (fun m : Mc × AskD => m.2.kind = 1 → m.1.waits = true ∧ m.1.cell = m.2.cell) (no _) (ite_in (fun m : Mc × AskD => m.2.kind = 1 → m.1.waits = true ∧ m.1.cell = m.2.cell) (no _) (ite_in (fun m : Mc × AskD => m.2.kind = 1 → m.1.waits = true ∧ m.1.cell = m.2.cell) (no _) (ite_in (fun m : Mc × AskD => m.2.kind = 1 → m.1.waits = true ∧ m.1.cell = m.2.cell) (no _) (ite_in (fun m : Mc × AskD => m.2.kind = 1 → m.1.waits = true ∧ m.1.cell = m.2.cell) ?_ (no _)))))))))
  · unfold readP
    refine ite_in (fun m : Mc × AskD => m.2.kind = 1 → m.1.waits = true ∧ m.1.cell = m.2.cell) ?_ (ne _)
    dsimp only
    cases getN s.buf (idxI (topN s.s 0) s.cells) with
    | none => exact fun _ => ⟨rfl, rfl⟩
    | some y => exact fun h => absurd (show (2 : Int) = 1 from h) (by decide)
  · unfold writeP
    refine ite_in (fun m : Mc × AskD => m.2.kind = 1 → m.1.waits = true ∧ m.1.cell = m.2.cell) (ite_in (fun m : Mc × AskD => m.2.kind = 1 → m.1.waits = true ∧ m.1.cell = m.2.cell) ?_ (ne _)) (ne _)
    dsimp only
    cases getN s.buf (idxI (topN s.s 0) s.cells) with
    | none => exact ite_in (fun m : Mc × AskD => m.2.kind = 1 → m.1.waits = true ∧ m.1.cell = m.2.cell) (ne _) (fun h => absurd (show (3 : Int) = 1 from h) (by decide))
    | some y => exact fun h => absurd (show (3 : Int) = 1 from h) (by decide)
  · cases s.calls.getLast? with
    | none => exact ne _
    | some a => exact no _
theorem step_kind1 {s : Mc} (h : (stepP s).2.kind = 1) : (stepP s).1.waits = true ∧ (stepP s).1.cell = (stepP s).2.cell := by
  have ne : ∀ m : Mc, (m, askEnd).2.kind = 1 → (m, askEnd).1.waits = true ∧ (m, askEnd).1.cell = (m, askEnd).2.cell := fun m h => absurd (show (4 : Int) = 1 from h) (by decide)
  by_cases hw : s.waits = true
  · have e : stepP s = (s, ⟨1, s.cell, 0, false⟩) := by unfold stepP; rw [if_pos hw]
    rw [e]
    exact ⟨hw, rfl⟩
  · revert h
    unfold stepP
    rw [if_neg hw]
    refine ite_in (fun m : Mc × AskD => m.2.kind = 1 → m.1.waits = true ∧ m.1.cell = m.2.cell) (ne _) (ite_in (fun m : Mc × AskD => m.2.kind = 1 → m.1.waits = true ∧ m.1.cell = m.2.cell) (ne _) (ite_in (fun m : Mc × AskD => m.2.kind = 1 → m.1.waits = true ∧ m.1.cell = m.2.cell) (ne _) ?_))
    cases s.code[s.at_]? with
    | none => exact ne _
    | some x => exact ite_in (fun m : Mc × AskD => m.2.kind = 1 → m.1.waits = true ∧ m.1.cell = m.2.cell) (fun h => do_kind1 h) (ne _)
theorem runN_frame {fs : List Nat} {j x : Nat} : ∀ (k : Nat) (s : Mc), (∀ p ∈ (runN k s fs).reads, p.1 ≠ (j : Int)) → runN k s (fs.set j x) = runN k s fs
  | 0, s, _ => rfl
  | k + 1, s, h => by
    by_cases h0 : s.how.1 = 0
    · rw [runN_go h0] at h ⊢
      rw [runN_go h0]
      have e : oneP s (fs.set j x) = oneP s fs := by
        obtain ⟨l, hl⟩ := (runN_pre k (oneP s fs) fs).1
        rw [hl] at h
        unfold oneP at h ⊢
        by_cases hk : (stepP s).2.kind = 1
        · rw [if_pos hk] at h
          rw [if_pos hk, if_pos hk]
          obtain ⟨h1, h2⟩ := step_kind1 hk
          have hne : (stepP s).2.cell ≠ (j : Int) := by
            have := h ((stepP s).1.cell, fixB (getV fs (stepP s).2.cell)) (List.mem_append_left _ (by unfold giveP; rw [if_pos h1]; exact List.mem_append_right _ (List.mem_singleton.2 rfl)))
            rwa [h2] at this
          have : getV (fs.set j x) (stepP s).2.cell = getV fs (stepP s).2.cell := by
            unfold getV
            rw [List.length_set]
            by_cases hb : hasB (stepP s).2.cell fs.length = true
            · rw [if_pos hb, if_pos hb, List.getD_eq_getElem?_getD, List.getD_eq_getElem?_getD, List.getElem?_set_ne]
              have := hasB_iff.1 hb
              omega
            · rw [if_neg hb, if_neg hb]
          rw [this]
        · rw [if_neg hk, if_neg hk]
      rw [e]
      exact runN_frame k _ h
    · rw [runN_over h0, runN_over h0]
theorem runP_frame {s0 : Mc} {fs : List Nat} {j x : Nat} (h : ∀ p ∈ (runP s0 fs).reads, p.1 ≠ (j : Int)) : runP s0 (fs.set j x) = runP s0 fs := runN_frame _ _ h
theorem after_set {s : Mc} {fs : List Nat} {j x : Nat} (hr : InR s) (hc : s.cells = (fs.length : Int)) (h : ∀ p ∈ s.buf, p.1 ≠ (j : Int)) : afterL s (fs.set j x) = (afterL s fs).set j x := by
  by_cases h1 : s.how.1 = 1
  · rw [after_put h1 hr (by rw [List.length_set]; exact hc), after_put h1 hr hc]
    exact putL_set _ _ _ _ h
  · rw [after_same (.inl h1), after_same (.inl h1)]
end Go.Proofs.YthgllaomafhdkaaGreat
