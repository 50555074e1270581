/- What runs have in common: plain laws. -/
import Derived.Test.YthgllaomafhdkaaGreatM43
namespace Go.Proofs.YthgllaomafhdkaaGreat
open Go Go.RowKit
set_option maxRecDepth 100000
set_option maxHeartbeats 1000000
set_option linter.unusedVariables false
set_option linter.unusedSimpArgs false

theorem runN_ind {P : Mc → Prop} {fs : List Nat} (h : ∀ s, s.how.1 = 0 → P s → P (oneP s fs)) : ∀ (k : Nat) (s : Mc), P s → P (runN k s fs)
  | 0, s, hp => hp
  | k + 1, s, hp => by
    show P (if s.how.1 = 0 then runN k (oneP s fs) fs else s)
    by_cases h0 : s.how.1 = 0
    · rw [if_pos h0]; exact runN_ind h k _ (h s h0 hp)
    · rw [if_neg h0]; exact hp
theorem one_ok {s : Mc} {fs : List Nat} (ok : s.Ok) (hf : ∀ y ∈ fs, y < 18446744073709551616) : (oneP s fs).Ok := by
  unfold oneP
  split
  · exact giveP_ok (stepP_ok ok) (getV_lt hf _)
  · exact stepP_ok ok

/-- What became of what was written. -/
def BufGo (s m : Mc) : Prop := m.buf = s.buf ∨ ∃ c y, m.buf = putN s.buf c y ∧ (getN s.buf c = none → (s.buf.length : Int) ≠ s.writes)
theorem do_buf (s : Mc) (x : Ins) : BufGo s (doP s x).1 := by
  unfold doP
  refine ite_in (fun m : Mc × AskD => BufGo s m.1) ?_ (ite_in (fun m : Mc × AskD => BufGo s m.1) ?_ (ite_in (fun m : Mc × AskD => BufGo s m.1) (.inl rfl) (ite_in (fun m : Mc × AskD => BufGo s m.1) (.inl rfl) (ite_in (fun m : Mc × AskD => BufGo s m.1) (.inl rfl) (ite_in (fun m : Mc × AskD => BufGo s m.1) ?_ (ite_in (fun m : Mc × AskD => BufGo s m.1) ?_ (ite_in (fun m : Mc × AskD => BufGo s m.1) (.inl rfl) (ite_in (fun m : Mc × AskD => BufGo s m.1) ?_ ?_))))))))
  · unfold readP
    refine ite_in (fun m : Mc × AskD => BufGo s m.1) ?_ (.inl rfl)
    dsimp only
    cases getN s.buf (idxI (topN s.s 0) s.cells) <;> exact .inl rfl
  · unfold writeP
    refine ite_in (fun m : Mc × AskD => BufGo s m.1) (ite_in (fun m : Mc × AskD => BufGo s m.1) ?_ (.inl rfl)) (.inl rfl)
    dsimp only
    cases hg : getN s.buf (idxI (topN s.s 0) s.cells) with
    | none =>
      dsimp only
      by_cases hl : (s.buf.length : Int) = s.writes
      · rw [if_pos hl]; exact .inl rfl
      · rw [if_neg hl]; exact .inr ⟨_, _, rfl, fun _ => hl⟩
    | some y => exact .inr ⟨_, _, rfl, fun h => by rw [hg] at h; cases h⟩
  · exact ite_in (fun m : Mc => BufGo s m) (.inl rfl) (.inl rfl)
  · exact ite_in (fun m : Mc => BufGo s m) (.inl rfl) (.inl rfl)
  · cases s.calls.getLast? <;> exact .inl rfl
  · exact .inl (reckon_keeps Mc.buf (fun _ _ _ _ => rfl) s x)
theorem step_buf (s : Mc) : BufGo s (stepP s).1 := by
  unfold stepP
  refine ite_in (fun m : Mc × AskD => BufGo s m.1) (.inl rfl) (ite_in (fun m : Mc × AskD => BufGo s m.1) (.inl rfl) (ite_in (fun m : Mc × AskD => BufGo s m.1) (.inl rfl) (ite_in (fun m : Mc × AskD => BufGo s m.1) (.inl rfl) ?_)))
  cases s.code[s.at_]? with
  | none => exact .inl rfl
  | some x => exact ite_in (fun m : Mc × AskD => BufGo s m.1) (do_buf { s with used := s.used + 1, at_ := s.at_ + 1 } x) (.inl rfl)
theorem give_buf (s : Mc) (x : Nat) : (giveP s x).1.buf = s.buf := ite_in (fun m : Mc × Int => m.1.buf = s.buf) rfl rfl
theorem one_buf (s : Mc) (fs : List Nat) : BufGo s (oneP s fs) := by
  unfold oneP
  split
  · rcases step_buf s with h | ⟨c, y, h, h2⟩
    · exact .inl ((give_buf _ _).trans h)
    · exact .inr ⟨c, y, (give_buf _ _).trans h, h2⟩
  · exact step_buf s
theorem one_fixd (s : Mc) (fs : List Nat) : (oneP s fs).fixd = s.fixd := by
  unfold oneP
  split
  · exact (give_fixd _ _).trans (step_fixd s)
  · exact step_fixd s
theorem fixd_all {s s0 : Mc} (h : s.fixd = s0.fixd) : s.cells = s0.cells ∧ s.threads = s0.threads ∧ s.fuel = s0.fuel ∧ s.writes = s0.writes ∧ s.tag = s0.tag ∧ s.code = s0.code ∧ s.args = s0.args := by
  unfold Mc.fixd at h
  simpa using h
theorem runN_fixd (k : Nat) (s : Mc) (fs : List Nat) : (runN k s fs).fixd = s.fixd := runN_ind (P := fun m => m.fixd = s.fixd) (fun m _ h => (one_fixd m fs).trans h) k s rfl
theorem putN_len {l : List (Int × Nat)} {c : Int} {x : Nat} : (putN l c x).length ≤ l.length + 1 ∧ (getN l c ≠ none → (putN l c x).length = l.length) := by
  unfold putN getN
  cases pos l c with
  | some i => dsimp only; rw [List.length_set]; exact ⟨Nat.le_succ _, fun _ => rfl⟩
  | none => dsimp only; rw [List.length_append]; exact ⟨Nat.le_refl _, fun h => absurd rfl h⟩
/-- No more is written than may be. -/
def InW (s : Mc) : Prop := (s.buf.length : Int) ≤ s.writes
theorem one_inw {s : Mc} (fs : List Nat) (h : InW s) : InW (oneP s fs) := by
  unfold InW at h ⊢
  rw [(fixd_all (one_fixd s fs)).2.2.2.1]
  rcases one_buf s fs with e | ⟨c, y, e, h2⟩
  · rw [e]; exact h
  · rw [e]
    by_cases hg : getN s.buf c = none
    · have := h2 hg
      have := (putN_len (l := s.buf) (c := c) (x := y)).1
      omega
    · rw [putN_len.2 hg]; exact h
theorem putN_keys {l : List (Int × Nat)} {c : Int} {x : Nat} (h : (l.map (·.1)).Nodup) : ((putN l c x).map (·.1)).Nodup := by
  unfold putN
  cases hp : pos l c with
  | some i =>
    obtain ⟨⟨y, hy⟩, _⟩ := Kn.of_pos hp
    show ((l.set i (c, x)).map (·.1)).Nodup
    have e : (l.set i (c, x)).map (·.1) = l.map (·.1) := by
      refine List.ext_getElem? fun j => ?_
      rw [List.getElem?_map, List.getElem?_map, List.getElem?_set]
      by_cases ej : i = j
      · subst ej
        rw [if_pos rfl, hy]
        have : i < l.length := (List.getElem?_eq_some_iff.1 hy).1
        rw [if_pos this]
        rfl
      · rw [if_neg ej]
    rw [e]; exact h
  | none =>
    show ((l ++ [(c, x)]).map (·.1)).Nodup
    have hu : ∀ p ∈ l, p.1 ≠ c := Un.of_pos hp
    rw [List.map_append, List.nodup_append]
    refine ⟨h, by simp, fun a ha b hb => ?_⟩
    obtain ⟨p, hp', rfl⟩ := List.mem_map.1 ha
    simp at hb
    subst hb
    exact hu p hp'
theorem one_keys {s : Mc} (fs : List Nat) (h : (s.buf.map (·.1)).Nodup) : ((oneP s fs).buf.map (·.1)).Nodup := by
  rcases one_buf s fs with e | ⟨c, y, e, _⟩
  · rw [e]; exact h
  · rw [e]; exact putN_keys h
theorem run_keys (c t f r tag : Int) (code : List Ins) (args fs : List Nat) : ((runP (mc0 c t f r tag code args) fs).buf.map (·.1)).Nodup :=
  runN_ind (P := fun s => (s.buf.map (·.1)).Nodup) (fun s _ h => one_keys fs h) _ _ (by show (([] : List (Int × Nat)).map (·.1)).Nodup; simp)

/-- What is applied, cell by cell. -/
theorem putL_not : ∀ (l : List (Int × Nat)) (fs : List Nat) (j : Nat), (∀ p ∈ l, p.1 ≠ (j : Int)) → (putL fs l)[j]? = fs[j]?
  | [], fs, j, h => rfl
  | t :: l, fs, j, h => by
    show (putL (setL fs t.1 t.2) l)[j]? = fs[j]?
    rw [putL_not l _ j (fun p hp => h p (List.mem_cons_of_mem _ hp))]
    unfold setL
    split
    · rename_i hb
      have := hasB_iff.1 hb
      rw [List.getElem?_set_ne]
      have := h t (List.mem_cons_self ..)
      omega
    · rfl
theorem putL_has : ∀ (l : List (Int × Nat)) (fs : List Nat) (j : Nat) (x : Nat), (l.map (·.1)).Nodup → j < fs.length → ((j : Int), x) ∈ l → (putL fs l)[j]? = some (fixB x)
  | [], fs, j, x, hn, hj, h => by cases h
  | t :: l, fs, j, x, hn, hj, h => by
    show (putL (setL fs t.1 t.2) l)[j]? = some (fixB x)
    rw [List.map_cons, List.nodup_cons] at hn
    rcases List.mem_cons.1 h with h | h
    · subst h
      rw [putL_not l _ j (fun p hp e => hn.1 (List.mem_map.2 ⟨p, hp, e⟩))]
      unfold setL
      rw [if_pos (hasB_iff.2 ⟨by simp, by simpa using hj⟩)]
      simp [hj]
    · exact putL_has l _ j x hn.2 (by rw [setL_len]; exact hj) h
theorem okL_in {s : Mc} {n : Nat} (h : InR s) (hc : s.cells = (n : Int)) : okL n s.buf = true := by
  unfold okL
  rw [List.all_eq_true]
  intro p hp
  have := h p hp
  exact hasB_iff.2 ⟨this.1, by omega⟩
theorem after_len (s : Mc) (fs : List Nat) : (afterL s fs).length = fs.length := by
  unfold afterL
  split
  · exact applyL_len _ _
  · rfl
theorem after_same {s : Mc} {fs : List Nat} (h : s.how.1 ≠ 1 ∨ s.buf = []) : afterL s fs = fs := by
  unfold afterL
  rcases h with h | h
  · exact if_neg h
  · rw [h]; exact ite_in (fun l => l = fs) (by unfold applyL; exact ite_in (fun l => l = fs) rfl rfl) rfl
theorem after_put {s : Mc} {fs : List Nat} (h : s.how.1 = 1) (hr : InR s) (hc : s.cells = (fs.length : Int)) : afterL s fs = putL fs s.buf := by
  unfold afterL applyL
  rw [if_pos h, if_pos (okL_in hr hc)]
theorem putL_set : ∀ (l : List (Int × Nat)) (fs : List Nat) (j x : Nat), (∀ p ∈ l, p.1 ≠ (j : Int)) → putL (fs.set j x) l = (putL fs l).set j x
  | [], fs, j, x, h => rfl
  | t :: l, fs, j, x, h => by
    show putL (setL (fs.set j x) t.1 t.2) l = (putL (setL fs t.1 t.2) l).set j x
    rw [← putL_set l _ j x (fun p hp => h p (List.mem_cons_of_mem _ hp))]
    congr 1
    unfold setL
    rw [List.length_set]
    by_cases hb : hasB t.1 fs.length = true
    · rw [if_pos hb, if_pos hb]
      have := hasB_iff.1 hb
      have := h t (List.mem_cons_self ..)
      exact List.set_comm _ _ (by omega)
    · rw [if_neg hb, if_neg hb]
theorem after_lt {s : Mc} {fs : List Nat} (ok : s.Ok) (h : ∀ y ∈ fs, y < 18446744073709551616) : ∀ y ∈ afterL s fs, y < 18446744073709551616 := by
  have hp : ∀ (l : List (Int × Nat)) (fs : List Nat), (∀ p ∈ l, Num p.2) → (∀ y ∈ fs, y < 18446744073709551616) → ∀ y ∈ putL fs l, y < 18446744073709551616 := by
    intro l
    induction l with
    | nil => intro fs _ h; exact h
    | cons t l ih =>
      intro fs hl h
      refine ih _ (fun p hp => hl p (List.mem_cons_of_mem _ hp)) (fun y hy => ?_)
      replace hy : y ∈ (if hasB t.1 fs.length = true then fs.set t.1.toNat (fixB t.2) else fs) := hy
      split at hy
      · rcases List.mem_or_eq_of_mem_set hy with hy | hy
        · exact h y hy
        · rw [hy]; exact fixB_lt (hl t (List.mem_cons_self ..)).2
      · exact h y hy
  unfold afterL applyL
  split
  · split
    · exact hp _ _ ok.buf h
    · exact h
  · exact h

/-- What a run has told grows. -/
def Pre (s m : Mc) : Prop := (∃ l, m.reads = s.reads ++ l) ∧ (∃ l, m.out = s.out ++ l) ∧ s.used ≤ m.used
theorem Pre.rfl' (s : Mc) : Pre s s := ⟨⟨[], (List.append_nil _).symm⟩, ⟨[], (List.append_nil _).symm⟩, Nat.le_refl _⟩
theorem Pre.trans {a b c : Mc} (h : Pre a b) (h' : Pre b c) : Pre a c := by
  obtain ⟨⟨l1, e1⟩, ⟨l2, e2⟩, h3⟩ := h
  obtain ⟨⟨l3, e3⟩, ⟨l4, e4⟩, h6⟩ := h'
  exact ⟨⟨l1 ++ l3, by rw [e3, e1, List.append_assoc]⟩, ⟨l2 ++ l4, by rw [e4, e2, List.append_assoc]⟩, Nat.le_trans h3 h6⟩
theorem Pre.of {s m : Mc} (h1 : m.reads = s.reads) (h2 : m.out = s.out) (h3 : m.used = s.used) : Pre s m := ⟨⟨[], by rw [h1, List.append_nil]⟩, ⟨[], by rw [h2, List.append_nil]⟩, by omega⟩
theorem reckon_pre (s : Mc) (x : Ins) : Pre s (reckonP s x) := by
  unfold reckonP
  iterate 10 (refine ite_in (fun m : Mc => Pre s m) (.of rfl rfl rfl) ?_)
  exact ite_in (fun m : Mc => Pre s m) ⟨⟨[], (List.append_nil _).symm⟩, ⟨[topN s.s 0], rfl⟩, Nat.le_refl _⟩ (.of rfl rfl rfl)
theorem do_pre (s : Mc) (x : Ins) : Pre s (doP s x).1 := by
  unfold doP
  refine ite_in (fun m : Mc × AskD => Pre s m.1) ?_ (ite_in (fun m : Mc × AskD => Pre s m.1) ?_ (ite_in (fun m : Mc × AskD => Pre s m.1) (.of rfl rfl rfl) (ite_in (fun m : Mc × AskD => Pre s m.1) (.of rfl rfl rfl) (ite_in (fun m : Mc × AskD => Pre s m.1) (.of rfl rfl rfl) (ite_in (fun m : Mc × AskD => Pre s m.1) ?_ (ite_in (fun m : Mc × AskD => Pre s m.1) ?_ (ite_in (fun m : Mc × AskD => Pre s m.1) (.of rfl rfl rfl) (ite_in (fun m : Mc × AskD => Pre s m.1) ?_ ?_))))))))
  · unfold readP
    refine ite_in (fun m : Mc × AskD => Pre s m.1) ?_ (.of rfl rfl rfl)
    dsimp only
    cases getN s.buf (idxI (topN s.s 0) s.cells) with
    | none => exact .of rfl rfl rfl
    | some y => exact ⟨⟨_, rfl⟩, ⟨[], (List.append_nil _).symm⟩, Nat.le_refl _⟩
  · exact .of (write_keeps Mc.reads (fun _ _ _ _ => rfl) s) (write_keeps Mc.out (fun _ _ _ _ => rfl) s) (write_keeps Mc.used (fun _ _ _ _ => rfl) s)
  · exact ite_in (fun m : Mc => Pre s m) (.of rfl rfl rfl) (.of rfl rfl rfl)
  · exact ite_in (fun m : Mc => Pre s m) (.of rfl rfl rfl) (.of rfl rfl rfl)
  · cases s.calls.getLast? <;> exact .of rfl rfl rfl
  · exact reckon_pre s x
theorem step_pre (s : Mc) : Pre s (stepP s).1 := by
  unfold stepP
  refine ite_in (fun m : Mc × AskD => Pre s m.1) (.of rfl rfl rfl) (ite_in (fun m : Mc × AskD => Pre s m.1) (.of rfl rfl rfl) (ite_in (fun m : Mc × AskD => Pre s m.1) (.of rfl rfl rfl) (ite_in (fun m : Mc × AskD => Pre s m.1) (.of rfl rfl rfl) ?_)))
  have h0 : Pre s { s with used := s.used + 1, at_ := s.at_ + 1 } := ⟨⟨[], (List.append_nil _).symm⟩, ⟨[], (List.append_nil _).symm⟩, Nat.le_succ _⟩
  cases s.code[s.at_]? with
  | none => exact .of rfl rfl rfl
  | some x => exact ite_in (fun m : Mc × AskD => Pre s m.1) (h0.trans (do_pre { s with used := s.used + 1, at_ := s.at_ + 1 } x)) h0
theorem give_pre (s : Mc) (x : Nat) : Pre s (giveP s x).1 := by
  unfold giveP
  exact ite_in (fun m : Mc × Int => Pre s m.1) ⟨⟨_, rfl⟩, ⟨[], (List.append_nil _).symm⟩, Nat.le_refl _⟩ (.of rfl rfl rfl)
theorem one_pre (s : Mc) (fs : List Nat) : Pre s (oneP s fs) := by
  unfold oneP
  split
  · exact (step_pre s).trans (give_pre _ _)
  · exact step_pre s
theorem runN_pre (k : Nat) (s : Mc) (fs : List Nat) : Pre s (runN k s fs) := runN_ind (P := fun m => Pre s m) (fun m _ h => h.trans (one_pre m fs)) k s (.rfl' s)
theorem runN_stay {fs : List Nat} : ∀ (k d : Nat) (s : Mc), (runN k s fs).how.1 ≠ 0 → runN (k + d) s fs = runN k s fs
  | 0, d, s, h => runN_over h
  | k + 1, d, s, h => by
    by_cases h0 : s.how.1 = 0
    · rw [runN_go h0] at h ⊢
      rw [Nat.succ_add, runN_go h0]
      exact runN_stay k d _ h
    · rw [runN_over h0, runN_over h0]
end Go.Proofs.YthgllaomafhdkaaGreat
