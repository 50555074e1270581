/- does of layer 19's statements: a move with both builders. -/
import Derived.Test.YthgcmafeahlmpaaAA
namespace Go.Proofs.Ythgcmafeahlmpaa
open Go Go.RowKit
set_option linter.unusedVariables false
set_option linter.unusedSimpArgs false

/-- A builder of the code's and one of the document's hold the same, apart from one another; n moves at most have been done. -/
structure Two (w : World) (p r : Nat) (F G : Nat → Prop) (s : Asm) (n : Nat) : Prop where
  bd : Bd w p F s
  rb : Rb w r G s
  d : ∀ k, F k → ¬ G k
  l1 : s.code.length ≤ n
  l2 : s.marks.length ≤ n
  pl : ∀ t ∈ s.marks, t.2 ≤ s.code.length

/-- What a step leaves: both again, whose blocks are of before, or new. -/
def After (w w' : World) (p r : Nat) (F G : Nat → Prop) (n : Nat) : Prop :=
  ∃ F' G' s, Two w' p r F' G' s n ∧ Chg w w' (fun k => F k ∨ G k) ∧ (∀ k, F' k → F k ∨ w.heap.size ≤ k) ∧ (∀ k, G' k → G k ∨ w.heap.size ≤ k)

theorem Bd.most {w : World} {p : Nat} {F : Nat → Prop} {s : Asm} (h : Bd w p F s) : s.labels ≤ 256 := by
  obtain ⟨h1, h2, T, ac, cc, al, cl, mb, fs, ents, h3, h4⟩ := h
  exact h3.most

section
variable {w w1 w2 w' : World} {p r : Nat} {F G : Nat → Prop} {s s' : Asm} {n : Nat}
theorem Two.chg (h : Two w p r F G s n) (hc : Chg w w1 Nothing) : Two w1 p r F G s n := ⟨h.bd.chg hc (fun _ _ h => h), h.rb.chg hc (fun _ _ h => h), h.d, h.l1, h.l2, h.pl⟩
theorem Two.boxed (h : Two w p r F G s n) (o : Obj) : Two (w.alloc o) p r F G s n := h.chg ((Chg.refl _ _).alloc _)
theorem Two.drewN (h : Two w p r F G s n) (m : Nat) : Two (w.drewN m) p r F G s n := h.chg ((Chg.refl _ _).drewN _)
theorem Two.push (h : Two w p r F G s n) (c1 : Chg w w1 F) : Rb w1 r G s := h.rb.chg c1 (fun k hk hf => h.d k hf hk)
theorem Two.more (h : Two w p r F G s n) : Two w p r F G s (n + 1) := ⟨h.bd, h.rb, h.d, by have := h.l1; omega, by have := h.l2; omega, h.pl⟩
theorem After.boxed {o : Obj} (h : After (w.alloc o) w' p r F G n) : After w w' p r F G n := by
  obtain ⟨F', G', zs, h1, h2, h3, h4⟩ := h
  have hs : (w.alloc o).heap.size = w.heap.size + 1 := by simp
  exact ⟨F', G', zs, h1, ((Chg.refl _ _).alloc o).trans h2 (fun _ _ h => h), fun k hk => (h3 k hk).imp id (by omega), fun k hk => (h4 k hk).imp id (by omega)⟩
theorem Two.after (h : Two w p r F G s n) (s1 : Bd w1 p (Grow F w w1) s') (c1 : Chg w w1 F) (r2 : Rb w2 r (Grow G w1 w2) s') (c2 : Chg w1 w2 G) (k1 : s'.code.length ≤ n + 1) (k2 : s'.marks.length ≤ n + 1) (k3 : ∀ t ∈ s'.marks, t.2 ≤ s'.code.length) : After w w2 p r F G (n + 1) := by
  have e1 := c1.size
  have e2 := h.rb.lt
  have e3 := h.bd.lt
  refine ⟨Grow F w w1, Grow G w1 w2, s', ⟨s1.chg c2 ?_, r2, ?_, k1, k2, k3⟩, ?_, ?_, ?_⟩
  · intro k hk hg; rcases hk with hk | hk; exact h.d k hk hg; have := e2 k hg; omega
  · intro k hk hg
    rcases hk with hk | hk <;> rcases hg with hg | hg
    · exact h.d k hk hg
    · have := e3 k hk; omega
    · have := e2 k hg; omega
    · omega
  · exact (c1.mono (fun k _ h => .inl h)).trans c2 (fun k _ h => .inr h)
  · intro k hk; exact hk.imp id (fun h => h.1)
  · intro k hk; exact hk.imp id (fun h => by omega)
theorem After.same (h : Two w p r F G s n) (hc : Chg w w1 Nothing) : After w w1 p r F G (n + 1) :=
  ⟨F, G, s, (h.chg hc).more, hc.mono (fun _ _ h => h.elim), fun _ h => .inl h, fun _ h => .inl h⟩
end
theorem box_cell {w w1 : World} {F : Nat → Prop} {cs : Array Value} {T : TypeId} {v : Value} (j : Nat) (c1 : Chg (w.alloc (.cells cs T)) w1 F) (hF : ∀ k, F k → k < w.heap.size) (hv : cs[j]? = some v) : w1.cell? ⟨w.heap.size, j, none⟩ = some v :=
  c1.cell ((blk_cell (heap_alloc_new w _) j).trans hv) (fun h => Nat.lt_irrefl _ (hF _ h))

abbrev MoveV (k op n : Int) (x : Nat) : Value := .agg #[.int .i64 k, .int .i64 op, .int .i64 n, fl x]

set_option maxHeartbeats 3000000 in
theorem does_add (p r : Nat) (F G : Nat → Prop) (s : Asm) (m : Nat) (op n : Int) (x : Nat) (w : World) (h : Two w p r F G s m) (hm : m < 4398046511103) :
    Calls Try.prog 9 #[.pointer (some ⟨p, 0, none⟩), .pointer (some ⟨r, 0, none⟩), MoveV 1 op n x] w fun e w' => e = .returned (.bool true) ∧ After w w' p r F G (m + 1) := by
  have H := Lib.hid h
  have HM := Lib.hid hm
  clear h hm
  go_enter Try.func9, Try.ntmps9
  go_wp2_with fail
  refine (add_any p F s op n _ (H.out.boxed _).bd (by have := H.out.l1; have := HM.out; omega)).mono ?_
  rintro e w1 ⟨rfl, s1, c1⟩
  have C1 := Lib.hid c1
  have S1 := Lib.hid s1
  have d1 := box_cell 1 c1 H.out.bd.lt rfl
  have d2 := box_cell 2 c1 H.out.bd.lt rfl
  clear s1 c1
  go_wp2_with fail
  refine (rAdd_any r G s op n _ ((H.out.boxed _).push C1.out) (by have := H.out.l1; have := HM.out; omega)).mono ?_
  rintro e w2 ⟨rfl, s2, c2⟩
  have R := Lib.hid ((H.out.boxed _).after S1.out C1.out s2 c2 (by have := H.out.l1; simp; omega) (by have := H.out.l2; simp only; omega) (fun t ht => by have := H.out.pl t ht; simp only [List.length_append, List.length_cons, List.length_nil]; omega)).boxed
  clear s2 c2 d1 d2
  go_wp2_with fail
  go_ret
  exact ⟨rfl, R.out⟩

set_option maxHeartbeats 3000000 in
theorem does_push (p r : Nat) (F G : Nat → Prop) (s : Asm) (m : Nat) (op n : Int) (x : Nat) (w : World) (h : Two w p r F G s m) (hm : m < 4398046511103) :
    Calls Try.prog 9 #[.pointer (some ⟨p, 0, none⟩), .pointer (some ⟨r, 0, none⟩), MoveV 2 op n x] w fun e w' => e = .returned (.bool true) ∧ After w w' p r F G (m + 1) := by
  have H := Lib.hid h
  have HM := Lib.hid hm
  clear h hm
  go_enter Try.func9, Try.ntmps9
  go_wp2_with fail
  refine (push_any p F s x _ (H.out.boxed _).bd (by have := H.out.l1; have := HM.out; omega)).mono ?_
  rintro e w1 ⟨rfl, s1, c1⟩
  have C1 := Lib.hid c1
  have S1 := Lib.hid s1
  have d3 := box_cell 3 c1 H.out.bd.lt rfl
  clear s1 c1
  go_wp2_with fail
  refine (rPush_any r G s x _ ((H.out.boxed _).push C1.out) (by have := H.out.l1; have := HM.out; omega)).mono ?_
  rintro e w2 ⟨rfl, s2, c2⟩
  have R := Lib.hid ((H.out.boxed _).after S1.out C1.out s2 c2 (by have := H.out.l1; simp; omega) (by have := H.out.l2; simp only; omega) (fun t ht => by have := H.out.pl t ht; simp only [List.length_append, List.length_cons, List.length_nil]; omega)).boxed
  clear s2 c2 d3
  go_wp2_with fail
  go_ret
  exact ⟨rfl, R.out⟩

set_option maxHeartbeats 3000000 in
theorem does_to (p r : Nat) (F G : Nat → Prop) (s : Asm) (m : Nat) (op n : Int) (x : Nat) (w : World) (h : Two w p r F G s m) (hm : m < 4398046511103) :
    Calls Try.prog 9 #[.pointer (some ⟨p, 0, none⟩), .pointer (some ⟨r, 0, none⟩), MoveV 3 op n x] w fun e w' => e = .returned (.bool true) ∧ After w w' p r F G (m + 1) := by
  have H := Lib.hid h
  have HM := Lib.hid hm
  clear h hm
  go_enter Try.func9, Try.ntmps9
  go_wp2_with fail
  refine (to_any p F s op n _ (H.out.boxed _).bd (by have := H.out.l1; have := HM.out; omega)).mono ?_
  rintro e w1 ⟨rfl, s1, c1⟩
  have C1 := Lib.hid c1
  have S1 := Lib.hid s1
  have d1 := box_cell 1 c1 H.out.bd.lt rfl
  have d2 := box_cell 2 c1 H.out.bd.lt rfl
  clear s1 c1
  go_wp2_with fail
  refine (rJump_any r G s op n _ ((H.out.boxed _).push C1.out) (by have := H.out.l1; have := HM.out; omega)).mono ?_
  rintro e w2 ⟨rfl, s2, c2⟩
  have R := Lib.hid ((H.out.boxed _).after S1.out C1.out s2 c2 (by have := H.out.l1; simp; omega) (by have := H.out.l2; simp only; omega) (fun t ht => by have := H.out.pl t ht; simp only [List.length_append, List.length_cons, List.length_nil]; omega)).boxed
  clear s2 c2 d1 d2
  go_wp2_with fail
  go_ret
  exact ⟨rfl, R.out⟩

set_option maxHeartbeats 3000000 in
theorem does_label (p r : Nat) (F G : Nat → Prop) (s : Asm) (m : Nat) (op n : Int) (x : Nat) (w : World) (h : Two w p r F G s m) (hm : m < 4398046511103) :
    Calls Try.prog 9 #[.pointer (some ⟨p, 0, none⟩), .pointer (some ⟨r, 0, none⟩), MoveV 4 op n x] w fun e w' => e = .returned (.bool true) ∧ After w w' p r F G (m + 1) := by
  have H := Lib.hid h
  have HM := Lib.hid hm
  clear h hm
  by_cases hl : s.labels < 256
  · have hq : ((s.labels : Int) == (s.labels : Int)) = true := by simp
    have HLL := Lib.hid hl
    clear hl
    go_enter Try.func9, Try.ntmps9
    go_wp2_with fail
    refine (label_more p F s _ (H.out.boxed _).bd HLL.out).mono ?_
    rintro e w1 ⟨rfl, s1, c1⟩
    have C1 := Lib.hid c1
    have S1 := Lib.hid s1
    clear s1 c1
    go_wp2_with fail
    refine (rlabel_more r G s _ ((H.out.boxed _).push C1.out) HLL.out).mono ?_
    rintro e w2 ⟨rfl, s2, c2⟩
    have R := Lib.hid ((H.out.boxed _).after S1.out C1.out s2 c2 (by have := H.out.l1; simp only; omega) (by have := H.out.l2; simp only; omega) (fun t ht => by have := H.out.pl t ht; simp only; omega)).boxed
    clear s2 c2
    go_wp2_with fail
    go_ret
    exact ⟨rfl, R.out⟩
  · have hl2 := Lib.hid (show s.labels = 256 by have := H.out.bd.most; omega)
    have hq : ((-1 : Int) == (-1 : Int)) = true := by simp
    clear hl
    go_enter Try.func9, Try.ntmps9
    go_wp2_with fail
    refine (label_full p F s _ (H.out.boxed _).bd hl2.out).mono ?_
    rintro e w1 ⟨rfl, rfl⟩
    go_wp2_with fail
    refine (rlabel_full r G s _ (H.out.boxed _).rb hl2.out).mono ?_
    rintro e w2 ⟨rfl, rfl⟩
    go_wp2_with fail
    go_ret
    exact ⟨rfl, After.same H.out ((Chg.refl _ _).alloc _)⟩

set_option maxHeartbeats 3000000 in
theorem does_mark (p r : Nat) (F G : Nat → Prop) (s : Asm) (m : Nat) (op n : Int) (x : Nat) (w : World) (h : Two w p r F G s m) (hm : m < 4398046511103) :
    Calls Try.prog 9 #[.pointer (some ⟨p, 0, none⟩), .pointer (some ⟨r, 0, none⟩), MoveV 5 op n x] w fun e w' => e = .returned (.bool true) ∧ After w w' p r F G (m + 1) := by
  have H := Lib.hid h
  have HM := Lib.hid hm
  clear h hm
  go_enter Try.func9, Try.ntmps9
  go_wp2_with fail
  refine (mark_any p F s n _ (H.out.boxed _).bd (by have := H.out.l2; have := HM.out; omega)).mono ?_
  rintro e w1 ⟨rfl, s1, c1⟩
  have C1 := Lib.hid c1
  have S1 := Lib.hid s1
  have d2 := box_cell 2 c1 H.out.bd.lt rfl
  clear s1 c1
  go_wp2_with fail
  refine (rmark_any r G s n _ ((H.out.boxed _).push C1.out) (by have := H.out.l2; have := HM.out; omega)).mono ?_
  rintro e w2 ⟨rfl, s2, c2⟩
  have R := Lib.hid ((H.out.boxed _).after S1.out C1.out s2 c2 (by have := H.out.l1; simp only; omega) (by have := H.out.l2; simp; omega) (fun t ht => by
    rcases List.mem_append.1 ht with ht | ht
    · exact H.out.pl t ht
    · simp at ht; subst ht; exact Nat.le_refl _)).boxed
  clear s2 c2 d2
  go_wp2_with fail
  go_ret
  exact ⟨rfl, R.out⟩

theorem does_prog (p r : Nat) (F G : Nat → Prop) (s : Asm) (m : Nat) (op n : Int) (x : Nat) (w : World) (h : Two w p r F G s m) (hm : m < 4398046511103) :
    Calls Try.prog 9 #[.pointer (some ⟨p, 0, none⟩), .pointer (some ⟨r, 0, none⟩), MoveV 6 op n x] w fun e w' => e = .returned (.bool true) ∧ After w w' p r F G (m + 1) := by
  have H := Lib.hid h
  have HM := Lib.hid hm
  clear h hm
  go_enter Try.func9, Try.ntmps9
  go_wp2_with fail
  refine (lsame_any p r F G s _ (H.out.boxed _).bd (H.out.boxed _).rb (by have := H.out.l1; have := HM.out; omega) (by have := H.out.l2; have := HM.out; omega) H.out.pl).mono ?_
  rintro e w1 ⟨rfl, c1⟩
  have R := Lib.hid (After.same H.out (((Chg.refl _ _).alloc _).trans c1 (fun _ _ h => h)))
  clear c1
  go_wp2_with fail
  go_ret
  exact ⟨rfl, R.out⟩

theorem does_other (p r : Nat) (F G : Nat → Prop) (s : Asm) (m : Nat) (k op n : Int) (x : Nat) (w : World) (h : Two w p r F G s m) (h1 : k ≠ 1) (h2 : k ≠ 2) (h3 : k ≠ 3) (h4 : k ≠ 4) (h5 : k ≠ 5) (h6 : k ≠ 6) :
    Calls Try.prog 9 #[.pointer (some ⟨p, 0, none⟩), .pointer (some ⟨r, 0, none⟩), MoveV k op n x] w fun e w' => e = .returned (.bool true) ∧ After w w' p r F G (m + 1) := by
  have H := Lib.hid h
  clear h
  have b1 : (k == 1) = false := by simpa using h1
  have b2 : (k == 2) = false := by simpa using h2
  have b3 : (k == 3) = false := by simpa using h3
  have b4 : (k == 4) = false := by simpa using h4
  have b5 : (k == 5) = false := by simpa using h5
  have b6 : (k == 6) = false := by simpa using h6
  clear h1 h2 h3 h4 h5 h6
  go_enter Try.func9, Try.ntmps9
  go_wp2_with fail
  go_ret
  exact ⟨rfl, After.same H.out ((Chg.refl _ _).alloc _)⟩

theorem does_any (p r : Nat) (F G : Nat → Prop) (s : Asm) (m : Nat) (k op n : Int) (x : Nat) (w : World) (h : Two w p r F G s m) (hm : m < 4398046511103) :
    Calls Try.prog 9 #[.pointer (some ⟨p, 0, none⟩), .pointer (some ⟨r, 0, none⟩), MoveV k op n x] w fun e w' => e = .returned (.bool true) ∧ After w w' p r F G (m + 1) := by
  by_cases h1 : k = 1
  · subst h1; exact does_add p r F G s m op n x w h hm
  by_cases h2 : k = 2
  · subst h2; exact does_push p r F G s m op n x w h hm
  by_cases h3 : k = 3
  · subst h3; exact does_to p r F G s m op n x w h hm
  by_cases h4 : k = 4
  · subst h4; exact does_label p r F G s m op n x w h hm
  by_cases h5 : k = 5
  · subst h5; exact does_mark p r F G s m op n x w h hm
  by_cases h6 : k = 6
  · subst h6; exact does_prog p r F G s m op n x w h hm
  exact does_other p r F G s m k op n x w h h1 h2 h3 h4 h5 h6
end Go.Proofs.Ythgcmafeahlmpaa
