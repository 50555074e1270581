/- step of layer 6's statements. -/
import Derived.Test.YtpigcmedkljonabLaw6C
namespace Go.Proofs.Ytpigcmedkljonab
open Go Go.RowKit
set_option linter.unusedVariables false
set_option linter.unusedSimpArgs false

theorem touches_ts (a : Option Addr) (c : Nat) (ps : List (Int × Int)) (w : World) (hs : Pts w a ps) (hl : ps.length * 16 ≤ 140737488351232) :
    Calls Try.prog 37 #[.slice a ps.length c] w fun e w' => ∃ a' c', e = .returned (.slice a' (tchL ps).length c') ∧ Tch w' a' (tchL ps) ∧ (∀ b o, a' = some ⟨b, o, none⟩ → w.heap.size ≤ b ∧ b < w'.heap.size) ∧ Chg w w' Nothing := by
  refine (touches_any a c ps w hs hl).mono ?_
  rintro e w' ⟨a', c', rfl, h1, h2⟩
  have e1 : (tchL ps).length = ps.length := by simp [tchL]
  obtain ⟨t1, t2⟩ := Tch.of_owns (ts := tchL ps) (by rw [e1]; exact h1)
  exact ⟨a', c', by rw [e1], t1, t2, h2⟩

theorem numbers_fs (a : Option Addr) (c : Nat) (ps : List (Int × Int)) (w : World) (hs : Pts w a ps) (hl : ps.length * 8 ≤ 140737488351232) :
    Calls Try.prog 39 #[.slice a ps.length c] w fun e w' => ∃ a' c', ∃ ms : List Nat, e = .returned (.slice a' ms.length c') ∧ ms.length = ps.length ∧ Sees w' a' (ms.map fl) ∧ Chg w w' Nothing := by
  refine (numbers_any a c ps w hs hl).mono ?_
  rintro e w' ⟨a', c', rfl, h1, h2⟩
  exact ⟨a', c', rawL (ps.map (·.2)), by simp [rawL], by simp [rawL], Sees.of_owns h1, h2⟩

/-- A state of the code's and one of the document's hold the same, apart from one another. -/
structure Two (w : World) (p q : Nat) (F G : Nat → Prop) (fs : List Nat) : Prop where
  s : St 53 36 w p F (fs.map fl)
  r : St 56 36 w q G (fs.map fl)
  d : ∀ k, F k → ¬ G k
  l : fs.length ≤ 256

def After (w w' : World) (p q : Nat) (F G : Nat → Prop) : Prop := ∃ gs, Two w' p q F G gs ∧ Chg w w' (fun k => F k ∨ G k)

variable {w w1 w2 w' : World} {p q : Nat} {F G : Nat → Prop} {fs gs : List Nat}
theorem Two.chg (h : Two w p q F G fs) (hc : Chg w w' Nothing) : Two w' p q F G fs := ⟨h.s.chg hc (fun _ _ h => h), h.r.chg hc (fun _ _ h => h), h.d, h.l⟩
theorem Two.boxed (h : Two w p q F G fs) (o : Obj) : Two (w.alloc o) p q F G fs := h.chg ((Chg.refl _ _).alloc _)
theorem Two.drewN (h : Two w p q F G fs) (n : Nat) : Two (w.drewN n) p q F G fs := h.chg ((Chg.refl _ _).drewN n)
theorem After.boxed {o : Obj} (h : After (w.alloc o) w' p q F G) : After w w' p q F G := by
  obtain ⟨gs, h1, h2⟩ := h
  exact ⟨gs, h1, ((Chg.refl _ _).alloc o).trans h2 (fun _ _ h => h)⟩
theorem After.drewN {n : Nat} (h : After w w' p q F G) : After w (w'.drewN n) p q F G := by
  obtain ⟨gs, h1, h2⟩ := h
  exact ⟨gs, h1.drewN n, h2.drewN n⟩
theorem After.pre (hc : Chg w w1 Nothing) (h : After w1 w' p q F G) (hs : Two w p q F G fs) : After w w' p q F G := by
  obtain ⟨gs, h1, h2⟩ := h
  exact ⟨gs, h1, (hc.mono (fun _ _ h => h.elim)).trans h2 (fun _ _ h => h)⟩
theorem Two.after (h : Two w p q F G fs) (s1 : St 53 36 w1 p F (gs.map fl)) (c1 : Chg w w1 F) (r2 : St 56 36 w2 q G (gs.map fl)) (c2 : Chg w1 w2 G) (hl : gs.length = fs.length) : After w w2 p q F G := by
  refine ⟨gs, ⟨s1.chg c2 h.d, r2, h.d, by have := h.l; omega⟩, (c1.mono fun k _ h => .inl h).trans c2 (fun k _ h => .inr h)⟩
theorem Two.push (h : Two w p q F G fs) (c1 : Chg w w1 F) : St 56 36 w1 q G (fs.map fl) := h.r.chg c1 (fun k hk hf => h.d k hf hk)
theorem After.same (h : Two w p q F G fs) (hc : Chg w w1 Nothing) : After w w1 p q F G := ⟨fs, h.chg hc, hc.mono (fun _ _ h => h.elim)⟩
theorem box_cell {w w1 : World} {F : Nat → Prop} {cs : Array Value} {T : TypeId} {v : Value} (j : Nat) (c1 : Chg (w.alloc (.cells cs T)) w1 F) (hF : ∀ k, F k → k < w.heap.size) (hv : cs[j]? = some v) : w1.cell? ⟨w.heap.size, j, none⟩ = some v :=
  c1.cell ((blk_cell (heap_alloc_new w _) j).trans hv) (fun h => Nat.lt_irrefl _ (hF _ h))

theorem step_get (p q : Nat) (F G : Nat → Prop) (fs : List Nat) (n x : Int) (L : Value) (w : World) (h : Two w p q F G fs) :
    Calls Try.prog 31 #[.pointer (some ⟨p, 0, none⟩), .pointer (some ⟨q, 0, none⟩), .agg #[.int .i64 1, .int .i64 n, .int .u64 x, L]] w fun e w' => e = .returned (.bool true) ∧ After w w' p q F G := by
  have H := Lib.hid h
  clear h
  go_enter Try.func31, Try.ntmps31
  go_wp2_with fail
  refine (T6.get_any p F fs n _ (H.out.boxed _).s H.out.l).mono ?_
  rintro e w1 ⟨rfl, rfl⟩
  go_wp2_with fail
  refine (R6.get_any q G fs n _ (H.out.boxed _).r H.out.l).mono ?_
  rintro e w1 ⟨rfl, rfl⟩
  have hq : (setE fs n == setE fs n) = true := by simp
  have hv : ((getV fs n : Int) == (getV fs n : Int)) = true := by simp
  go_wp2_with fail
  go_ret
  exact ⟨rfl, After.same H.out ((Chg.refl _ _).alloc _)⟩

theorem step_set (p q : Nat) (F G : Nat → Prop) (fs : List Nat) (n x : Int) (L : Value) (w : World) (h : Two w p q F G fs) :
    Calls Try.prog 31 #[.pointer (some ⟨p, 0, none⟩), .pointer (some ⟨q, 0, none⟩), .agg #[.int .i64 2, .int .i64 n, .int .u64 x, L]] w fun e w' => e = .returned (.bool true) ∧ After w w' p q F G := by
  have H := Lib.hid h
  clear h
  go_enter Try.func31, Try.ntmps31
  go_wp2_with fail
  go_region_law (first | (go_simp; go_at_call 19; refine (raw_any _ _).mono ?_; rintro e w' ⟨rfl, rfl⟩) | (go_simp; go_at_call 18; refine (T6.set_any p F fs n x.toNat _ ((H.out.boxed _).s.drewN 1) H.out.l).mono ?_; rintro e w1 ⟨rfl, s1, c1⟩))
  all_goals
    have C1 := Lib.hid (show Chg (w.alloc (.cells #[.int .i64 2, .int .i64 n, .int .u64 x, L] 61)) w1 F from ⟨c1.os, c1.tape, c1.output, c1.size, c1.block⟩)
    have S1 := Lib.hid s1
    clear s1 c1
    have d1 := box_cell 1 C1.out H.out.s.lt rfl
    have d2 := box_cell 2 C1.out H.out.s.lt rfl
    go_wp2_with fail
    go_region_law (first | (go_simp; go_at_call 19; refine (raw_any _ _).mono ?_; rintro e w' ⟨rfl, rfl⟩) | (go_simp; go_at_call 35; refine (R6.set_any q G fs n x.toNat _ (((H.out.boxed _).push C1.out).drewN 1) H.out.l).mono ?_; rintro e w2 ⟨rfl, s2, c2⟩))
    all_goals
      have hq : (setE fs n == setE fs n) = true := by simp
      have C2 : Chg w1 w2 G := ⟨c2.os, c2.tape, c2.output, c2.size, c2.block⟩
      have R := Lib.hid ((H.out.boxed _).after S1.out C1.out s2 C2 (setL_len _ _ _)).boxed
      clear s2 c2 C2 d1 d2
      go_wp2_with fail
      go_ret
      exact ⟨rfl, R.out⟩

theorem step_apply (p q : Nat) (F G : Nat → Prop) (fs : List Nat) (n x : Int) (a : Option Addr) (c : Nat) (ps : List (Int × Int)) (w : World) (h : Two w p q F G fs) (hp : Pts w a ps) (hl : ps.length * 16 ≤ 140737488351232) (hF : ∀ b o, a = some ⟨b, o, none⟩ → 0 < ps.length → ¬ F b ∧ ¬ G b) :
    Calls Try.prog 31 #[.pointer (some ⟨p, 0, none⟩), .pointer (some ⟨q, 0, none⟩), .agg #[.int .i64 3, .int .i64 n, .int .u64 x, .slice a ps.length c]] w fun e w' => e = .returned (.bool true) ∧ After w w' p q F G := by
  have H := Lib.hid h
  have HP := Lib.hid hp
  have HF := Lib.hid hF
  clear h hp hF
  have tl : (tchL ps).length ≤ 140737488355328 := by simp [tchL]; omega
  have TS := Lib.hid (fun w => touches_ts a c ps w)
  have P0 := Lib.hid (fun o => HP.out.chg (((Chg.refl w Nothing).alloc o)))
  generalize tchL ps = ts at tl TS
  go_enter Try.func31, Try.ntmps31
  go_wp2_with fail
  refine (TS.out _ (P0.out _) hl).mono ?_
  rintro e w1 ⟨a1, k1, rfl, t1, f1, c1⟩
  have d1 := box_cell 3 c1 (F := Nothing) (fun _ h => h.elim) rfl
  have L1 := H.out.s.lt
  have L2 := H.out.r.lt
  go_wp2_with fail
  refine (T6.apply_any p F fs a1 k1 ts w1 ((H.out.boxed _).chg c1).s H.out.l t1 (fun b o hb hf => by have := (f1 b o hb).1; have := L1 b hf; simp at *; omega) tl).mono ?_
  rintro e w2 ⟨rfl, s2, c2⟩
  have HC1 := Lib.hid c1
  have HC2 := Lib.hid c2
  have HS2 := Lib.hid s2
  have HP2 := Lib.hid (show Pts w2 a ps from fun i y hy => by
    obtain ⟨b, o, hb, h1, h2⟩ := (P0.out _).chg c1 i y hy
    have hn := (HF.out b o hb (by have := (List.getElem?_eq_some_iff.1 hy).1; omega)).1
    exact ⟨b, o, hb, c2.cell h1 hn, c2.cell h2 hn⟩)
  have d2 := c2.cell d1 (fun h => Nat.lt_irrefl _ (L1 _ h))
  clear c1 c2 s2 d1 t1 f1
  go_wp2_with fail
  refine (TS.out _ HP2.out hl).mono ?_
  rintro e w3 ⟨a3, k3, rfl, t3, f3, c3⟩
  have L3 := (((H.out.boxed _).chg HC1.out).push HC2.out).lt
  have HC3 := Lib.hid c3
  go_wp2_with fail
  refine (R6.apply_any q G fs a3 k3 ts w3 ((((H.out.boxed _).chg HC1.out).push HC2.out).chg c3 (fun _ _ h => h)) H.out.l t3 (fun b o hb hf => by have := (f3 b o hb).1; have := L3 b hf; omega) tl).mono ?_
  rintro e w4 ⟨rfl, s4, c4⟩
  have hq : (applyE fs ts == applyE fs ts) = true := by simp
  have R := Lib.hid (((((H.out.boxed _).chg HC1.out).after (HS2.out.chg c3 (fun _ _ h => h)) (HC2.out.trans c3 (fun _ _ h => h.elim)) s4 c4 (applyL_len _ _)).pre HC1.out (H.out.boxed _))).boxed
  clear s4 c4 c3 t3 f3 d2
  go_wp2_with fail
  go_ret
  exact ⟨rfl, R.out⟩

theorem step_all (p q : Nat) (F G : Nat → Prop) (fs : List Nat) (n x : Int) (L : Value) (w : World) (h : Two w p q F G fs) :
    Calls Try.prog 31 #[.pointer (some ⟨p, 0, none⟩), .pointer (some ⟨q, 0, none⟩), .agg #[.int .i64 4, .int .i64 n, .int .u64 x, L]] w fun e w' => e = .returned (.bool true) ∧ After w w' p q F G := by
  have H := Lib.hid h
  clear h
  have hlen : (fs.map fl).length = fs.length := by simp
  have hq : ((fs.length : Int) == (fs.length : Int)) = true := by simp
  go_enter Try.func31, Try.ntmps31
  go_wp2_with fail
  refine (R6.all_any q G fs _ (H.out.boxed _).r H.out.l).mono ?_
  rintro e w1 ⟨a1, k1, rfl, o1, c1⟩
  have H1 := Lib.hid ((H.out.boxed _).chg c1)
  have S1 := Lib.hid (Sees.of_owns o1)
  have C1 := Lib.hid (((Chg.refl w Nothing).alloc _).trans c1 (fun _ _ h => h))
  clear o1 c1
  go_wp2_with fail
  refine (T6.len_any p F _ w1 H1.out.s).mono ?_
  rintro e w2 ⟨rfl, rfl⟩
  rw [hlen]
  go_wp2_with fail
  refine (R6.len_any q G _ w1 H1.out.r).mono ?_
  rintro e w2 ⟨rfl, rfl⟩
  rw [hlen]
  go_wp2_with fail
  refine (T6.all_any p F fs w1 H1.out.s H.out.l).mono ?_
  rintro e w2 ⟨a2, k2, rfl, o2, c2⟩
  have S2 := Lib.hid (Sees.of_owns o2)
  have S3 := Lib.hid (S1.out.chg c2)
  have C2 := Lib.hid (C1.out.trans c2 (fun _ _ h => h))
  clear o2 c2
  go_wp2_with fail
  refine (exact_true a2 a1 k2 k1 fs w2 S2.out S3.out (by have := H.out.l; omega)).mono ?_
  rintro e w3 ⟨rfl, m, rfl⟩
  go_wp2_with fail
  go_ret
  exact ⟨rfl, After.same H.out (C2.out.drewN m)⟩

theorem step_other (p q : Nat) (F G : Nat → Prop) (fs : List Nat) (k n x : Int) (L : Value) (w : World) (h : Two w p q F G fs) (h1 : k ≠ 1) (h2 : k ≠ 2) (h3 : k ≠ 3) (h4 : k ≠ 4) (h5 : k ≠ 5) :
    Calls Try.prog 31 #[.pointer (some ⟨p, 0, none⟩), .pointer (some ⟨q, 0, none⟩), .agg #[.int .i64 k, .int .i64 n, .int .u64 x, L]] w fun e w' => e = .returned (.bool true) ∧ After w w' p q F G := by
  have H := Lib.hid h
  clear h
  have b1 : (k == 1) = false := by simpa using h1
  have b2 : (k == 2) = false := by simpa using h2
  have b3 : (k == 3) = false := by simpa using h3
  have b4 : (k == 4) = false := by simpa using h4
  have b5 : (k == 5) = false := by simpa using h5
  clear h1 h2 h3 h4 h5
  go_enter Try.func31, Try.ntmps31
  go_wp2_with fail
  go_ret
  exact ⟨rfl, After.same H.out ((Chg.refl _ _).alloc _)⟩

end Go.Proofs.Ytpigcmedkljonab
