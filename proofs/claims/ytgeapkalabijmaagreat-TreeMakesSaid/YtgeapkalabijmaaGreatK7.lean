/- What the machine does: jumps, calls, ends. -/
import Derived.Test.YtgeapkalabijmaaGreatK6
import Derived.Defers
import Derived.Recover
import Derived.BigQuiet
namespace Go.Proofs.YtgeapkalabijmaaGreat
open Go Go.RowKit
set_option maxRecDepth 100000
set_option maxHeartbeats 1000000
set_option linter.unusedVariables false
set_option linter.unusedSimpArgs false

abbrev insA (op n : Int) (x : Nat) : Value := .agg #[.int .i64 op, .int .i64 n, fl x]
theorem askBlk2 {w X : World} {bx : Obj} {m : Nat} {F : Nat → Prop} {s : Mc} (h : MaS ((w.alloc bx).alloc (.cells ask0 99)) X m F s) (hF : ∀ k, F k → k < w.heap.size) : X.heap[w.heap.size + 1]? = some (.cells ask0 99 (0, 0)) := by
  have := h.askBlk (fun k hk => by have := hF k hk; simp; omega)
  rwa [World.size_alloc] at this
theorem asked2 {w X X' : World} {bx o : Obj} {m : Nat} {F : Nat → Prop} {s : Mc} (h : MaS ((w.alloc bx).alloc o) X m F s) (hc : Chg X X' (fun k => k = w.heap.size + 1)) (hF : ∀ k, F k → k < w.heap.size) : MaS w X' m F s :=
  (h.asked (X' := X') (by rw [World.size_alloc]; exact hc) (fun k hk => by have := hF k hk; simp; omega)).boxed

section
variable (m : Nat) (F : Nat → Prop) (s : Mc) (n : Int) (x : Nat) (w : World)
set_option maxHeartbeats 2000000 in
theorem do_19 (h : Ma w m F s) :
    Calls Tryz.prog 120 #[.pointer (some ⟨m, 0, none⟩), insA 19 n x] w fun e w' => e = .returned (askV askEnd) ∧ MaS w w' m F { s with how := (2, n, 0) } := by
  have hm := h.has.2
  have hmq : ¬ w.heap.size + 1 = m := by omega
  have H := Lib.hid h
  clear h
  go_enter Tryz.func120, Tryz.ntmps120
  go_wp2_with fail
  with_reducible refine (mends_any m F s 2 n 0 _ (H.out.quiet (((Chg.refl w Nothing).alloc _).alloc _))).mono ?_
  rintro e w1 ⟨he, r1⟩
  obtain rfl : e = .returned (.agg #[.int .i64 4, .int .i64 0, .float .f64 0, .bool false]) := he
  have qd := askBlk2 r1 H.out.lt
  have q0 : w1.cell? ⟨w.heap.size + 1, 0, none⟩ = some (.int .i64 0) := blk_cell qd 0
  have q1 : w1.cell? ⟨w.heap.size + 1, 1, none⟩ = some (.int .i64 0) := blk_cell qd 1
  have q2 : w1.cell? ⟨w.heap.size + 1, 2, none⟩ = some (.float .f64 0) := blk_cell qd 2
  have q3 : w1.cell? ⟨w.heap.size + 1, 3, none⟩ = some (.bool false) := blk_cell qd 3
  have g0 : w1.frozen? ⟨w.heap.size + 1, 0, none⟩ = false := blk_free qd 0
  have g1 : w1.frozen? ⟨w.heap.size + 1, 1, none⟩ = false := blk_free qd 1
  have g2 : w1.frozen? ⟨w.heap.size + 1, 2, none⟩ = false := blk_free qd 2
  have g3 : w1.frozen? ⟨w.heap.size + 1, 3, none⟩ = false := blk_free qd 3
  have QE := Lib.hid qd
  have R := Lib.hid (asked2 r1 (four_chg (a := .int .i64 4) (c := .int .i64 0) (d := .float .f64 0) (e := .bool false)) H.out.lt)
  clear r1 qd
  go_wp2_with fail
  exact bodyPost_ret (v := askV askEnd) (do_results (a := askEnd) rfl (four_set QE.out)) rfl ⟨rfl, R.out⟩
set_option maxHeartbeats 2000000 in
theorem do_20 (h : Ma w m F s) :
    Calls Tryz.prog 120 #[.pointer (some ⟨m, 0, none⟩), insA 20 n x] w fun e w' => e = .returned (askV askEnd) ∧ MaS w w' m F { s with how := (1, 0, 0) } := by
  have hm := h.has.2
  have hmq : ¬ w.heap.size + 1 = m := by omega
  have H := Lib.hid h
  clear h
  go_enter Tryz.func120, Tryz.ntmps120
  go_wp2_with fail
  with_reducible refine (mends_any m F s 1 0 0 _ (H.out.quiet (((Chg.refl w Nothing).alloc _).alloc _))).mono ?_
  rintro e w1 ⟨he, r1⟩
  obtain rfl : e = .returned (.agg #[.int .i64 4, .int .i64 0, .float .f64 0, .bool false]) := he
  have qd := askBlk2 r1 H.out.lt
  have q0 : w1.cell? ⟨w.heap.size + 1, 0, none⟩ = some (.int .i64 0) := blk_cell qd 0
  have q1 : w1.cell? ⟨w.heap.size + 1, 1, none⟩ = some (.int .i64 0) := blk_cell qd 1
  have q2 : w1.cell? ⟨w.heap.size + 1, 2, none⟩ = some (.float .f64 0) := blk_cell qd 2
  have q3 : w1.cell? ⟨w.heap.size + 1, 3, none⟩ = some (.bool false) := blk_cell qd 3
  have g0 : w1.frozen? ⟨w.heap.size + 1, 0, none⟩ = false := blk_free qd 0
  have g1 : w1.frozen? ⟨w.heap.size + 1, 1, none⟩ = false := blk_free qd 1
  have g2 : w1.frozen? ⟨w.heap.size + 1, 2, none⟩ = false := blk_free qd 2
  have g3 : w1.frozen? ⟨w.heap.size + 1, 3, none⟩ = false := blk_free qd 3
  have QE := Lib.hid qd
  have R := Lib.hid (asked2 r1 (four_chg (a := .int .i64 4) (c := .int .i64 0) (d := .float .f64 0) (e := .bool false)) H.out.lt)
  clear r1 qd
  go_wp2_with fail
  exact bodyPost_ret (v := askV askEnd) (do_results (a := askEnd) rfl (four_set QE.out)) rfl ⟨rfl, R.out⟩
set_option maxHeartbeats 2000000 in
theorem do_11 (k : Nat) (h : Ma w m F s) :
    Calls Tryz.prog 120 #[.pointer (some ⟨m, 0, none⟩), insA 11 (k : Int) x] w fun e w' => e = .returned (askV askNone) ∧ MaS w w' m F { s with at_ := k } := by
  have hm := h.has.2
  have c25 : w.cell? ⟨m, 25, none⟩ = some (.int .i64 (s.at_ : Int)) := h.cell 25 (fun pn pc pb ac cc ao co ar cr => rfl)
  have f25 := h.free 25
  have hmn : ¬ m = w.heap.size := by omega
  have hmn1 : ¬ m = w.heap.size + 1 := by omega
  have R1 := h.fld 25 (.int .i64 (k : Int)) { s with at_ := k } (fun pn pc pb ac cc ao co ar cr => rfl) rfl rfl rfl rfl rfl rfl rfl
  obtain ⟨W3, hW3⟩ : ∃ W3, W3 = w.setCell ⟨m, 25, none⟩ (.int .i64 (k : Int)) := ⟨_, rfl⟩
  rw [← hW3] at R1
  have hz : W3.heap.size = w.heap.size := by rw [hW3]; simp
  have hb := heap_alloc2_new W3 (.cells #[.int .i64 11, .int .i64 (k : Int), fl x] 73) (.cells ask0 99)
  rw [hz] at hb
  have HB := Lib.hid hb
  have HW := Lib.hid hW3
  have R := Lib.hid (R1.quiet (((Chg.refl W3 Nothing).alloc (.cells #[.int .i64 11, .int .i64 (k : Int), fl x] 73)).alloc (.cells ask0 99)))
  clear h R1 hW3 hz hb
  go_enter Tryz.func120, Tryz.ntmps120
  go_wp2_with fail
  rw [← HW.out]
  exact bodyPost_ret (v := askV askNone) (do_results (a := askNone) rfl HB.out) rfl ⟨rfl, R.out⟩
set_option maxHeartbeats 2000000 in
/-- What is reckoned with numbers alone. -/
theorem do_reckon (op : Int) (s' : Mc) (h : Ma w m F s) (h1 : op ≠ 16) (h2 : op ≠ 17) (h3 : op ≠ 19) (h4 : op ≠ 20) (h5 : op ≠ 11) (h6 : op ≠ 12) (h7 : op ≠ 13) (h8 : op ≠ 14) (h9 : op ≠ 15)
    (hr : ∀ W, Ma W m F s → Calls Tryz.prog 164 #[.pointer (some ⟨m, 0, none⟩), insA op n x] W fun e w' => e = .returned (.tuple #[]) ∧ MaS W w' m F s') :
    Calls Tryz.prog 120 #[.pointer (some ⟨m, 0, none⟩), insA op n x] w fun e w' => e = .returned (askV askNone) ∧ MaS w w' m F s' := by
  have hm := h.has.2
  have hmq : ¬ w.heap.size + 1 = m := by omega
  have H := Lib.hid h
  have HR := Lib.hid hr
  have b1 : (op == 16) = false := by simpa using h1
  have b2 : (op == 17) = false := by simpa using h2
  have b3 : (op == 19) = false := by simpa using h3
  have b4 : (op == 20) = false := by simpa using h4
  have b5 : (op == 11) = false := by simpa using h5
  have b6 : (op == 12) = false := by simpa using h6
  have b7 : (op == 13) = false := by simpa using h7
  have b8 : (op == 14) = false := by simpa using h8
  have b9 : (op == 15) = false := by simpa using h9
  clear h h1 h2 h3 h4 h5 h6 h7 h8 h9 hr
  go_enter Tryz.func120, Tryz.ntmps120
  go_wp2_with fail
  with_reducible refine (HR.out _ (H.out.quiet (((Chg.refl w Nothing).alloc _).alloc _))).mono ?_
  rintro e w1 ⟨rfl, r1⟩
  have qd := askBlk2 r1 H.out.lt
  have q0 : w1.cell? ⟨w.heap.size + 1, 0, none⟩ = some (.int .i64 0) := blk_cell qd 0
  have q1 : w1.cell? ⟨w.heap.size + 1, 1, none⟩ = some (.int .i64 0) := blk_cell qd 1
  have q2 : w1.cell? ⟨w.heap.size + 1, 2, none⟩ = some (.float .f64 0) := blk_cell qd 2
  have q3 : w1.cell? ⟨w.heap.size + 1, 3, none⟩ = some (.bool false) := blk_cell qd 3
  have g0 : w1.frozen? ⟨w.heap.size + 1, 0, none⟩ = false := blk_free qd 0
  have g1 : w1.frozen? ⟨w.heap.size + 1, 1, none⟩ = false := blk_free qd 1
  have g2 : w1.frozen? ⟨w.heap.size + 1, 2, none⟩ = false := blk_free qd 2
  have g3 : w1.frozen? ⟨w.heap.size + 1, 3, none⟩ = false := blk_free qd 3
  have QE := Lib.hid qd
  have R := Lib.hid (asked2 r1 (four_chg (a := .int .i64 0) (c := .int .i64 0) (d := .float .f64 0) (e := .bool false)) H.out.lt)
  clear r1 qd
  go_wp2_with fail
  exact bodyPost_ret (v := askV askNone) (do_results (a := askNone) rfl (four_set QE.out)) rfl ⟨rfl, R.out⟩
set_option maxHeartbeats 2000000 in
theorem do_16 (a : AskD) (s' : Mc) (h : Ma w m F s)
    (hr : ∀ W, Ma W m F s → Calls Tryz.prog 158 #[.pointer (some ⟨m, 0, none⟩)] W fun e w' => e = .returned (askV a) ∧ MaS W w' m F s') :
    Calls Tryz.prog 120 #[.pointer (some ⟨m, 0, none⟩), insA 16 n x] w fun e w' => e = .returned (askV a) ∧ MaS w w' m F s' := by
  have hm := h.has.2
  have hmq : ¬ w.heap.size + 1 = m := by omega
  have H := Lib.hid h
  have HR := Lib.hid hr
  clear h hr
  go_enter Tryz.func120, Tryz.ntmps120
  go_wp2_with fail
  with_reducible refine (HR.out _ (H.out.quiet (((Chg.refl w Nothing).alloc _).alloc _))).mono ?_
  rintro e w1 ⟨he, r1⟩
  obtain rfl : e = .returned (.agg #[.int .i64 a.kind, .int .i64 a.cell, fl a.x, .bool a.first]) := he
  have qd := askBlk2 r1 H.out.lt
  have q0 : w1.cell? ⟨w.heap.size + 1, 0, none⟩ = some (.int .i64 0) := blk_cell qd 0
  have q1 : w1.cell? ⟨w.heap.size + 1, 1, none⟩ = some (.int .i64 0) := blk_cell qd 1
  have q2 : w1.cell? ⟨w.heap.size + 1, 2, none⟩ = some (.float .f64 0) := blk_cell qd 2
  have q3 : w1.cell? ⟨w.heap.size + 1, 3, none⟩ = some (.bool false) := blk_cell qd 3
  have g0 : w1.frozen? ⟨w.heap.size + 1, 0, none⟩ = false := blk_free qd 0
  have g1 : w1.frozen? ⟨w.heap.size + 1, 1, none⟩ = false := blk_free qd 1
  have g2 : w1.frozen? ⟨w.heap.size + 1, 2, none⟩ = false := blk_free qd 2
  have g3 : w1.frozen? ⟨w.heap.size + 1, 3, none⟩ = false := blk_free qd 3
  have QE := Lib.hid qd
  have R := Lib.hid (asked2 r1 (four_chg (a := .int .i64 a.kind) (c := .int .i64 a.cell) (d := fl a.x) (e := .bool a.first)) H.out.lt)
  clear r1 qd
  go_wp2_with fail
  exact bodyPost_ret (v := askV a) (do_results (a := a) rfl (four_set QE.out)) rfl ⟨rfl, R.out⟩
theorem do_16f (c : Int) (h : Ma w m F s)
    (hr : ∀ W, Ma W m F s → Calls Tryz.prog 158 #[.pointer (some ⟨m, 0, none⟩)] W fun e w' => e = .panicked (faultC c) ∧ Chg W w' Nothing) :
    Calls Tryz.prog 120 #[.pointer (some ⟨m, 0, none⟩), insA 16 n x] w fun e w' => e = .panicked (faultC c) ∧ Chg w w' Nothing := by
  have H := Lib.hid h
  have HR := Lib.hid hr
  clear h hr
  go_enter Tryz.func120, Tryz.ntmps120
  go_wp2_with fail
  with_reducible refine (HR.out _ (H.out.quiet (((Chg.refl w Nothing).alloc _).alloc _))).mono ?_
  rintro e w1 ⟨rfl, r1⟩
  exact ⟨rfl, rfl, (((Chg.refl w Nothing).alloc _).alloc _).trans r1 (fun _ _ h => h)⟩
set_option maxHeartbeats 2000000 in
theorem do_17 (a : AskD) (s' : Mc) (h : Ma w m F s)
    (hr : ∀ W, Ma W m F s → Calls Tryz.prog 159 #[.pointer (some ⟨m, 0, none⟩)] W fun e w' => e = .returned (askV a) ∧ MaS W w' m F s') :
    Calls Tryz.prog 120 #[.pointer (some ⟨m, 0, none⟩), insA 17 n x] w fun e w' => e = .returned (askV a) ∧ MaS w w' m F s' := by
  have hm := h.has.2
  have hmq : ¬ w.heap.size + 1 = m := by omega
  have H := Lib.hid h
  have HR := Lib.hid hr
  clear h hr
  go_enter Tryz.func120, Tryz.ntmps120
  go_wp2_with fail
  with_reducible refine (HR.out _ (H.out.quiet (((Chg.refl w Nothing).alloc _).alloc _))).mono ?_
  rintro e w1 ⟨he, r1⟩
  obtain rfl : e = .returned (.agg #[.int .i64 a.kind, .int .i64 a.cell, fl a.x, .bool a.first]) := he
  have qd := askBlk2 r1 H.out.lt
  have q0 : w1.cell? ⟨w.heap.size + 1, 0, none⟩ = some (.int .i64 0) := blk_cell qd 0
  have q1 : w1.cell? ⟨w.heap.size + 1, 1, none⟩ = some (.int .i64 0) := blk_cell qd 1
  have q2 : w1.cell? ⟨w.heap.size + 1, 2, none⟩ = some (.float .f64 0) := blk_cell qd 2
  have q3 : w1.cell? ⟨w.heap.size + 1, 3, none⟩ = some (.bool false) := blk_cell qd 3
  have g0 : w1.frozen? ⟨w.heap.size + 1, 0, none⟩ = false := blk_free qd 0
  have g1 : w1.frozen? ⟨w.heap.size + 1, 1, none⟩ = false := blk_free qd 1
  have g2 : w1.frozen? ⟨w.heap.size + 1, 2, none⟩ = false := blk_free qd 2
  have g3 : w1.frozen? ⟨w.heap.size + 1, 3, none⟩ = false := blk_free qd 3
  have QE := Lib.hid qd
  have R := Lib.hid (asked2 r1 (four_chg (a := .int .i64 a.kind) (c := .int .i64 a.cell) (d := fl a.x) (e := .bool a.first)) H.out.lt)
  clear r1 qd
  go_wp2_with fail
  exact bodyPost_ret (v := askV a) (do_results (a := a) rfl (four_set QE.out)) rfl ⟨rfl, R.out⟩
theorem do_17f (c : Int) (h : Ma w m F s)
    (hr : ∀ W, Ma W m F s → Calls Tryz.prog 159 #[.pointer (some ⟨m, 0, none⟩)] W fun e w' => e = .panicked (faultC c) ∧ Chg W w' Nothing) :
    Calls Tryz.prog 120 #[.pointer (some ⟨m, 0, none⟩), insA 17 n x] w fun e w' => e = .panicked (faultC c) ∧ Chg w w' Nothing := by
  have H := Lib.hid h
  have HR := Lib.hid hr
  clear h hr
  go_enter Tryz.func120, Tryz.ntmps120
  go_wp2_with fail
  with_reducible refine (HR.out _ (H.out.quiet (((Chg.refl w Nothing).alloc _).alloc _))).mono ?_
  rintro e w1 ⟨rfl, r1⟩
  exact ⟨rfl, rfl, (((Chg.refl w Nothing).alloc _).alloc _).trans r1 (fun _ _ h => h)⟩
end
end Go.Proofs.YtgeapkalabijmaaGreat

/- What the machine does: ifs, calls, returns. -/
namespace Go.Proofs.YtgeapkalabijmaaGreat
open Go Go.RowKit
set_option maxRecDepth 100000
set_option maxHeartbeats 1000000
set_option linter.unusedVariables false
set_option linter.unusedSimpArgs false

theorem boxBlk2 {w X : World} {cs cs' : Array Value} {T T' : TypeId} {m : Nat} {F : Nat → Prop} {s : Mc} (h : MaS ((w.alloc (.cells cs T)).alloc (.cells cs' T')) X m F s) (hF : ∀ k, F k → k < w.heap.size) : X.heap[w.heap.size]? = some (.cells cs T (0, 0)) :=
  (h.chg.block _ (by simp; omega) (fun e => Nat.lt_irrefl _ (hF _ e))).trans (heap_alloc2_old w _ _)
section
variable (m : Nat) (F : Nat → Prop) (s : Mc) (n : Int) (x : Nat) (w : World)
set_option maxHeartbeats 2000000 in
theorem do_12t (k : Nat) (h : Ma w m F s) (hb : trueB (topN s.s 0) = true) :
    Calls Tryz.prog 120 #[.pointer (some ⟨m, 0, none⟩), insA 12 (k : Int) x] w fun e w' => e = .returned (askV askNone) ∧ MaS w w' m F { s with s := s.s.dropLast, at_ := k } := by
  have hm := h.has.2
  have hmq : ¬ w.heap.size + 1 = m := by omega
  have H := Lib.hid h
  have HB := Lib.hid hb
  clear h hb
  go_enter Tryz.func120, Tryz.ntmps120
  go_wp2_with fail
  go_upto_region 15 with fail
  go_cut [48] (fun v wx => v = .bool true ∧ MaS ((w.alloc (.cells #[.int .i64 12, .int .i64 (k : Int), fl x] 73)).alloc (.cells ask0 99)) wx m F { s with s := s.s.dropLast })
  case first =>
    go_region_law (first | (go_simp; go_at_call 161; refine (mpop_any m F s _ ((H.out.quiet (((Chg.refl w Nothing).alloc _).alloc _)).drewN 1)).mono ?_; rintro e w1 ⟨rfl, r1'⟩; have r1 := Lib.hid (MaS.after (w := ((w.alloc (.cells #[.int .i64 12, .int .i64 (k : Int), fl x] 73)).alloc (.cells ask0 99))) (Chg.drewN (Chg.refl _ _) 1) r1'); have bb := boxBlk2 r1.out H.out.lt; have d0 : w1.cell? ⟨w.heap.size, 0, none⟩ = some (.int .i64 12) := blk_cell bb 0; have hb2 : w.heap.size < w1.heap.size := blk_lt bb) | (go_simp; go_at_call 160; refine (true_any _ _).mono ?_; rintro e w2 ⟨rfl, rfl⟩))
    all_goals
      rw [HB.out]
      go_wp2_with fail
      go_meet
      exact ⟨rfl, r1.out⟩
  case rest =>
    obtain ⟨rfl, r1⟩ := hcut
    have bb := boxBlk2 r1 H.out.lt
    have d1 : wc.cell? ⟨w.heap.size, 1, none⟩ = some (.int .i64 (k : Int)) := blk_cell bb 1
    have qd := askBlk2 r1 H.out.lt
    have q0 : wc.cell? ⟨w.heap.size + 1, 0, none⟩ = some (.int .i64 0) := blk_cell qd 0
    have q1 : wc.cell? ⟨w.heap.size + 1, 1, none⟩ = some (.int .i64 0) := blk_cell qd 1
    have q2 : wc.cell? ⟨w.heap.size + 1, 2, none⟩ = some (.float .f64 0) := blk_cell qd 2
    have q3 : wc.cell? ⟨w.heap.size + 1, 3, none⟩ = some (.bool false) := blk_cell qd 3
    have g0 : wc.frozen? ⟨w.heap.size + 1, 0, none⟩ = false := blk_free qd 0
    have g1 : wc.frozen? ⟨w.heap.size + 1, 1, none⟩ = false := blk_free qd 1
    have g2 : wc.frozen? ⟨w.heap.size + 1, 2, none⟩ = false := blk_free qd 2
    have g3 : wc.frozen? ⟨w.heap.size + 1, 3, none⟩ = false := blk_free qd 3
    have y25 : wc.cell? ⟨m, 25, none⟩ = some (.int .i64 (s.at_ : Int)) := r1.ma.cell 25 (fun pn pc pb ac cc ao co ar cr => rfl)
    have f25 := r1.ma.free 25
    have r2 := r1.then (r1.ma.fld 25 (.int .i64 (k : Int)) { s with s := s.s.dropLast, at_ := k } (fun pn pc pb ac cc ao co ar cr => rfl) rfl rfl rfl rfl rfl rfl rfl)
    have QE := Lib.hid ((Below.heap_setCell _ _ _ _ hmq).trans qd : ((wc.setCell ⟨m, 25, none⟩ (.int .i64 (k : Int))).heap[w.heap.size + 1]? = some (.cells ask0 99 (0, 0))))
    have R := Lib.hid (asked2 r2 (four_chg (a := .int .i64 0) (c := .int .i64 0) (d := .float .f64 0) (e := .bool false)) H.out.lt)
    clear r1 r2 qd bb
    go_wp2_with fail
    exact bodyPost_ret (v := askV askNone) (do_results (a := askNone) rfl (four_set QE.out)) rfl ⟨rfl, R.out⟩
set_option maxHeartbeats 2000000 in
theorem do_12f (k : Nat) (h : Ma w m F s) (hb : trueB (topN s.s 0) = false) :
    Calls Tryz.prog 120 #[.pointer (some ⟨m, 0, none⟩), insA 12 (k : Int) x] w fun e w' => e = .returned (askV askNone) ∧ MaS w w' m F { s with s := s.s.dropLast } := by
  have hm := h.has.2
  have hmq : ¬ w.heap.size + 1 = m := by omega
  have H := Lib.hid h
  have HB := Lib.hid hb
  clear h hb
  go_enter Tryz.func120, Tryz.ntmps120
  go_wp2_with fail
  go_upto_region 15 with fail
  go_cut [48] (fun v wx => v = .bool false ∧ MaS ((w.alloc (.cells #[.int .i64 12, .int .i64 (k : Int), fl x] 73)).alloc (.cells ask0 99)) wx m F { s with s := s.s.dropLast })
  case first =>
    go_region_law (first | (go_simp; go_at_call 161; refine (mpop_any m F s _ ((H.out.quiet (((Chg.refl w Nothing).alloc _).alloc _)).drewN 1)).mono ?_; rintro e w1 ⟨rfl, r1'⟩; have r1 := Lib.hid (MaS.after (w := ((w.alloc (.cells #[.int .i64 12, .int .i64 (k : Int), fl x] 73)).alloc (.cells ask0 99))) (Chg.drewN (Chg.refl _ _) 1) r1'); have bb := boxBlk2 r1.out H.out.lt; have d0 : w1.cell? ⟨w.heap.size, 0, none⟩ = some (.int .i64 12) := blk_cell bb 0; have hb2 : w.heap.size < w1.heap.size := blk_lt bb) | (go_simp; go_at_call 160; refine (true_any _ _).mono ?_; rintro e w2 ⟨rfl, rfl⟩))
    all_goals
      rw [HB.out]
      go_wp2_with fail
      go_meet
      exact ⟨rfl, r1.out⟩
  case rest =>
    obtain ⟨rfl, r1⟩ := hcut
    have bb := boxBlk2 r1 H.out.lt
    have d1 : wc.cell? ⟨w.heap.size, 1, none⟩ = some (.int .i64 (k : Int)) := blk_cell bb 1
    have qd := askBlk2 r1 H.out.lt
    have q0 : wc.cell? ⟨w.heap.size + 1, 0, none⟩ = some (.int .i64 0) := blk_cell qd 0
    have q1 : wc.cell? ⟨w.heap.size + 1, 1, none⟩ = some (.int .i64 0) := blk_cell qd 1
    have q2 : wc.cell? ⟨w.heap.size + 1, 2, none⟩ = some (.float .f64 0) := blk_cell qd 2
    have q3 : wc.cell? ⟨w.heap.size + 1, 3, none⟩ = some (.bool false) := blk_cell qd 3
    have g0 : wc.frozen? ⟨w.heap.size + 1, 0, none⟩ = false := blk_free qd 0
    have g1 : wc.frozen? ⟨w.heap.size + 1, 1, none⟩ = false := blk_free qd 1
    have g2 : wc.frozen? ⟨w.heap.size + 1, 2, none⟩ = false := blk_free qd 2
    have g3 : wc.frozen? ⟨w.heap.size + 1, 3, none⟩ = false := blk_free qd 3
    have QE := Lib.hid qd
    have R := Lib.hid (asked2 r1 (four_chg (a := .int .i64 0) (c := .int .i64 0) (d := .float .f64 0) (e := .bool false)) H.out.lt)
    clear r1 qd bb
    go_wp2_with fail
    exact bodyPost_ret (v := askV askNone) (do_results (a := askNone) rfl (four_set QE.out)) rfl ⟨rfl, R.out⟩
set_option maxHeartbeats 2000000 in
theorem do_13t (k : Nat) (h : Ma w m F s) (hb : trueB (topN s.s 0) = true) :
    Calls Tryz.prog 120 #[.pointer (some ⟨m, 0, none⟩), insA 13 (k : Int) x] w fun e w' => e = .returned (askV askNone) ∧ MaS w w' m F { s with s := s.s.dropLast } := by
  have hm := h.has.2
  have hmq : ¬ w.heap.size + 1 = m := by omega
  have H := Lib.hid h
  have HB := Lib.hid hb
  clear h hb
  go_enter Tryz.func120, Tryz.ntmps120
  go_wp2_with fail
  go_upto_region 15 with fail
  go_cut [48] (fun v wx => v = .bool false ∧ MaS ((w.alloc (.cells #[.int .i64 13, .int .i64 (k : Int), fl x] 73)).alloc (.cells ask0 99)) wx m F { s with s := s.s.dropLast })
  case first =>
    go_region_law (first | (go_simp; go_at_call 161; refine (mpop_any m F s _ ((H.out.quiet (((Chg.refl w Nothing).alloc _).alloc _)).drewN 1)).mono ?_; rintro e w1 ⟨rfl, r1'⟩; have r1 := Lib.hid (MaS.after (w := ((w.alloc (.cells #[.int .i64 13, .int .i64 (k : Int), fl x] 73)).alloc (.cells ask0 99))) (Chg.drewN (Chg.refl _ _) 1) r1'); have bb := boxBlk2 r1.out H.out.lt; have d0 : w1.cell? ⟨w.heap.size, 0, none⟩ = some (.int .i64 13) := blk_cell bb 0; have hb2 : w.heap.size < w1.heap.size := blk_lt bb) | (go_simp; go_at_call 160; refine (true_any _ _).mono ?_; rintro e w2 ⟨rfl, rfl⟩))
    all_goals
      rw [HB.out]
      go_wp2_with fail
      go_meet
      exact ⟨rfl, r1.out⟩
  case rest =>
    obtain ⟨rfl, r1⟩ := hcut
    have bb := boxBlk2 r1 H.out.lt
    have d1 : wc.cell? ⟨w.heap.size, 1, none⟩ = some (.int .i64 (k : Int)) := blk_cell bb 1
    have qd := askBlk2 r1 H.out.lt
    have q0 : wc.cell? ⟨w.heap.size + 1, 0, none⟩ = some (.int .i64 0) := blk_cell qd 0
    have q1 : wc.cell? ⟨w.heap.size + 1, 1, none⟩ = some (.int .i64 0) := blk_cell qd 1
    have q2 : wc.cell? ⟨w.heap.size + 1, 2, none⟩ = some (.float .f64 0) := blk_cell qd 2
    have q3 : wc.cell? ⟨w.heap.size + 1, 3, none⟩ = some (.bool false) := blk_cell qd 3
    have g0 : wc.frozen? ⟨w.heap.size + 1, 0, none⟩ = false := blk_free qd 0
    have g1 : wc.frozen? ⟨w.heap.size + 1, 1, none⟩ = false := blk_free qd 1
    have g2 : wc.frozen? ⟨w.heap.size + 1, 2, none⟩ = false := blk_free qd 2
    have g3 : wc.frozen? ⟨w.heap.size + 1, 3, none⟩ = false := blk_free qd 3
    have QE := Lib.hid qd
    have R := Lib.hid (asked2 r1 (four_chg (a := .int .i64 0) (c := .int .i64 0) (d := .float .f64 0) (e := .bool false)) H.out.lt)
    clear r1 qd bb
    go_wp2_with fail
    exact bodyPost_ret (v := askV askNone) (do_results (a := askNone) rfl (four_set QE.out)) rfl ⟨rfl, R.out⟩
set_option maxHeartbeats 2000000 in
theorem do_13f (k : Nat) (h : Ma w m F s) (hb : trueB (topN s.s 0) = false) :
    Calls Tryz.prog 120 #[.pointer (some ⟨m, 0, none⟩), insA 13 (k : Int) x] w fun e w' => e = .returned (askV askNone) ∧ MaS w w' m F { s with s := s.s.dropLast, at_ := k } := by
  have hm := h.has.2
  have hmq : ¬ w.heap.size + 1 = m := by omega
  have H := Lib.hid h
  have HB := Lib.hid hb
  clear h hb
  go_enter Tryz.func120, Tryz.ntmps120
  go_wp2_with fail
  go_upto_region 15 with fail
  go_cut [48] (fun v wx => v = .bool true ∧ MaS ((w.alloc (.cells #[.int .i64 13, .int .i64 (k : Int), fl x] 73)).alloc (.cells ask0 99)) wx m F { s with s := s.s.dropLast })
  case first =>
    go_region_law (first | (go_simp; go_at_call 161; refine (mpop_any m F s _ ((H.out.quiet (((Chg.refl w Nothing).alloc _).alloc _)).drewN 1)).mono ?_; rintro e w1 ⟨rfl, r1'⟩; have r1 := Lib.hid (MaS.after (w := ((w.alloc (.cells #[.int .i64 13, .int .i64 (k : Int), fl x] 73)).alloc (.cells ask0 99))) (Chg.drewN (Chg.refl _ _) 1) r1'); have bb := boxBlk2 r1.out H.out.lt; have d0 : w1.cell? ⟨w.heap.size, 0, none⟩ = some (.int .i64 13) := blk_cell bb 0; have hb2 : w.heap.size < w1.heap.size := blk_lt bb) | (go_simp; go_at_call 160; refine (true_any _ _).mono ?_; rintro e w2 ⟨rfl, rfl⟩))
    all_goals
      rw [HB.out]
      go_wp2_with fail
      go_meet
      exact ⟨rfl, r1.out⟩
  case rest =>
    obtain ⟨rfl, r1⟩ := hcut
    have bb := boxBlk2 r1 H.out.lt
    have d1 : wc.cell? ⟨w.heap.size, 1, none⟩ = some (.int .i64 (k : Int)) := blk_cell bb 1
    have qd := askBlk2 r1 H.out.lt
    have q0 : wc.cell? ⟨w.heap.size + 1, 0, none⟩ = some (.int .i64 0) := blk_cell qd 0
    have q1 : wc.cell? ⟨w.heap.size + 1, 1, none⟩ = some (.int .i64 0) := blk_cell qd 1
    have q2 : wc.cell? ⟨w.heap.size + 1, 2, none⟩ = some (.float .f64 0) := blk_cell qd 2
    have q3 : wc.cell? ⟨w.heap.size + 1, 3, none⟩ = some (.bool false) := blk_cell qd 3
    have g0 : wc.frozen? ⟨w.heap.size + 1, 0, none⟩ = false := blk_free qd 0
    have g1 : wc.frozen? ⟨w.heap.size + 1, 1, none⟩ = false := blk_free qd 1
    have g2 : wc.frozen? ⟨w.heap.size + 1, 2, none⟩ = false := blk_free qd 2
    have g3 : wc.frozen? ⟨w.heap.size + 1, 3, none⟩ = false := blk_free qd 3
    have y25 : wc.cell? ⟨m, 25, none⟩ = some (.int .i64 (s.at_ : Int)) := r1.ma.cell 25 (fun pn pc pb ac cc ao co ar cr => rfl)
    have f25 := r1.ma.free 25
    have r2 := r1.then (r1.ma.fld 25 (.int .i64 (k : Int)) { s with s := s.s.dropLast, at_ := k } (fun pn pc pb ac cc ao co ar cr => rfl) rfl rfl rfl rfl rfl rfl rfl)
    have QE := Lib.hid ((Below.heap_setCell _ _ _ _ hmq).trans qd : ((wc.setCell ⟨m, 25, none⟩ (.int .i64 (k : Int))).heap[w.heap.size + 1]? = some (.cells ask0 99 (0, 0))))
    have R := Lib.hid (asked2 r2 (four_chg (a := .int .i64 0) (c := .int .i64 0) (d := .float .f64 0) (e := .bool false)) H.out.lt)
    clear r1 r2 qd bb
    go_wp2_with fail
    exact bodyPost_ret (v := askV askNone) (do_results (a := askNone) rfl (four_set QE.out)) rfl ⟨rfl, R.out⟩
set_option maxHeartbeats 2000000 in
theorem do_14 (k : Nat) (h : Ma w m F s) (hl : s.calls.length < 16) :
    Calls Tryz.prog 120 #[.pointer (some ⟨m, 0, none⟩), insA 14 (k : Int) x] w fun e w' => e = .returned (askV askNone) ∧ MaS w w' m F { s with calls := s.calls ++ [(s.at_ : Int)], at_ := k } := by
  obtain ⟨hF, T, pn, pc, pb, ac, cc, ao, co, ar, cr, hM, hT⟩ := id h
  have hm := h.has.2
  have hmq : ¬ w.heap.size + 1 = m := by omega
  have hmn1 : m < w.heap.size + 1 := by omega
  have c24 : w.cell? ⟨m, 24, none⟩ = some (.pointer (some ⟨pc, 0, none⟩)) := blk_cell hM.blk 24
  have c25 : w.cell? ⟨m, 25, none⟩ = some (.int .i64 (s.at_ : Int)) := blk_cell hM.blk 25
  have H := Lib.hid h
  have HF := Lib.hid hF
  have HT := Lib.hid hT
  have HL := Lib.hid (show pushL s.calls 16 (s.at_ : Int) = s.calls ++ [(s.at_ : Int)] by unfold pushL; rw [if_pos (by omega)])
  have HD := Lib.hid (hM.frame (w' := ((w.alloc (.cells #[.int .i64 14, .int .i64 (k : Int), fl x] 73)).alloc (.cells ask0 99)).drew) (((((Chg.refl w Nothing).alloc _).alloc _).drew).size) (fun b hb => (((Chg.refl w Nothing).alloc _).alloc _).block b (hM.lt b hb) id))
  clear h hM hF hT hl
  go_enter Tryz.func120, Tryz.ntmps120
  go_wp2_with fail
  go_upto_region 18 with fail
  go_cut [] (fun wx => MaS ((w.alloc (.cells #[.int .i64 14, .int .i64 (k : Int), fl x] 73)).alloc (.cells ask0 99)) wx m F { s with calls := s.calls ++ [(s.at_ : Int)] })
  case first =>
    go_region_law (first | (go_simp; go_at_call 162; refine (SI.push_any pc _ s.calls 16 (s.at_ : Int) _ HD.out.cal).mono ?_; rintro e w1 ⟨rfl, s1, c1⟩))
    all_goals
      go_wp2_with fail
      go_meet
      rw [HL.out] at s1
      exact MaS.after (w := ((w.alloc (.cells #[.int .i64 14, .int .i64 (k : Int), fl x] 73)).alloc (.cells ask0 99))) (Chg.drew (Chg.refl _ _)) (MaS.step (T := T) (fun k hk => by have := HF.out k hk; show k < ((w.alloc _).alloc _).heap.size; simp; omega) HT.out (HD.out.cals c1 s1) (c1.mono (fun k _ hk => by omega)) MaAt.upNew (HD.out.hdr (HD.out.cals c1 s1) rfl))
  case rest =>
    have r1 := hcut
    have bb := boxBlk2 r1 H.out.lt
    have d1 : wc.cell? ⟨w.heap.size, 1, none⟩ = some (.int .i64 (k : Int)) := blk_cell bb 1
    have qd := askBlk2 r1 H.out.lt
    have q0 : wc.cell? ⟨w.heap.size + 1, 0, none⟩ = some (.int .i64 0) := blk_cell qd 0
    have q1 : wc.cell? ⟨w.heap.size + 1, 1, none⟩ = some (.int .i64 0) := blk_cell qd 1
    have q2 : wc.cell? ⟨w.heap.size + 1, 2, none⟩ = some (.float .f64 0) := blk_cell qd 2
    have q3 : wc.cell? ⟨w.heap.size + 1, 3, none⟩ = some (.bool false) := blk_cell qd 3
    have g0 : wc.frozen? ⟨w.heap.size + 1, 0, none⟩ = false := blk_free qd 0
    have g1 : wc.frozen? ⟨w.heap.size + 1, 1, none⟩ = false := blk_free qd 1
    have g2 : wc.frozen? ⟨w.heap.size + 1, 2, none⟩ = false := blk_free qd 2
    have g3 : wc.frozen? ⟨w.heap.size + 1, 3, none⟩ = false := blk_free qd 3
    have y25 : wc.cell? ⟨m, 25, none⟩ = some (.int .i64 (s.at_ : Int)) := r1.ma.cell 25 (fun pn pc pb ac cc ao co ar cr => rfl)
    have f25 := r1.ma.free 25
    have r2 := r1.then (r1.ma.fld 25 (.int .i64 (k : Int)) { s with calls := s.calls ++ [(s.at_ : Int)], at_ := k } (fun pn pc pb ac cc ao co ar cr => rfl) rfl rfl rfl rfl rfl rfl rfl)
    have QE := Lib.hid ((Below.heap_setCell _ _ _ _ hmq).trans qd : ((wc.setCell ⟨m, 25, none⟩ (.int .i64 (k : Int))).heap[w.heap.size + 1]? = some (.cells ask0 99 (0, 0))))
    have R := Lib.hid (asked2 r2 (four_chg (a := .int .i64 0) (c := .int .i64 0) (d := .float .f64 0) (e := .bool false)) H.out.lt)
    clear r1 r2 qd bb hcut
    go_wp2_with fail
    exact bodyPost_ret (v := askV askNone) (do_results (a := askNone) rfl (four_set QE.out)) rfl ⟨rfl, R.out⟩
set_option maxHeartbeats 2000000 in
theorem do_15e (h : Ma w m F s) (hl : s.calls = []) :
    Calls Tryz.prog 120 #[.pointer (some ⟨m, 0, none⟩), insA 15 n x] w fun e w' => e = .returned (askV askEnd) ∧ MaS w w' m F { s with how := (1, 0, 0) } := by
  obtain ⟨hF, T, pn, pc, pb, ac, cc, ao, co, ar, cr, hM, hT⟩ := id h
  have hm := h.has.2
  have hmq : ¬ w.heap.size + 1 = m := by omega
  have hmn1 : m < w.heap.size + 1 := by omega
  have c24 : w.cell? ⟨m, 24, none⟩ = some (.pointer (some ⟨pc, 0, none⟩)) := blk_cell hM.blk 24
  have H := Lib.hid h
  have HF := Lib.hid hF
  have HT := Lib.hid hT
  have HL := Lib.hid hl
  have HD := Lib.hid (hM.frame (w' := ((w.alloc (.cells #[.int .i64 15, .int .i64 n, fl x] 73)).alloc (.cells ask0 99))) ((((Chg.refl w Nothing).alloc _).alloc _).size) (fun b hb => (((Chg.refl w Nothing).alloc _).alloc _).block b (hM.lt b hb) id))
  clear h hM hF hT hl
  go_enter Tryz.func120, Tryz.ntmps120
  go_wp2_with fail
  with_reducible refine (SI.pop_any pc _ s.calls 16 _ HD.out.cal).mono ?_
  rintro e w1 ⟨rfl, s1, c1⟩
  have r1 := MaS.step (F := F) (w := ((w.alloc (.cells #[.int .i64 15, .int .i64 n, fl x] 73)).alloc (.cells ask0 99))) (fun k hk => by have := HF.out k hk; simp; omega) HT.out (HD.out.cals c1 s1.grow) (c1.mono (fun k _ hk => by omega)) MaAt.upNew (HD.out.hdr (HD.out.cals c1 s1.grow) rfl)
  have e1 : popE s.calls = 41 := by rw [HL.out]; rfl
  have e2 : s.calls.dropLast = s.calls := by rw [HL.out]; rfl
  rw [e2] at r1
  rw [e1]
  have R1 := Lib.hid r1
  clear r1 s1 c1 e1 e2
  go_wp2_with fail
  with_reducible refine (mends_any m _ _ 1 0 0 _ R1.out.ma).mono ?_
  rintro e w2 ⟨he, r2'⟩
  obtain rfl : e = .returned (.agg #[.int .i64 4, .int .i64 0, .float .f64 0, .bool false]) := he
  have r2 := R1.out.then r2'
  have qd := askBlk2 r2 H.out.lt
  have q0 : w2.cell? ⟨w.heap.size + 1, 0, none⟩ = some (.int .i64 0) := blk_cell qd 0
  have q1 : w2.cell? ⟨w.heap.size + 1, 1, none⟩ = some (.int .i64 0) := blk_cell qd 1
  have q2 : w2.cell? ⟨w.heap.size + 1, 2, none⟩ = some (.float .f64 0) := blk_cell qd 2
  have q3 : w2.cell? ⟨w.heap.size + 1, 3, none⟩ = some (.bool false) := blk_cell qd 3
  have g0 : w2.frozen? ⟨w.heap.size + 1, 0, none⟩ = false := blk_free qd 0
  have g1 : w2.frozen? ⟨w.heap.size + 1, 1, none⟩ = false := blk_free qd 1
  have g2 : w2.frozen? ⟨w.heap.size + 1, 2, none⟩ = false := blk_free qd 2
  have g3 : w2.frozen? ⟨w.heap.size + 1, 3, none⟩ = false := blk_free qd 3
  have QE := Lib.hid qd
  have R := Lib.hid (asked2 r2 (four_chg (a := .int .i64 4) (c := .int .i64 0) (d := .float .f64 0) (e := .bool false)) H.out.lt)
  clear r2 r2' qd
  go_wp2_with fail
  exact bodyPost_ret (v := askV askEnd) (do_results (a := askEnd) rfl (four_set QE.out)) rfl ⟨rfl, R.out⟩
set_option maxHeartbeats 2000000 in
theorem do_15s (k : Nat) (zs : List Int) (h : Ma w m F s) (hl : s.calls = zs ++ [(k : Int)]) :
    Calls Tryz.prog 120 #[.pointer (some ⟨m, 0, none⟩), insA 15 n x] w fun e w' => e = .returned (askV askNone) ∧ MaS w w' m F { s with calls := zs, at_ := k } := by
  obtain ⟨hF, T, pn, pc, pb, ac, cc, ao, co, ar, cr, hM, hT⟩ := id h
  have hm := h.has.2
  have hmq : ¬ w.heap.size + 1 = m := by omega
  have hmn1 : m < w.heap.size + 1 := by omega
  have c24 : w.cell? ⟨m, 24, none⟩ = some (.pointer (some ⟨pc, 0, none⟩)) := blk_cell hM.blk 24
  have H := Lib.hid h
  have HF := Lib.hid hF
  have HT := Lib.hid hT
  have HL := Lib.hid hl
  have HD := Lib.hid (hM.frame (w' := ((w.alloc (.cells #[.int .i64 15, .int .i64 n, fl x] 73)).alloc (.cells ask0 99))) ((((Chg.refl w Nothing).alloc _).alloc _).size) (fun b hb => (((Chg.refl w Nothing).alloc _).alloc _).block b (hM.lt b hb) id))
  clear h hM hF hT hl
  go_enter Tryz.func120, Tryz.ntmps120
  go_wp2_with fail
  with_reducible refine (SI.pop_any pc _ s.calls 16 _ HD.out.cal).mono ?_
  rintro e w1 ⟨rfl, s1, c1⟩
  have r1 := MaS.step (F := F) (w := ((w.alloc (.cells #[.int .i64 15, .int .i64 n, fl x] 73)).alloc (.cells ask0 99))) (fun k hk => by have := HF.out k hk; simp; omega) HT.out (HD.out.cals c1 s1.grow) (c1.mono (fun k _ hk => by omega)) MaAt.upNew (HD.out.hdr (HD.out.cals c1 s1.grow) rfl)
  have e1 : popE s.calls = 0 := by rw [HL.out]; unfold popE; simp
  have e2 : s.calls.dropLast = zs := by rw [HL.out]; simp
  have e3 : popV 0 s.calls = (k : Int) := by rw [HL.out]; unfold popV; simp
  rw [e2] at r1
  rw [e1, e3]
  have qd := askBlk2 r1 H.out.lt
  have q0 : w1.cell? ⟨w.heap.size + 1, 0, none⟩ = some (.int .i64 0) := blk_cell qd 0
  have q1 : w1.cell? ⟨w.heap.size + 1, 1, none⟩ = some (.int .i64 0) := blk_cell qd 1
  have q2 : w1.cell? ⟨w.heap.size + 1, 2, none⟩ = some (.float .f64 0) := blk_cell qd 2
  have q3 : w1.cell? ⟨w.heap.size + 1, 3, none⟩ = some (.bool false) := blk_cell qd 3
  have g0 : w1.frozen? ⟨w.heap.size + 1, 0, none⟩ = false := blk_free qd 0
  have g1 : w1.frozen? ⟨w.heap.size + 1, 1, none⟩ = false := blk_free qd 1
  have g2 : w1.frozen? ⟨w.heap.size + 1, 2, none⟩ = false := blk_free qd 2
  have g3 : w1.frozen? ⟨w.heap.size + 1, 3, none⟩ = false := blk_free qd 3
  have y25 : w1.cell? ⟨m, 25, none⟩ = some (.int .i64 (s.at_ : Int)) := r1.ma.cell 25 (fun pn pc pb ac cc ao co ar cr => rfl)
  have f25 := r1.ma.free 25
  have r2 := r1.then (r1.ma.fld 25 (.int .i64 (k : Int)) { s with calls := zs, at_ := k } (fun pn pc pb ac cc ao co ar cr => rfl) rfl rfl rfl rfl rfl rfl rfl)
  have QE := Lib.hid ((Below.heap_setCell _ _ _ _ hmq).trans qd : ((w1.setCell ⟨m, 25, none⟩ (.int .i64 (k : Int))).heap[w.heap.size + 1]? = some (.cells ask0 99 (0, 0))))
  have R := Lib.hid (asked2 r2 (four_chg (a := .int .i64 0) (c := .int .i64 0) (d := .float .f64 0) (e := .bool false)) H.out.lt)
  clear r1 r2 qd s1 c1 e1 e2 e3
  go_wp2_with fail
  exact bodyPost_ret (v := askV askNone) (do_results (a := askNone) rfl (four_set QE.out)) rfl ⟨rfl, R.out⟩
end
end Go.Proofs.YtgeapkalabijmaaGreat

/- The machine's Step. -/
namespace Go.Proofs.YtgeapkalabijmaaGreat
open Go Go.RowKit
set_option maxRecDepth 100000
set_option maxHeartbeats 1000000
set_option linter.unusedVariables false
set_option linter.unusedSimpArgs false

theorem lit20 (a b c : Value) : #[a, b] ++ ((Array.replicate 18 undef).setIfInBounds 3 c).setIfInBounds 0 c = #[a, b, c, undef, undef, c, undef, undef, undef, undef, undef, undef, undef, undef, undef, undef, undef, undef, undef, undef] := rfl
theorem catch_idle (b a : Nat) (w : World) :
    CallsD Tryz.prog 116 #[.pointer (some ⟨b, 0, none⟩), .pointer (some ⟨a, 0, none⟩)] .returning w fun e u' w' => e = .returned (.tuple #[]) ∧ u' = .returning ∧ w' = w := by
  refine callsD_of_wpS Tryz.func116 rfl fun c₀ cs hu => ?_
  apply wpS_seq
  apply wpS_region
  simp [wpOpsS, go_sem, recoverD, hu, Tryz.ntmps116, Exit.thenS]
  refine wpS_of_wp ?_
  rw [lit20]
  generalize hQ : (fun e a' w' => bodyPostS Tryz.prog Tryz.f116 c₀ cs (fun e u' w' => e = Ending.returned (Value.tuple #[]) ∧ u' = FrameMode.returning ∧ w' = w) e a' (c₀ :: cs) w') = Q
  have HQ := Lib.hid hQ
  clear hQ
  go_wp2
  rw [← HQ.out]
  refine ⟨rfl, .returning, ?_, ?_⟩
  · cases c₀
    simp_all
  · exact ⟨.tuple #[], by simp [results, Tryz.results116, go_sem], rfl, rfl, rfl⟩
set_option maxHeartbeats 2000000 in
theorem catch_fault (m : Nat) (F : Nat → Prop) (s : Mc) (n : Int) (b a : Nat) (T : TypeId) (older : List PanicEntry) (w : World) (h : Ma w m F s) (hb : w.cell? ⟨b, 0, none⟩ = some (.pointer (some ⟨m, 0, none⟩))) (ha : w.heap[a]? = some (.cells ask0 T (0, 0))) (hF : ¬ F a) :
    CallsD Tryz.prog 116 #[.pointer (some ⟨b, 0, none⟩), .pointer (some ⟨a, 0, none⟩)] (.panicking ({ v := .iface 144 (.int .i64 n), recovered := false } :: older)) w fun e u' w' => e = .returned (.tuple #[]) ∧ u' = .panicking ({ v := .iface 144 (.int .i64 n), recovered := true } :: older) ∧
      ∃ w1, MaS w w1 m F (s.fails n) ∧ Chg w1 w' (fun k => k = a) ∧ w'.heap[a]? = some (.cells #[.int .i64 4, .int .i64 0, .float .f64 0, .bool false] T (0, 0)) := by
  refine callsD_of_wpS Tryz.func116 rfl fun c₀ cs hu => ?_
  apply wpS_seq
  apply wpS_region
  simp [wpOpsS, go_sem, recoverD, hu, Tryz.ntmps116, Exit.thenS]
  refine wpS_of_wp ?_
  rw [lit20]
  have H := Lib.hid h
  have HA := Lib.hid ha
  have HF := Lib.hid hF
  have hal := blk_lt ha
  clear h ha hF hu
  obtain ⟨Q, hQ⟩ : ∃ Q : Exit → Act → World → Prop, ∀ e a' w', Q e a' w' ↔ bodyPostS Tryz.prog Tryz.f116 c₀ cs (fun e u' w' => e = .returned (.tuple #[]) ∧ u' = .panicking ({ v := .iface 144 (.int .i64 n), recovered := true } :: older) ∧
      ∃ w1, MaS w w1 m F (s.fails n) ∧ Chg w1 w' (fun k => k = a) ∧ w'.heap[a]? = some (.cells #[.int .i64 4, .int .i64 0, .float .f64 0, .bool false] T (0, 0))) e a' ({ c₀ with mode := .panicking ({ v := .iface 144 (.int .i64 n), recovered := true } :: older) } :: cs) w' := ⟨_, fun _ _ _ => Iff.rfl⟩
  refine Code.wp_mono (Q := Q) (fun e a' w' h => (hQ e a' w').1 h) ?_
  have HQ := Lib.hid hQ
  have hta : ∀ w, (Instr.typeAssert (.iface 144 (.int .i64 n)) 20 144 true).run Tryz.prog w = .ok (.tuple #[.int .i64 n, .bool true]) w := fun w => by rfl
  clear hQ
  go_wp2_with fail
  with_reducible refine (mends_any m F s 3 0 n w H.out).mono ?_
  rintro e w1 ⟨he, r1⟩
  obtain rfl : e = .returned (.agg #[.int .i64 4, .int .i64 0, .float .f64 0, .bool false]) := he
  have qd : w1.heap[a]? = some (.cells ask0 T (0, 0)) := (r1.chg.block _ hal HF.out).trans HA.out
  have q0 : w1.cell? ⟨a, 0, none⟩ = some (.int .i64 0) := blk_cell qd 0
  have q1 : w1.cell? ⟨a, 1, none⟩ = some (.int .i64 0) := blk_cell qd 1
  have q2 : w1.cell? ⟨a, 2, none⟩ = some (.float .f64 0) := blk_cell qd 2
  have q3 : w1.cell? ⟨a, 3, none⟩ = some (.bool false) := blk_cell qd 3
  have g0 : w1.frozen? ⟨a, 0, none⟩ = false := blk_free qd 0
  have g1 : w1.frozen? ⟨a, 1, none⟩ = false := blk_free qd 1
  have g2 : w1.frozen? ⟨a, 2, none⟩ = false := blk_free qd 2
  have g3 : w1.frozen? ⟨a, 3, none⟩ = false := blk_free qd 3
  have R := Lib.hid (And.intro r1 (And.intro (four_chg (w := w1) (b := a) (a := .int .i64 4) (c := .int .i64 0) (d := .float .f64 0) (e := .bool false)) (four_set (a := .int .i64 4) (c := .int .i64 0) (d := .float .f64 0) (e := .bool false) qd)))
  clear r1 qd
  go_wp2_with fail
  rw [HQ.out]
  exact ⟨rfl, _, rfl, .tuple #[], by simp [results, Tryz.results116, go_sem], rfl, rfl, _, R.out⟩
end Go.Proofs.YtgeapkalabijmaaGreat

/- The machine's Step, case by case. -/
namespace Go.Proofs.YtgeapkalabijmaaGreat
open Go Go.RowKit
set_option maxRecDepth 100000
set_option maxHeartbeats 1000000
set_option linter.unusedVariables false
set_option linter.unusedSimpArgs false

theorem step_results {tmps : Array Value} {W : World} {r0 : Nat} {a : AskD} {T : TypeId} {fr : Nat × Nat} (h : tmps.getD 2 undef = .pointer (some ⟨r0, 0, none⟩)) (hb : W.heap[r0]? = some (.cells #[.int .i64 a.kind, .int .i64 a.cell, fl a.x, .bool a.first] T fr)) :
    (results Tryz.f61 tmps).run Tryz.prog W = .ok (askV a) W := by
  have h' : tmps[2]?.getD undef = .pointer (some ⟨r0, 0, none⟩) := by simpa using h
  have hl := run_loadVar_row (P := Tryz.prog) W r0 T 99 #[.int .i64 a.kind, .int .i64 a.cell, fl a.x, .bool a.first] fr _ hb Tryz.underlying99 rfl (by kernel_rfl)
  have k0 : W.cell? ⟨r0, 0, none⟩ = some (.int .i64 a.kind) := blk_cell hb 0
  have k1 : W.cell? ⟨r0, 1, none⟩ = some (.int .i64 a.cell) := blk_cell hb 1
  have k2 : W.cell? ⟨r0, 2, none⟩ = some (fl a.x) := blk_cell hb 2
  have k3 : W.cell? ⟨r0, 3, none⟩ = some (.bool a.first) := blk_cell hb 3
  simp [results, Tryz.results61, h', asAddr, hl, k0, k1, k2, k3, go_sem, askV]
/-- It leaves early: nothing is deferred. -/
theorem step_early {tmps : Array Value} {W : World} {r0 : Nat} (a : AskD) {T : TypeId} {fr : Nat × Nat} {R : Ending → World → Prop} (h : tmps.getD 2 undef = .pointer (some ⟨r0, 0, none⟩)) (hb : W.heap[r0]? = some (.cells #[.int .i64 a.kind, .int .i64 a.cell, fl a.x, .bool a.first] T fr)) (hR : R (.returned (askV a)) W) :
    bodyPostD Tryz.prog Tryz.f61 R .ret { tmps := tmps, defers := [] } W := ⟨_, step_results h hb, hR⟩
abbrev stepD (bx r0 : Nat) : Deferred := { target := .fn (.func 116) #[.pointer (some ⟨bx, 0, none⟩), .pointer (some ⟨r0, 0, none⟩)], args := #[] }
/-- It leaves: the closure finds no fault. -/
theorem step_done {tmps : Array Value} {W : World} {bx r0 : Nat} (a : AskD) {T : TypeId} {fr : Nat × Nat} {R : Ending → World → Prop} (h : tmps.getD 2 undef = .pointer (some ⟨r0, 0, none⟩)) (hb : W.heap[r0]? = some (.cells #[.int .i64 a.kind, .int .i64 a.cell, fl a.x, .bool a.first] T fr)) (hR : R (.returned (askV a)) W) :
    bodyPostD Tryz.prog Tryz.f61 R .normal { tmps := tmps, defers := [stepD bx r0] } W := by
  refine leaves_cons (f := 116) (args := #[.pointer (some ⟨bx, 0, none⟩), .pointer (some ⟨r0, 0, none⟩)]) (by simp) (by simp [go_sem]) ?_
  refine (catch_idle bx r0 W).mono ?_
  rintro e u' w'' ⟨rfl, rfl, rfl⟩
  exact ⟨_, step_results h hb, hR⟩
/-- It leaves with a fault, which the closure takes. -/
theorem step_fault {tmps : Array Value} {W : World} {m bx r0 : Nat} {F : Nat → Prop} {s : Mc} {n : Int} {R : Ending → World → Prop} (h : tmps.getD 2 undef = .pointer (some ⟨r0, 0, none⟩)) (hm : Ma W m F s) (hb : W.cell? ⟨bx, 0, none⟩ = some (.pointer (some ⟨m, 0, none⟩))) (ha : W.heap[r0]? = some (.cells ask0 99 (0, 0))) (hF : ¬ F r0)
    (hR : ∀ w1 w', MaS W w1 m F (s.fails n) → Chg w1 w' (fun k => k = r0) → R (.returned (askV askEnd)) w') :
    bodyPostD Tryz.prog Tryz.f61 R (.panic (faultC n)) { tmps := tmps, defers := [stepD bx r0] } W := by
  refine leaves_cons (f := 116) (args := #[.pointer (some ⟨bx, 0, none⟩), .pointer (some ⟨r0, 0, none⟩)]) (by simp) (by simp [go_sem]) ?_
  refine (catch_fault m F s n bx r0 99 [] W hm hb ha hF).mono ?_
  rintro e u' w'' ⟨rfl, rfl, w1, r1, r2, r3⟩
  exact ⟨_, step_results (a := askEnd) h r3, hR w1 w'' r1 r2⟩
theorem step_blk {w : World} {o : Obj} {cs : Array Value} {T : TypeId} : ((w.alloc o).alloc (.cells cs T)).heap[w.heap.size + 1]? = some (.cells cs T (0, 0)) := by
  have h : (w.alloc o).heap.size = w.heap.size + 1 := World.size_alloc w o
  rw [← h]
  exact heap_alloc_new _ _

theorem Ma.codes {w : World} {m : Nat} {F : Nat → Prop} {s : Mc} (h : Ma w m F s) : ∃ ac cc, w.cell? ⟨m, 5, none⟩ = some (.slice ac s.code.length cc) ∧ Sees w ac (insV s.code) := by
  obtain ⟨hF, T, pn, pc, pb, ac, cc, ao, co, ar, cr, hM, hT⟩ := h
  exact ⟨ac, cc, blk_cell hM.blk 5, Sees.of_owns hM.code.1⟩
/-- The world once the instruction is fetched. -/
abbrev fet (w : World) (m : Nat) (x : Ins) (nd : Nat) : World := (((w.alloc (.cells #[.pointer (some ⟨m, 0, none⟩)] 95)).alloc (.cells ask0 99)).alloc (.cells #[.int .i64 x.1, .int .i64 x.2.1, fl x.2.2] 73)).drewN nd
theorem fet_size {w : World} {m : Nat} {x : Ins} {nd : Nat} : (fet w m x nd).heap.size = w.heap.size + 3 := by simp [fet]
theorem fet_chg {w : World} {m : Nat} {x : Ins} {nd : Nat} : Chg w (fet w m x nd) Nothing := ((((Chg.refl w Nothing).alloc _).alloc _).alloc _).drewN _
theorem fet_ask {w : World} {m : Nat} {x : Ins} {nd : Nat} : (fet w m x nd).heap[w.heap.size + 1]? = some (.cells ask0 99 (0, 0)) := by
  have h := Below.heap_alloc ((w.alloc (.cells #[.pointer (some ⟨m, 0, none⟩)] 95)).alloc (.cells ask0 99)) (.cells #[.int .i64 x.1, .int .i64 x.2.1, fl x.2.2] 73) (w.heap.size + 1) (by simp)
  exact h.trans step_blk
theorem fet_box {w : World} {m : Nat} {x : Ins} {nd : Nat} : (fet w m x nd).heap[w.heap.size]? = some (.cells #[.pointer (some ⟨m, 0, none⟩)] 95 (0, 0)) := by
  have h1 := Below.heap_alloc ((w.alloc (.cells #[.pointer (some ⟨m, 0, none⟩)] 95)).alloc (.cells ask0 99)) (.cells #[.int .i64 x.1, .int .i64 x.2.1, fl x.2.2] 73) (w.heap.size) (by simp; omega)
  have h2 := Below.heap_alloc (w.alloc (.cells #[.pointer (some ⟨m, 0, none⟩)] 95)) (.cells ask0 99) (w.heap.size) (by simp)
  exact h1.trans (h2.trans (heap_alloc_new w _))
theorem fet_ins {w : World} {m : Nat} {x : Ins} {nd : Nat} : (fet w m x nd).heap[w.heap.size + 2]? = some (.cells #[.int .i64 x.1, .int .i64 x.2.1, fl x.2.2] 73 (0, 0)) := by
  have h := heap_alloc_new ((w.alloc (.cells #[.pointer (some ⟨m, 0, none⟩)] 95)).alloc (.cells ask0 99)) (.cells #[.int .i64 x.1, .int .i64 x.2.1, fl x.2.2] 73)
  have e : ((w.alloc (.cells #[.pointer (some ⟨m, 0, none⟩)] 95)).alloc (.cells ask0 99)).heap.size = w.heap.size + 2 := by simp
  rw [e] at h
  exact h
theorem fet_step {W : World} {m : Nat} {F : Nat → Prop} {s : Mc} (h : Ma W m F s) : MaS W ((W.setCell ⟨m, 26, none⟩ (.int .i64 ((s.used : Int) + 1))).setCell ⟨m, 25, none⟩ (.int .i64 ((s.at_ : Int) + 1))) m F { s with used := s.used + 1, at_ := s.at_ + 1 } := by
  have a := h.fld 26 (.int .i64 ((s.used : Int) + 1)) { s with used := s.used + 1 } (fun pn pc pb ac cc ao co ar cr => rfl) rfl rfl rfl rfl rfl rfl rfl
  exact a.then (a.ma.fld 25 (.int .i64 ((s.at_ : Int) + 1)) { s with used := s.used + 1, at_ := s.at_ + 1 } (fun pn pc pb ac cc ao co ar cr => rfl) rfl rfl rfl rfl rfl rfl rfl)
theorem fet_lands {w w2 w' : World} {m : Nat} {F : Nat → Prop} {s' : Mc} {x : Ins} {nd : Nat} (h : MaS (fet w m x nd) w2 m F s') (hc : Chg w2 w' (fun k => k = w.heap.size + 1)) (hF : ∀ k, F k → k < w.heap.size) : MaS w w' m F s' :=
  asked2 (MaS.after (((Chg.refl ((w.alloc (.cells #[.pointer (some ⟨m, 0, none⟩)] 95)).alloc (.cells ask0 99)) Nothing).alloc _).drewN _) h) hc hF
section
variable (m : Nat) (F : Nat → Prop) (s : Mc) (w : World)
theorem step_waits (h : Ma w m F s) (hw : s.waits = true) :
    Calls Tryz.prog 61 #[.pointer (some ⟨m, 0, none⟩)] w fun e w' => e = .returned (askV ⟨1, s.cell, 0, false⟩) ∧ MaS w w' m F s := by
  have c27 : w.cell? ⟨m, 27, none⟩ = some (.bool true) := h.cell 27 (fun pn pc pb ac cc ao co ar cr => by rw [← hw]; rfl)
  have c28 : w.cell? ⟨m, 28, none⟩ = some (.int .i64 s.cell) := h.cell 28 (fun pn pc pb ac cc ao co ar cr => rfl)
  have hm := h.has.2
  have hm1 : m < w.heap.size + 1 := by omega
  have H := Lib.hid h
  clear h hw
  have hmf : ∀ (fn : Fn) (first cap : Array Value) (w : World), (Instr.makeFunc fn first cap).run Tryz.prog w = .ok (.func fn first cap) w := fun _ _ _ _ => rfl
  go_enter_defers Tryz.func61, Tryz.ntmps61
  go_wp2_with fail
  exact step_early ⟨1, s.cell, 0, false⟩ rfl step_blk ⟨rfl, MaS.of H.out (((Chg.refl w Nothing).alloc _).alloc _)⟩
theorem step_ended (h : Ma w m F s) (hw : s.waits = false) (hh : s.how.1 ≠ 0) :
    Calls Tryz.prog 61 #[.pointer (some ⟨m, 0, none⟩)] w fun e w' => e = .returned (askV askEnd) ∧ MaS w w' m F s := by
  have c27 : w.cell? ⟨m, 27, none⟩ = some (.bool false) := h.cell 27 (fun pn pc pb ac cc ao co ar cr => by rw [← hw]; rfl)
  have c29 : w.cell? ⟨m, 29, none⟩ = some (.int .i64 s.how.1) := h.cell 29 (fun pn pc pb ac cc ao co ar cr => rfl)
  have hm := h.has.2
  have hm1 : m < w.heap.size + 1 := by omega
  have H := Lib.hid h
  clear h hw
  have hmf : ∀ (fn : Fn) (first cap : Array Value) (w : World), (Instr.makeFunc fn first cap).run Tryz.prog w = .ok (.func fn first cap) w := fun _ _ _ _ => rfl
  go_enter_defers Tryz.func61, Tryz.ntmps61
  go_wp2_with fail
  exact step_early askEnd rfl step_blk ⟨rfl, MaS.of H.out (((Chg.refl w Nothing).alloc _).alloc _)⟩
theorem step_bad (h : Ma w m F s) (hw : s.waits = false) (hh : s.how.1 = 0) (hb : s.bad = true) :
    Calls Tryz.prog 61 #[.pointer (some ⟨m, 0, none⟩)] w fun e w' => e = .returned (askV askEnd) ∧ MaS w w' m F (s.fails 50) := by
  have c27 : w.cell? ⟨m, 27, none⟩ = some (.bool false) := h.cell 27 (fun pn pc pb ac cc ao co ar cr => by rw [← hw]; rfl)
  have c29 : w.cell? ⟨m, 29, none⟩ = some (.int .i64 0) := h.cell 29 (fun pn pc pb ac cc ao co ar cr => by rw [← hh]; rfl)
  have c6 : w.cell? ⟨m, 6, none⟩ = some (.bool true) := h.cell 6 (fun pn pc pb ac cc ao co ar cr => by rw [← hb]; rfl)
  have hm := h.has.2
  have hm1 : m < w.heap.size + 1 := by omega
  have H := Lib.hid h
  clear h hw hh hb
  have hmf : ∀ (fn : Fn) (first cap : Array Value) (w : World), (Instr.makeFunc fn first cap).run Tryz.prog w = .ok (.func fn first cap) w := fun _ _ _ _ => rfl
  go_enter_defers Tryz.func61, Tryz.ntmps61
  go_wp2_with fail
  with_reducible refine (must_bad 50 _ (by decide)).mono ?_
  rintro e w1 ⟨rfl, rfl⟩
  exact step_fault (m := m) (F := F) (s := s) rfl (H.out.quiet (((Chg.refl w Nothing).alloc _).alloc _)) (by simp [go_sem]) step_blk (fun hk => by have := H.out.lt _ hk; omega) (fun w1 w' r1 r2 => ⟨rfl, asked2 r1 r2 H.out.lt⟩)
theorem step_fuel (h : Ma w m F s) (hw : s.waits = false) (hh : s.how.1 = 0) (hb : s.bad = false) (hu : (s.used : Int) = s.fuel) :
    Calls Tryz.prog 61 #[.pointer (some ⟨m, 0, none⟩)] w fun e w' => e = .returned (askV askEnd) ∧ MaS w w' m F (s.fails 80) := by
  have c27 : w.cell? ⟨m, 27, none⟩ = some (.bool false) := h.cell 27 (fun pn pc pb ac cc ao co ar cr => by rw [← hw]; rfl)
  have c29 : w.cell? ⟨m, 29, none⟩ = some (.int .i64 0) := h.cell 29 (fun pn pc pb ac cc ao co ar cr => by rw [← hh]; rfl)
  have c6 : w.cell? ⟨m, 6, none⟩ = some (.bool false) := h.cell 6 (fun pn pc pb ac cc ao co ar cr => by rw [← hb]; rfl)
  have c2 : w.cell? ⟨m, 2, none⟩ = some (.int .i64 s.fuel) := h.cell 2 (fun pn pc pb ac cc ao co ar cr => rfl)
  have c26 : w.cell? ⟨m, 26, none⟩ = some (.int .i64 s.fuel) := h.cell 26 (fun pn pc pb ac cc ao co ar cr => by rw [← hu]; rfl)
  have hm := h.has.2
  have hm1 : m < w.heap.size + 1 := by omega
  have H := Lib.hid h
  clear h hw hh hb hu
  have hmf : ∀ (fn : Fn) (first cap : Array Value) (w : World), (Instr.makeFunc fn first cap).run Tryz.prog w = .ok (.func fn first cap) w := fun _ _ _ _ => rfl
  go_enter_defers Tryz.func61, Tryz.ntmps61
  go_wp2_with fail
  go_quiet (fail)
  go_wp2_with fail
  with_reducible refine (must_bad 80 _ (by decide)).mono ?_
  rintro e w1 ⟨rfl, rfl⟩
  exact step_fault (m := m) (F := F) (s := s) rfl (H.out.quiet ((((Chg.refl w Nothing).alloc _).alloc _).drewN _)) (by simp [go_sem]) step_blk (fun hk => by have := H.out.lt _ hk; omega) (fun w1 w' r1 r2 => ⟨rfl, asked2 (MaS.after ((Chg.refl _ _).drewN _) r1) r2 H.out.lt⟩)
theorem step_past (h : Ma w m F s) (hw : s.waits = false) (hh : s.how.1 = 0) (hb : s.bad = false) (hu : ((s.used : Int) == s.fuel) = false) (ha : s.at_ = s.code.length) :
    Calls Tryz.prog 61 #[.pointer (some ⟨m, 0, none⟩)] w fun e w' => e = .returned (askV askEnd) ∧ MaS w w' m F (s.fails 50) := by
  obtain ⟨ac, cc, c5⟩ := h.codes
  have c27 : w.cell? ⟨m, 27, none⟩ = some (.bool false) := h.cell 27 (fun pn pc pb ac cc ao co ar cr => by rw [← hw]; rfl)
  have c29 : w.cell? ⟨m, 29, none⟩ = some (.int .i64 0) := h.cell 29 (fun pn pc pb ac cc ao co ar cr => by rw [← hh]; rfl)
  have c6 : w.cell? ⟨m, 6, none⟩ = some (.bool false) := h.cell 6 (fun pn pc pb ac cc ao co ar cr => by rw [← hb]; rfl)
  have c2 : w.cell? ⟨m, 2, none⟩ = some (.int .i64 s.fuel) := h.cell 2 (fun pn pc pb ac cc ao co ar cr => rfl)
  have c26 : w.cell? ⟨m, 26, none⟩ = some (.int .i64 (s.used : Int)) := h.cell 26 (fun pn pc pb ac cc ao co ar cr => rfl)
  have c25 : w.cell? ⟨m, 25, none⟩ = some (.int .i64 (s.code.length : Int)) := h.cell 25 (fun pn pc pb ac cc ao co ar cr => by rw [← ha]; rfl)
  have hm := h.has.2
  have hm1 : m < w.heap.size + 1 := by omega
  have H := Lib.hid h
  have C5 := Lib.hid c5.2
  have c5 := c5.1
  clear h hw hh hb ha
  have hmf : ∀ (fn : Fn) (first cap : Array Value) (w : World), (Instr.makeFunc fn first cap).run Tryz.prog w = .ok (.func fn first cap) w := fun _ _ _ _ => rfl
  go_enter_defers Tryz.func61, Tryz.ntmps61
  go_wp2_with fail
  go_quiet (fail)
  go_wp2_with fail
  go_quiet (fail)
  go_wp2_with fail
  with_reducible refine (must_bad 50 _ (by decide)).mono ?_
  rintro e w1 ⟨rfl, rfl⟩
  exact step_fault (m := m) (F := F) (s := s) rfl (H.out.quiet ((((Chg.refl w Nothing).alloc _).alloc _).drewN _)) (by simp [go_sem]) step_blk (fun hk => by have := H.out.lt _ hk; omega) (fun w1 w' r1 r2 => ⟨rfl, asked2 (MaS.after ((Chg.refl _ _).drewN _) r1) r2 H.out.lt⟩)
set_option maxHeartbeats 2000000 in
theorem step_go (P : AskD → Mc → Prop) (x : Ins) (ho : OpOk x) (hl : s.code.length ≤ 1024) (hus : s.used < 4096) (h : Ma w m F s) (hw : s.waits = false) (hh : s.how.1 = 0) (hb : s.bad = false) (hu : ((s.used : Int) == s.fuel) = false) (hx : s.code[s.at_]? = some x)
    (hno : roomOk s x = false → P askEnd ({ s with used := s.used + 1, at_ := s.at_ + 1 }.fails 82))
    (hdo : roomOk s x = true → ∀ W F', Ma W m F' { s with used := s.used + 1, at_ := s.at_ + 1 } → Calls Tryz.prog 120 #[.pointer (some ⟨m, 0, none⟩), insA x.1 x.2.1 x.2.2] W fun e w' =>
      (∃ a s', P a s' ∧ e = .returned (askV a) ∧ MaS W w' m F' s') ∨ (∃ c, P askEnd ({ s with used := s.used + 1, at_ := s.at_ + 1 }.fails c) ∧ e = .panicked (faultC c) ∧ Chg W w' Nothing)) :
    Calls Tryz.prog 61 #[.pointer (some ⟨m, 0, none⟩)] w fun e w' => ∃ a s', P a s' ∧ e = .returned (askV a) ∧ MaS w w' m F s' := by
  obtain ⟨ac, cc, c5, hs⟩ := h.codes
  have hal : s.at_ < s.code.length := (List.getElem?_eq_some_iff.1 hx).1
  have ha : ((s.at_ : Int) == (s.code.length : Int)) = false := by simp; omega
  obtain ⟨b, o, rfl, x0, x1, x2⟩ := ins_cells hs hx
  have c27 : w.cell? ⟨m, 27, none⟩ = some (.bool false) := h.cell 27 (fun pn pc pb ac cc ao co ar cr => by rw [← hw]; rfl)
  have c29 : w.cell? ⟨m, 29, none⟩ = some (.int .i64 0) := h.cell 29 (fun pn pc pb ac cc ao co ar cr => by rw [← hh]; rfl)
  have c6 : w.cell? ⟨m, 6, none⟩ = some (.bool false) := h.cell 6 (fun pn pc pb ac cc ao co ar cr => by rw [← hb]; rfl)
  have c2 : w.cell? ⟨m, 2, none⟩ = some (.int .i64 s.fuel) := h.cell 2 (fun pn pc pb ac cc ao co ar cr => rfl)
  have c26 : w.cell? ⟨m, 26, none⟩ = some (.int .i64 (s.used : Int)) := h.cell 26 (fun pn pc pb ac cc ao co ar cr => rfl)
  have c25 : w.cell? ⟨m, 25, none⟩ = some (.int .i64 (s.at_ : Int)) := h.cell 25 (fun pn pc pb ac cc ao co ar cr => rfl)
  have hm := h.has.2
  have hm1 : m < w.heap.size + 1 := by omega
  have hbs : b < w.heap.size := cell_lt x0
  have hbs1 : b < w.heap.size + 1 := by omega
  have f25 := h.free 25
  have f26 := h.free 26
  have hm2 : m < w.heap.size + 1 + 1 := by omega
  have hmn : ¬ m = w.heap.size := by omega
  have hmn1 : ¬ m = w.heap.size + 1 := by omega
  have hmn2 : ¬ m = w.heap.size + 2 := by omega
  have hw1 : wrap64 ((s.used : Int) + 1) = ((s.used + 1 : Nat) : Int) := by rw [IntWalk.wrap64_in _ ⟨by omega, by omega⟩]; rfl
  have hw2 : wrap64 ((s.at_ : Int) + 1) = ((s.at_ + 1 : Nat) : Int) := by rw [IntWalk.wrap64_in _ ⟨by omega, by omega⟩]; rfl
  have H := Lib.hid h
  have HO := Lib.hid ho
  have HNO := Lib.hid hno
  have HDO := Lib.hid hdo
  clear h hw hh hb hx hs hl hus ho hno hdo
  have hmf : ∀ (fn : Fn) (first cap : Array Value) (w : World), (Instr.makeFunc fn first cap).run Tryz.prog w = .ok (.func fn first cap) w := fun _ _ _ _ => rfl
  go_enter_defers Tryz.func61, Tryz.ntmps61
  go_wp2_with fail
  go_quiet (fail)
  go_wp2_with fail
  go_quiet (fail)
  go_wp2_with fail
  go_cut [3] from 52 to 63 (fun v wx => v = .pointer (some ⟨w.heap.size + 2, 0, none⟩) ∧ ∃ n, wx = (((w.alloc (.cells #[.pointer (some ⟨m, 0, none⟩)] 95)).alloc (.cells ask0 99)).alloc (.cells #[.int .i64 x.1, .int .i64 x.2.1, fl x.2.2] 73)).drewN n)
  case first =>
    go_region
    all_goals (go_wp2_with fail; go_meet; exact ⟨rfl, _, rfl⟩)
  case rest =>
    obtain ⟨rfl, nd, rfl⟩ := hcut
    go_wp2_with fail
    have r0 := fet_step (H.out.quiet (fet_chg (m := m) (x := x) (nd := nd)))
    with_reducible refine (mready_any m _ _ x.1 x.2.1 x.2.2 _ r0.ma HO.out).mono ?_
    rintro e w1 ⟨he, c1⟩
    have r1 := r0.quiet c1
    have hoff : ¬ Grow F (fet w m x nd) w1 (w.heap.size + 1) := by
      rintro (hk | hk)
      · have := H.out.lt _ hk; omega
      · have := hk.1; rw [fet_size] at this; omega
    have hof0 : ∀ k, k = w.heap.size ∨ k = w.heap.size + 1 ∨ k = w.heap.size + 2 → ¬ F k := fun k hk hf => by have := H.out.lt _ hf; omega
    have qa : w1.heap[w.heap.size + 1]? = some (.cells ask0 99 (0, 0)) := (r1.chg.block _ (by rw [fet_size]; omega) (hof0 _ (by omega))).trans fet_ask
    have qb : w1.heap[w.heap.size]? = some (.cells #[.pointer (some ⟨m, 0, none⟩)] 95 (0, 0)) := (r1.chg.block _ (by rw [fet_size]; omega) (hof0 _ (by omega))).trans fet_box
    have qi : w1.heap[w.heap.size + 2]? = some (.cells #[.int .i64 x.1, .int .i64 x.2.1, fl x.2.2] 73 (0, 0)) := (r1.chg.block _ (by rw [fet_size]; omega) (hof0 _ (by omega))).trans fet_ins
    have p0 : w1.cell? ⟨w.heap.size, 0, none⟩ = some (.pointer (some ⟨m, 0, none⟩)) := blk_cell qb 0
    cases hr : roomOk s x with
    | false =>
      obtain rfl : e = .panicked (faultC 82) := he.trans (ready_no hr)
      exact step_fault (m := m) (F := Grow F (fet w m x nd) w1) rfl r1.ma p0 qa hoff (fun wA w' rA rB => ⟨_, _, HNO.out hr, rfl, fet_lands (r1.then rA) rB H.out.lt⟩)
    | true =>
      obtain rfl : e = .returned (.tuple #[]) := he.trans (ready_yes hr)
      have i0 : w1.cell? ⟨w.heap.size + 2, 0, none⟩ = some (.int .i64 x.1) := blk_cell qi 0
      have i1 : w1.cell? ⟨w.heap.size + 2, 1, none⟩ = some (.int .i64 x.2.1) := blk_cell qi 1
      have i2 : w1.cell? ⟨w.heap.size + 2, 2, none⟩ = some (fl x.2.2) := blk_cell qi 2
      have R1 := Lib.hid r1
      have QA := Lib.hid qa
      have QB := Lib.hid qb
      have HF0 := Lib.hid hof0
      have HR := Lib.hid hr
      have HOFF := Lib.hid hoff
      clear r0 r1 qa qb qi c1 hof0 hr he hoff
      go_wp2_with fail
      with_reducible refine (HDO.out HR.out w1 _ R1.out.ma).mono ?_
      rintro e w2 (⟨a, s', hP, he, r2'⟩ | ⟨c, hP, rfl, c2⟩)
      · have r2 := R1.out.then r2'
        obtain rfl : e = .returned (.agg #[.int .i64 a.kind, .int .i64 a.cell, fl a.x, .bool a.first]) := he
        have qd : w2.heap[w.heap.size + 1]? = some (.cells ask0 99 (0, 0)) := (r2.chg.block _ (by rw [fet_size]; omega) (HF0.out _ (by omega))).trans fet_ask
        have q0 : w2.cell? ⟨w.heap.size + 1, 0, none⟩ = some (.int .i64 0) := blk_cell qd 0
        have q1 : w2.cell? ⟨w.heap.size + 1, 1, none⟩ = some (.int .i64 0) := blk_cell qd 1
        have q2 : w2.cell? ⟨w.heap.size + 1, 2, none⟩ = some (.float .f64 0) := blk_cell qd 2
        have q3 : w2.cell? ⟨w.heap.size + 1, 3, none⟩ = some (.bool false) := blk_cell qd 3
        have g0 : w2.frozen? ⟨w.heap.size + 1, 0, none⟩ = false := blk_free qd 0
        have g1 : w2.frozen? ⟨w.heap.size + 1, 1, none⟩ = false := blk_free qd 1
        have g2 : w2.frozen? ⟨w.heap.size + 1, 2, none⟩ = false := blk_free qd 2
        have g3 : w2.frozen? ⟨w.heap.size + 1, 3, none⟩ = false := blk_free qd 3
        have QE := Lib.hid qd
        have HP := Lib.hid hP
        have R := Lib.hid (fet_lands r2 (four_chg (a := .int .i64 a.kind) (c := .int .i64 a.cell) (d := fl a.x) (e := .bool a.first)) H.out.lt)
        clear r2 r2' qd hP
        go_wp2_with fail
        exact step_done a rfl (four_set QE.out) ⟨_, _, HP.out, rfl, R.out⟩
      · have r2 := R1.out.quiet c2
        have hoff : ¬ Grow F (fet w m x nd) w2 (w.heap.size + 1) := by
          rintro (hk | hk)
          · have := H.out.lt _ hk; omega
          · have := hk.1; rw [fet_size] at this; omega
        have qa : w2.heap[w.heap.size + 1]? = some (.cells ask0 99 (0, 0)) := (r2.chg.block _ (by rw [fet_size]; omega) (HF0.out _ (by omega))).trans fet_ask
        have qb : w2.heap[w.heap.size]? = some (.cells #[.pointer (some ⟨m, 0, none⟩)] 95 (0, 0)) := (r2.chg.block _ (by rw [fet_size]; omega) (HF0.out _ (by omega))).trans fet_box
        exact step_fault (m := m) (F := Grow F (fet w m x nd) w2) rfl r2.ma (blk_cell qb 0) qa hoff (fun wA w' rA rB => ⟨_, _, hP, rfl, fet_lands (r2.then rA) rB H.out.lt⟩)
end
end Go.Proofs.YtgeapkalabijmaaGreat

/- What the machine does, whole. -/
namespace Go.Proofs.YtgeapkalabijmaaGreat
open Go Go.RowKit
set_option maxRecDepth 100000
set_option maxHeartbeats 1000000
set_option linter.unusedVariables false
set_option linter.unusedSimpArgs false

/-- What a program's instruction keeps. -/
structure MayF (op n len : Int) : Prop where
  lo : 1 ≤ op
  hi : op ≤ 20
  pick : op = 5 → 0 ≤ n ∧ n ≤ 63
  arg : op = 6 ∨ op = 7 ∨ op = 8 → 0 ≤ n ∧ n ≤ 7
  jump : op = 11 ∨ op = 12 ∨ op = 13 ∨ op = 14 → 0 ≤ n ∧ n < len
theorem may_facts {op n len : Int} {x : Nat} (h : mayB op n x len = true) : MayF op n len := by
  have h0 := h
  unfold mayB at h0
  simp only [Bool.and_eq_true, decide_eq_true_eq] at h0
  refine ⟨h0.1, h0.2.1, ?_, ?_, ?_⟩
  · rintro rfl
    have := h0.2.2.2
    simpa [mostOf, mostL] using this
  · rintro (rfl | rfl | rfl)
    all_goals
      have := h0.2.2.2
      simpa [mostOf, mostL] using this
  · rintro (rfl | rfl | rfl | rfl)
    all_goals
      have := h0.2.2.2
      simpa [mostOf, mostL] using this
theorem MayF.ok {op n len : Int} {x : Nat} (h : MayF op n len) : OpOk (op, n, x) := ⟨h.lo, h.hi, h.pick⟩
theorem room_facts {s : Mc} {x : Ins} (h : roomOk s x = true) : needOf x ≤ s.s.length ∧ (s.s.length : Int) - takesOf x.1 + laysOf x.1 ≤ 64 ∧ (x.1 = 14 → s.calls.length ≠ 16) := by
  unfold roomOk at h
  simp only [Bool.and_eq_true, decide_eq_true_eq, Bool.not_eq_true', Bool.and_eq_false_iff, beq_eq_false_iff_ne, ne_eq] at h
  exact ⟨h.1.1, h.1.2, fun e => h.2.resolve_left (fun f => f e)⟩
theorem topN_mem {l : List Nat} {n : Nat} (h : n < l.length) : topN l n ∈ l := by
  unfold topN
  rw [List.getD_eq_getElem?_getD, List.getElem?_eq_getElem (by omega)]
  exact List.getElem_mem _
/-- What do answers. -/
abbrev DoE (m : Nat) (F : Nat → Prop) (s : Mc) (x : Ins) (w : World) : Prop := Calls Tryz.prog 120 #[.pointer (some ⟨m, 0, none⟩), insA x.1 x.2.1 x.2.2] w fun e w' =>
  (∃ a s', doP s x = (s', a) ∧ e = .returned (askV a) ∧ MaS w w' m F s') ∨ (∃ c, doP s x = (s.fails c, askEnd) ∧ e = .panicked (faultC c) ∧ Chg w w' Nothing)
theorem DoE.of {m : Nat} {F : Nat → Prop} {s s' : Mc} {x : Ins} {w : World} {a : AskD} (e : doP s x = (s', a)) (h : Calls Tryz.prog 120 #[.pointer (some ⟨m, 0, none⟩), insA x.1 x.2.1 x.2.2] w fun e w' => e = .returned (askV a) ∧ MaS w w' m F s') : DoE m F s x w :=
  h.mono (fun _ _ hh => .inl ⟨a, s', e, hh.1, hh.2⟩)
theorem DoE.ofBad {m : Nat} {F : Nat → Prop} {s : Mc} {x : Ins} {w : World} {c : Int} (e : doP s x = (s.fails c, askEnd)) (h : Calls Tryz.prog 120 #[.pointer (some ⟨m, 0, none⟩), insA x.1 x.2.1 x.2.2] w fun e w' => e = .panicked (faultC c) ∧ Chg w w' Nothing) : DoE m F s x w :=
  h.mono (fun _ _ hh => .inr ⟨c, e, hh.1, hh.2⟩)
section
variable (m : Nat) (F : Nat → Prop) (s : Mc) (n : Int) (v : Nat) (w : World)
theorem do_read (h : Ma w m F s) (hl : 0 < s.s.length) (hrd : s.reads.length < 4096) : DoE m F s (16, n, v) w := by
  have hd : doP s (16, n, v) = readP s := rfl
  by_cases hi : idxE (topN s.s 0) s.cells = 0
  · cases hb : getN s.buf (idxI (topN s.s 0) s.cells) with
    | none => exact DoE.of (by rw [hd]; unfold readP; rw [if_pos hi]; simp only [hb]) (do_16 m F s n v w _ _ h (fun W hW => mread_none m F s W hW hl hi hb))
    | some y => exact DoE.of (by rw [hd]; unfold readP; rw [if_pos hi]; simp only [hb]) (do_16 m F s n v w _ _ h (fun W hW => mread_own m F s W hW hl hi y hb hrd))
  · exact DoE.ofBad (by rw [hd]; unfold readP; rw [if_neg hi]) (do_16f m F s n v w 50 h (fun W hW => mread_bad m F s W hW hl hi))
theorem do_write (h : Ma w m F s) (hl : 2 ≤ s.s.length) (hx : fixB (topN s.s 1) = topN s.s 1) : DoE m F s (17, n, v) w := by
  have hd : doP s (17, n, v) = writeP s := rfl
  have hfit := h.fits.2.2.1
  by_cases ht : s.tag = 2
  · by_cases hi : idxE (topN s.s 0) s.cells = 0
    · cases hb : getN s.buf (idxI (topN s.s 0) s.cells) with
      | none =>
        by_cases hf : (s.buf.length : Int) = s.writes
        · exact DoE.ofBad (by rw [hd]; unfold writeP; rw [if_pos ht, if_pos hi]; simp only [hb]; rw [if_pos hf]) (do_17f m F s n v w 70 h (fun W hW => mwrite_full m F s W hW ht hl hi hb hf))
        · exact DoE.of (by rw [hd]; unfold writeP; rw [if_pos ht, if_pos hi]; simp only [hb]; rw [if_neg hf]) (do_17 m F s n v w _ _ h (fun W hW => mwrite_new m F s W hW ht hl hi hb (by omega) hx))
      | some y => exact DoE.of (by rw [hd]; unfold writeP; rw [if_pos ht, if_pos hi]; simp only [hb]) (do_17 m F s n v w _ _ h (fun W hW => mwrite_known m F s W hW ht hl hi y hb hx))
    · exact DoE.ofBad (by rw [hd]; unfold writeP; rw [if_pos ht, if_neg hi]) (do_17f m F s n v w 50 h (fun W hW => mwrite_bad m F s W hW ht (by omega) hi))
  · exact DoE.ofBad (by rw [hd]; unfold writeP; rw [if_neg ht]) (do_17f m F s n v w 81 h (fun W hW => mwrite_tag m F s W hW ht))
theorem do_any (op len : Int) (h : Ma w m F s) (hm : MayF op n len) (hr : roomOk s (op, n, v) = true) (hn : ∀ y ∈ s.s, Num y) (hout : s.out.length < 4096) (hrd : s.reads.length < 4096) (hca : ∀ a ∈ s.calls, 0 ≤ a) : DoE m F s (op, n, v) w := by
  obtain ⟨h1, h20, h5, h6, h11⟩ := hm
  obtain ⟨g1, g2, g3⟩ := room_facts hr
  simp only at g1 g2 g3
  have hfit := h.fits.2.1
  clear hr
  rcases (by omega : op = 1 ∨ 2 ≤ op) with rfl | h1
  · have g1 : 0 ≤ (s.s.length : Int) := g1
    have g2 : (s.s.length : Int) - 0 + 1 ≤ 64 := g2
    exact DoE.of rfl (do_reckon m F s n v w 1 _ h (by decide) (by decide) (by decide) (by decide) (by decide) (by decide) (by decide) (by decide) (by decide) (fun W hW => rk_1 m F s n v W hW (by omega)))
  rcases (by omega : op = 2 ∨ 3 ≤ op) with rfl | h1
  · have g1 : 1 ≤ (s.s.length : Int) := g1
    have g2 : (s.s.length : Int) - 1 + 0 ≤ 64 := g2
    exact DoE.of rfl (do_reckon m F s n v w 2 _ h (by decide) (by decide) (by decide) (by decide) (by decide) (by decide) (by decide) (by decide) (by decide) (fun W hW => rk_2 m F s n v W hW))
  rcases (by omega : op = 3 ∨ 4 ≤ op) with rfl | h1
  · have g1 : 1 ≤ (s.s.length : Int) := g1
    have g2 : (s.s.length : Int) - 1 + 2 ≤ 64 := g2
    exact DoE.of rfl (do_reckon m F s n v w 3 _ h (by decide) (by decide) (by decide) (by decide) (by decide) (by decide) (by decide) (by decide) (by decide) (fun W hW => rk_3 m F s n v W hW (by omega) (by omega)))
  rcases (by omega : op = 4 ∨ 5 ≤ op) with rfl | h1
  · have g1 : 2 ≤ (s.s.length : Int) := g1
    have g2 : (s.s.length : Int) - 2 + 2 ≤ 64 := g2
    exact DoE.of rfl (do_reckon m F s n v w 4 _ h (by decide) (by decide) (by decide) (by decide) (by decide) (by decide) (by decide) (by decide) (by decide) (fun W hW => rk_4 m F s n v W hW (by omega)))
  rcases (by omega : op = 5 ∨ 6 ≤ op) with rfl | h1
  · have g1 : n + 1 ≤ (s.s.length : Int) := g1
    have g2 : (s.s.length : Int) - 0 + 1 ≤ 64 := g2
    have hk := h5 rfl
    obtain ⟨k, rfl⟩ := Int.eq_ofNat_of_zero_le hk.1
    exact DoE.of rfl (do_reckon m F s (k : Int) v w 5 _ h (by decide) (by decide) (by decide) (by decide) (by decide) (by decide) (by decide) (by decide) (by decide) (fun W hW => rk_5 m F s v W k hW (by omega) (by omega)))
  rcases (by omega : op = 6 ∨ 7 ≤ op) with rfl | h1
  · have g1 : 0 ≤ (s.s.length : Int) := g1
    have g2 : (s.s.length : Int) - 0 + 1 ≤ 64 := g2
    have hk := h6 (by decide)
    obtain ⟨k, rfl⟩ := Int.eq_ofNat_of_zero_le hk.1
    exact DoE.of rfl (do_reckon m F s (k : Int) v w 6 _ h (by decide) (by decide) (by decide) (by decide) (by decide) (by decide) (by decide) (by decide) (by decide) (fun W hW => rk_6 m F s v W k hW (by omega) (by omega)))
  rcases (by omega : op = 7 ∨ 8 ≤ op) with rfl | h1
  · have g1 : 0 ≤ (s.s.length : Int) := g1
    have g2 : (s.s.length : Int) - 0 + 1 ≤ 64 := g2
    have hk := h6 (by decide)
    obtain ⟨k, rfl⟩ := Int.eq_ofNat_of_zero_le hk.1
    exact DoE.of rfl (do_reckon m F s (k : Int) v w 7 _ h (by decide) (by decide) (by decide) (by decide) (by decide) (by decide) (by decide) (by decide) (by decide) (fun W hW => rk_7 m F s v W k hW (by omega) (by omega)))
  rcases (by omega : op = 8 ∨ 9 ≤ op) with rfl | h1
  · have g1 : 1 ≤ (s.s.length : Int) := g1
    have g2 : (s.s.length : Int) - 1 + 0 ≤ 64 := g2
    have hk := h6 (by decide)
    obtain ⟨k, rfl⟩ := Int.eq_ofNat_of_zero_le hk.1
    exact DoE.of rfl (do_reckon m F s (k : Int) v w 8 _ h (by decide) (by decide) (by decide) (by decide) (by decide) (by decide) (by decide) (by decide) (by decide) (fun W hW => rk_8 m F s v W k hW (by omega)))
  rcases (by omega : op = 9 ∨ 10 ≤ op) with rfl | h1
  · have g1 : 1 ≤ (s.s.length : Int) := g1
    have g2 : (s.s.length : Int) - 1 + 1 ≤ 64 := g2
    exact DoE.of rfl (do_reckon m F s n v w 9 _ h (by decide) (by decide) (by decide) (by decide) (by decide) (by decide) (by decide) (by decide) (by decide) (fun W hW => rk_9 m F s n v W hW (by omega)))
  rcases (by omega : op = 10 ∨ 11 ≤ op) with rfl | h1
  · have g1 : 2 ≤ (s.s.length : Int) := g1
    have g2 : (s.s.length : Int) - 2 + 1 ≤ 64 := g2
    exact DoE.of rfl (do_reckon m F s n v w 10 _ h (by decide) (by decide) (by decide) (by decide) (by decide) (by decide) (by decide) (by decide) (by decide) (fun W hW => rk_10 m F s n v W hW (by omega) (hn _ (topN_mem (by omega))).2 (hn _ (topN_mem (by omega))).2))
  rcases (by omega : op = 11 ∨ 12 ≤ op) with rfl | h1
  · have g1 : 0 ≤ (s.s.length : Int) := g1
    have g2 : (s.s.length : Int) - 0 + 0 ≤ 64 := g2
    have hk := h11 (by decide)
    obtain ⟨k, rfl⟩ := Int.eq_ofNat_of_zero_le hk.1
    exact DoE.of rfl (do_11 m F s v w k h)
  rcases (by omega : op = 12 ∨ 13 ≤ op) with rfl | h1
  · have g1 : 1 ≤ (s.s.length : Int) := g1
    have g2 : (s.s.length : Int) - 1 + 0 ≤ 64 := g2
    have hk := h11 (by decide)
    obtain ⟨k, rfl⟩ := Int.eq_ofNat_of_zero_le hk.1
    cases hb : trueB (topN s.s 0) with
    | true => exact DoE.of (by show (_, _) = (_, _); rw [if_pos hb] <;> rfl) (do_12t m F s v w k h hb)
    | false => exact DoE.of (by show (_, _) = (_, _); rw [if_neg (by rw [hb]; decide)] <;> rfl) (do_12f m F s v w k h hb)
  rcases (by omega : op = 13 ∨ 14 ≤ op) with rfl | h1
  · have g1 : 1 ≤ (s.s.length : Int) := g1
    have g2 : (s.s.length : Int) - 1 + 0 ≤ 64 := g2
    have hk := h11 (by decide)
    obtain ⟨k, rfl⟩ := Int.eq_ofNat_of_zero_le hk.1
    cases hb : trueB (topN s.s 0) with
    | true => exact DoE.of (by show (_, _) = (_, _); rw [if_pos hb] <;> rfl) (do_13t m F s v w k h hb)
    | false => exact DoE.of (by show (_, _) = (_, _); rw [if_neg (by rw [hb]; decide)] <;> rfl) (do_13f m F s v w k h hb)
  rcases (by omega : op = 14 ∨ 15 ≤ op) with rfl | h1
  · have g1 : 0 ≤ (s.s.length : Int) := g1
    have g2 : (s.s.length : Int) - 0 + 0 ≤ 64 := g2
    have hk := h11 (by decide)
    obtain ⟨k, rfl⟩ := Int.eq_ofNat_of_zero_le hk.1
    exact DoE.of rfl (do_14 m F s v w k h (by have := g3 rfl; omega))
  rcases (by omega : op = 15 ∨ 16 ≤ op) with rfl | h1
  · have g1 : 0 ≤ (s.s.length : Int) := g1
    have g2 : (s.s.length : Int) - 0 + 0 ≤ 64 := g2
    cases hl : s.calls.getLast? with
    | none =>
      have he : s.calls = [] := List.getLast?_eq_none_iff.1 hl
      exact DoE.of (by show (match s.calls.getLast? with | none => _ | some a => _) = _; rw [hl]) (do_15e m F s n v w h he)
    | some a =>
      obtain ⟨zs, he⟩ := List.getLast?_eq_some_iff.1 hl
      obtain ⟨k, rfl⟩ := Int.eq_ofNat_of_zero_le (hca a (by rw [he]; simp))
      exact DoE.of (s' := { s with calls := zs, at_ := k }) (by show (match s.calls.getLast? with | none => _ | some a => _) = _; rw [hl, he]; simp) (do_15s m F s n v w k zs h he)
  rcases (by omega : op = 16 ∨ 17 ≤ op) with rfl | h1
  · have g1 : 1 ≤ (s.s.length : Int) := g1
    have g2 : (s.s.length : Int) - 1 + 1 ≤ 64 := g2
    exact do_read m F s n v w h (by omega) hrd
  rcases (by omega : op = 17 ∨ 18 ≤ op) with rfl | h1
  · have g1 : 2 ≤ (s.s.length : Int) := g1
    have g2 : (s.s.length : Int) - 2 + 0 ≤ 64 := g2
    exact do_write m F s n v w h (by omega) (hn _ (topN_mem (by omega))).1
  rcases (by omega : op = 18 ∨ 19 ≤ op) with rfl | h1
  · have g1 : 1 ≤ (s.s.length : Int) := g1
    have g2 : (s.s.length : Int) - 1 + 0 ≤ 64 := g2
    exact DoE.of rfl (do_reckon m F s n v w 18 _ h (by decide) (by decide) (by decide) (by decide) (by decide) (by decide) (by decide) (by decide) (by decide) (fun W hW => rk_18 m F s n v W hW hout))
  rcases (by omega : op = 19 ∨ 20 ≤ op) with rfl | h1
  · have g1 : 0 ≤ (s.s.length : Int) := g1
    have g2 : (s.s.length : Int) - 0 + 0 ≤ 64 := g2
    exact DoE.of rfl (do_19 m F s n v w h)
  obtain rfl : op = 20 := by omega
  · have g1 : 0 ≤ (s.s.length : Int) := g1
    have g2 : (s.s.length : Int) - 0 + 0 ≤ 64 := g2
    exact DoE.of rfl (do_20 m F s n v w h)
end
end Go.Proofs.YtgeapkalabijmaaGreat

/- The machine's Step, whole; what it keeps. -/
namespace Go.Proofs.YtgeapkalabijmaaGreat
open Go Go.RowKit
set_option maxRecDepth 100000
set_option maxHeartbeats 1000000
set_option linter.unusedVariables false
set_option linter.unusedSimpArgs false

/-- A machine as it may be. -/
structure Mc.Ok (s : Mc) : Prop where
  xs : ∀ t ∈ s.code, t.2.2 < 18446744073709551616
  num : ∀ y ∈ s.s, Num y
  arg : ∀ k, Num (s.args k)
  loc : ∀ k, Num (s.locals k)
  fuel : s.fuel ≤ 1024
  used : (s.used : Int) ≤ s.fuel
  outs : s.out.length ≤ s.used
  rds : s.reads.length + (if s.waits then 1 else 0) ≤ s.used
  call : ∀ a ∈ s.calls, 0 ≤ a
  at_ : s.bad = false → s.at_ ≤ s.code.length ∧ ∀ a ∈ s.calls, a ≤ s.code.length
  buf : ∀ p ∈ s.buf, Num p.2
  outN : ∀ y ∈ s.out, Num y
  rdN : ∀ p ∈ s.reads, Num p.2
theorem topN_num {l : List Nat} (h : ∀ y ∈ l, Num y) (n : Nat) : Num (topN l n) := by
  unfold topN
  rw [List.getD_eq_getElem?_getD]
  cases e : l[l.length - 1 - n]? with
  | none => exact Num.zero
  | some y => exact h y (List.mem_of_getElem? e)
theorem bad_facts {s : Mc} (h : s.bad = false) : s.code.length ≤ 1024 ∧ ∀ t ∈ s.code, mayB t.1 t.2.1 t.2.2 s.code.length = true := by
  unfold Mc.bad checkE at h
  split at h
  · rename_i h'; exact ⟨h'.2.2.1, h'.2.2.2⟩
  · simp at h
theorem stepP_go {s : Mc} {x : Ins} (hw : s.waits = false) (hh : s.how.1 = 0) (hb : s.bad = false) (hu : (s.used : Int) ≠ s.fuel) (hx : s.code[s.at_]? = some x) :
    stepP s = if roomOk s x then doP { s with used := s.used + 1, at_ := s.at_ + 1 } x else ({ s with used := s.used + 1, at_ := s.at_ + 1 }.fails 82, askEnd) := by
  unfold stepP
  rw [if_neg (by rw [hw]; decide), if_neg (by rw [hh]; decide), if_neg (by rw [hb]; decide), if_neg hu]
  simp only [hx]
theorem stepP_past {s : Mc} (hw : s.waits = false) (hh : s.how.1 = 0) (hb : s.bad = false) (hu : (s.used : Int) ≠ s.fuel) (hx : s.at_ = s.code.length) : stepP s = (s.fails 50, askEnd) := by
  unfold stepP
  rw [if_neg (by rw [hw]; decide), if_neg (by rw [hh]; decide), if_neg (by rw [hb]; decide), if_neg hu]
  have : s.code[s.at_]? = none := List.getElem?_eq_none_iff.2 (by omega)
  simp only [this]
theorem step_any (m : Nat) (F : Nat → Prop) (s : Mc) (w : World) (h : Ma w m F s) (ok : s.Ok) :
    Calls Tryz.prog 61 #[.pointer (some ⟨m, 0, none⟩)] w fun e w' => e = .returned (askV (stepP s).2) ∧ MaS w w' m F (stepP s).1 := by
  cases hw : s.waits with
  | true =>
    have e : stepP s = (s, ⟨1, s.cell, 0, false⟩) := by unfold stepP; rw [if_pos hw]
    rw [e]; exact step_waits m F s w h hw
  | false =>
    by_cases hh : s.how.1 = 0
    · cases hb : s.bad with
      | true =>
        have e : stepP s = (s.fails 50, askEnd) := by unfold stepP; rw [if_neg (by rw [hw]; decide), if_neg (by rw [hh]; decide), if_pos hb]
        rw [e]; exact step_bad m F s w h hw hh hb
      | false =>
        by_cases hu : (s.used : Int) = s.fuel
        · have e : stepP s = (s.fails 80, askEnd) := by unfold stepP; rw [if_neg (by rw [hw]; decide), if_neg (by rw [hh]; decide), if_neg (by rw [hb]; decide), if_pos hu]
          rw [e]; exact step_fuel m F s w h hw hh hb hu
        · by_cases ha : s.at_ = s.code.length
          · rw [stepP_past hw hh hb hu ha]; exact step_past m F s w h hw hh hb (by simpa using hu) ha
          · have hat := (ok.at_ hb).1
            obtain ⟨x, hx⟩ : ∃ x, s.code[s.at_]? = some x := ⟨_, List.getElem?_eq_getElem (by omega)⟩
            obtain ⟨hl, hmay⟩ := bad_facts hb
            have hmx := may_facts (hmay x (List.mem_of_getElem? hx))
            have hus := ok.used
            have hfu := ok.fuel
            have ho := ok.outs
            have hrd := ok.rds
            have E := stepP_go hw hh hb hu hx
            refine (step_go m F s w (fun a s' => stepP s = (s', a)) x hmx.ok hl (by omega) h hw hh hb (by simpa using hu) hx ?_ ?_).mono ?_
            · intro hr
              rw [E, if_neg (by rw [hr]; decide)]
            · intro hr W F' hW
              rw [E, if_pos hr]
              exact do_any m F' _ x.2.1 x.2.2 W x.1 _ hW hmx hr ok.num (by show s.out.length < 4096; omega) (by show s.reads.length < 4096; split at hrd <;> omega) ok.call
            · rintro e w' ⟨a, s', hP, he, hS⟩
              rw [hP]
              exact ⟨he, hS⟩
    · have e : stepP s = (s, askEnd) := by unfold stepP; rw [if_neg (by rw [hw]; decide), if_pos hh]
      rw [e]; exact step_ended m F s w h hw hh
end Go.Proofs.YtgeapkalabijmaaGreat

/- What a machine keeps. -/
namespace Go.Proofs.YtgeapkalabijmaaGreat
open Go Go.RowKit
set_option maxRecDepth 100000
set_option maxHeartbeats 1000000
set_option linter.unusedVariables false
set_option linter.unusedSimpArgs false

theorem num_drop {l : List Nat} (h : ∀ y ∈ l, Num y) : ∀ y ∈ l.dropLast, Num y := fun y hy => h y ((List.dropLast_sublist l).subset hy)
theorem num_snoc {l : List Nat} {x : Nat} (h : ∀ y ∈ l, Num y) (hx : Num x) : ∀ y ∈ l ++ [x], Num y := fun y hy => by
  rcases List.mem_append.1 hy with hy | hy
  · exact h y hy
  · rw [List.mem_singleton.1 hy]; exact hx
theorem num_snoc2 {l : List (Int × Nat)} {c : Int} {x : Nat} (h : ∀ p ∈ l, Num p.2) (hx : Num x) : ∀ p ∈ l ++ [(c, x)], Num p.2 := fun y hy => by
  rcases List.mem_append.1 hy with hy | hy
  · exact h y hy
  · rw [List.mem_singleton.1 hy]; exact hx
theorem put_num {l : List (Int × Nat)} {c : Int} {x : Nat} (h : ∀ p ∈ l, Num p.2) (hx : Num x) : ∀ p ∈ putN l c x, Num p.2 := by
  unfold putN
  cases pos l c with
  | none => exact num_snoc2 h hx
  | some i =>
    intro p hp
    rcases List.mem_or_eq_of_mem_set hp with hp | rfl
    · exact h p hp
    · exact hx
theorem get_num {l : List (Int × Nat)} {c : Int} {x : Nat} (h : ∀ p ∈ l, Num p.2) (hx : getN l c = some x) : Num x := by
  obtain ⟨i, _, hi⟩ := getN_some hx
  exact h (c, x) (List.mem_of_getElem? hi)
theorem loc_num {f : Nat → Nat} {n v : Nat} (h : ∀ k, Num (f k)) (hv : Num v) : ∀ k, Num (locSet f n v k) := fun k => by
  unfold locSet
  split
  · exact hv
  · exact h k
namespace Mc.Ok
variable {s : Mc}
theorem ofS (ok : s.Ok) {zs : List Nat} (h : ∀ y ∈ zs, Num y) : Mc.Ok { s with s := zs } := ⟨ok.xs, h, ok.arg, ok.loc, ok.fuel, ok.used, ok.outs, ok.rds, ok.call, ok.at_, ok.buf, ok.outN, ok.rdN⟩
theorem ofHow (ok : s.Ok) (e : Int × Int × Int) : Mc.Ok { s with how := e } := ⟨ok.xs, ok.num, ok.arg, ok.loc, ok.fuel, ok.used, ok.outs, ok.rds, ok.call, ok.at_, ok.buf, ok.outN, ok.rdN⟩
theorem fails (ok : s.Ok) (e : Int) : (s.fails e).Ok := ok.ofHow _
theorem ofLoc (ok : s.Ok) {f : Nat → Nat} (h : ∀ k, Num (f k)) : Mc.Ok { s with locals := f } := ⟨ok.xs, ok.num, ok.arg, h, ok.fuel, ok.used, ok.outs, ok.rds, ok.call, ok.at_, ok.buf, ok.outN, ok.rdN⟩
theorem ofAt (ok : s.Ok) {k : Nat} (h : k ≤ s.code.length) : Mc.Ok { s with at_ := k } := ⟨ok.xs, ok.num, ok.arg, ok.loc, ok.fuel, ok.used, ok.outs, ok.rds, ok.call, fun hb => ⟨h, (ok.at_ hb).2⟩, ok.buf, ok.outN, ok.rdN⟩
theorem ofCall (ok : s.Ok) {zs : List Int} (h : ∀ a ∈ zs, 0 ≤ a ∧ (s.bad = false → a ≤ s.code.length)) : Mc.Ok { s with calls := zs } := ⟨ok.xs, ok.num, ok.arg, ok.loc, ok.fuel, ok.used, ok.outs, ok.rds, fun a ha => (h a ha).1, fun hb => ⟨(ok.at_ hb).1, fun a ha => (h a ha).2 hb⟩, ok.buf, ok.outN, ok.rdN⟩
theorem ofOut (ok : s.Ok) {x : Nat} (h : s.out.length < s.used) (hx : Num x) : Mc.Ok { s with out := s.out ++ [x] } := ⟨ok.xs, ok.num, ok.arg, ok.loc, ok.fuel, ok.used, by show (s.out ++ [x]).length ≤ s.used; simp; omega, ok.rds, ok.call, ok.at_, ok.buf, num_snoc ok.outN hx, ok.rdN⟩
theorem ofBuf (ok : s.Ok) {l : List (Int × Nat)} (h : ∀ p ∈ l, Num p.2) : Mc.Ok { s with buf := l } := ⟨ok.xs, ok.num, ok.arg, ok.loc, ok.fuel, ok.used, ok.outs, ok.rds, ok.call, ok.at_, h, ok.outN, ok.rdN⟩
theorem ofRead (ok : s.Ok) {c : Int} {x : Nat} (h : s.reads.length < s.used) (hw : s.waits = false) (hx : Num x) : Mc.Ok { s with reads := s.reads ++ [(c, x)] } := ⟨ok.xs, ok.num, ok.arg, ok.loc, ok.fuel, ok.used, ok.outs, by show (s.reads ++ [(c, x)]).length + (if s.waits then 1 else 0) ≤ s.used; rw [hw]; simp; omega, ok.call, ok.at_, ok.buf, ok.outN, num_snoc2 ok.rdN hx⟩
theorem ofWait (ok : s.Ok) {c : Int} (h : s.reads.length < s.used) : Mc.Ok { s with waits := true, cell := c } := ⟨ok.xs, ok.num, ok.arg, ok.loc, ok.fuel, ok.used, ok.outs, by show s.reads.length + (if true then 1 else 0) ≤ s.used; simp; omega, ok.call, ok.at_, ok.buf, ok.outN, ok.rdN⟩
end Mc.Ok
theorem ite_ok {c : Prop} [Decidable c] {a b : Mc} (ha : c → a.Ok) (hb : ¬ c → b.Ok) : (if c then a else b).Ok := by
  by_cases h : c
  · rw [if_pos h]; exact ha h
  · rw [if_neg h]; exact hb h
theorem ite_ok1 {c : Prop} [Decidable c] {a b : Mc × AskD} (ha : c → a.1.Ok) (hb : ¬ c → b.1.Ok) : (if c then a else b).1.Ok := by
  by_cases h : c
  · rw [if_pos h]; exact ha h
  · rw [if_neg h]; exact hb h
theorem reckon_ok {s : Mc} {x : Ins} (ok : s.Ok) (hx : x.2.2 < 18446744073709551616) (ho : s.out.length < s.used) : (reckonP s x).Ok := by
  have t := fun n => topN_num ok.num n
  unfold reckonP
  refine ite_ok (fun _ => ?_) (fun _ => ?_)
  · exact ok.ofS (num_snoc ok.num (Num.fix hx))
  refine ite_ok (fun _ => ?_) (fun _ => ?_)
  · exact ok.ofS (num_drop ok.num)
  refine ite_ok (fun _ => ?_) (fun _ => ?_)
  · exact ok.ofS (num_snoc ok.num (t 0))
  refine ite_ok (fun _ => ?_) (fun _ => ?_)
  · refine ok.ofS (fun y hy => ?_)
    rcases List.mem_append.1 hy with hy | hy
    · exact num_drop (num_drop ok.num) y hy
    · simp only [List.mem_cons, List.not_mem_nil, or_false] at hy
      rcases hy with rfl | rfl
      · exact t 0
      · exact t 1
  refine ite_ok (fun _ => ?_) (fun _ => ?_)
  · exact ok.ofS (num_snoc ok.num (t _))
  refine ite_ok (fun _ => ?_) (fun _ => ?_)
  · exact ok.ofS (num_snoc ok.num (ok.arg _))
  refine ite_ok (fun _ => ?_) (fun _ => ?_)
  · exact ok.ofS (num_snoc ok.num (ok.loc _))
  refine ite_ok (fun _ => ?_) (fun _ => ?_)
  · exact (ok.ofS (num_drop ok.num)).ofLoc (loc_num ok.loc (t 0))
  refine ite_ok (fun _ => ?_) (fun _ => ?_)
  · exact ok.ofS (num_snoc (num_drop ok.num) (Num.one _ (t 0)))
  refine ite_ok (fun _ => ?_) (fun _ => ?_)
  · exact ok.ofS (num_snoc (num_drop (num_drop ok.num)) (Num.two _ (t 1) (t 0)))
  refine ite_ok (fun _ => ?_) (fun _ => ?_)
  · exact (ok.ofS (num_drop ok.num)).ofOut ho (t 0)
  · exact ok
theorem read_ok {s : Mc} (ok : s.Ok) (hr : s.reads.length < s.used) (hw : s.waits = false) : (readP s).1.Ok := by
  unfold readP
  split
  · simp only
    cases hb : getN s.buf (idxI (topN s.s 0) s.cells) with
    | none => exact (ok.ofS (num_drop ok.num)).ofWait hr
    | some y => exact (ok.ofS (num_snoc (num_drop ok.num) (get_num ok.buf hb))).ofRead hr hw (get_num ok.buf hb)
  · exact ok.fails 50
theorem write_ok {s : Mc} (ok : s.Ok) : (writeP s).1.Ok := by
  have t := fun n => topN_num ok.num n
  unfold writeP
  split
  · split
    · simp only
      cases hb : getN s.buf (idxI (topN s.s 0) s.cells) with
      | none =>
        simp only
        split
        · exact ok.fails 70
        · exact (ok.ofS (num_drop (num_drop ok.num))).ofBuf (put_num ok.buf (t 1))
      | some y => exact (ok.ofS (num_drop (num_drop ok.num))).ofBuf (put_num ok.buf (t 1))
    · exact ok.fails 50
  · exact ok.fails 81
theorem do_ok {s : Mc} {x : Ins} (ok : s.Ok) (hb : s.bad = false) (hx : x.2.2 < 18446744073709551616) (hm : MayF x.1 x.2.1 s.code.length) (ho : s.out.length < s.used) (hr : s.reads.length < s.used) (hw : s.waits = false) : (doP s x).1.Ok := by
  have hj : x.1 = 11 ∨ x.1 = 12 ∨ x.1 = 13 ∨ x.1 = 14 → x.2.1.toNat ≤ s.code.length := fun h => by have := hm.jump h; omega
  unfold doP
  refine ite_ok1 (fun hc => ?_) (fun _ => ?_)
  · exact read_ok ok hr hw
  refine ite_ok1 (fun hc => ?_) (fun _ => ?_)
  · exact write_ok ok
  refine ite_ok1 (fun hc => ?_) (fun _ => ?_)
  · exact ok.ofHow _
  refine ite_ok1 (fun hc => ?_) (fun _ => ?_)
  · exact ok.ofHow _
  refine ite_ok1 (fun hc => ?_) (fun _ => ?_)
  · exact ok.ofAt (hj (by omega))
  refine ite_ok1 (fun hc => ?_) (fun _ => ?_)
  · refine ite_ok (fun _ => ?_) (fun _ => ?_)
    · exact (ok.ofS (num_drop ok.num)).ofAt (hj (by omega))
    · exact ok.ofS (num_drop ok.num)
  refine ite_ok1 (fun hc => ?_) (fun _ => ?_)
  · refine ite_ok (fun _ => ?_) (fun _ => ?_)
    · exact ok.ofS (num_drop ok.num)
    · exact (ok.ofS (num_drop ok.num)).ofAt (hj (by omega))
  refine ite_ok1 (fun hc => ?_) (fun _ => ?_)
  · have hj' := hj (by omega)
    refine Mc.Ok.ofAt (s := { s with calls := s.calls ++ [(s.at_ : Int)] }) (ok.ofCall (fun a ha => ?_)) hj'
    rcases List.mem_append.1 ha with ha | ha
    · exact ⟨ok.call a ha, fun hb => (ok.at_ hb).2 a ha⟩
    · rw [List.mem_singleton.1 ha]
      exact ⟨by omega, fun hb => by have := (ok.at_ hb).1; omega⟩
  refine ite_ok1 (fun hc => ?_) (fun _ => ?_)
  · cases hl : s.calls.getLast? with
    | none => exact ok.ofHow _
    | some a =>
      have ha : a ∈ s.calls := List.mem_of_getLast? hl
      have h0 := ok.call a ha
      have h1 := (ok.at_ hb).2 a ha
      exact (ok.ofCall (fun a ha => ⟨ok.call a ((List.dropLast_sublist _).subset ha), fun hb => (ok.at_ hb).2 a ((List.dropLast_sublist _).subset ha)⟩)).ofAt (by show a.toNat ≤ s.code.length; omega)
  · exact reckon_ok ok hx ho
theorem stepP_ok {s : Mc} (ok : s.Ok) : (stepP s).1.Ok := by
  cases hw : s.waits with
  | true => unfold stepP; rw [if_pos hw]; exact ok
  | false =>
    by_cases hh : s.how.1 = 0
    · cases hb : s.bad with
      | true => unfold stepP; rw [if_neg (by rw [hw]; decide), if_neg (by rw [hh]; decide), if_pos hb]; exact ok.fails _
      | false =>
        by_cases hu : (s.used : Int) = s.fuel
        · unfold stepP; rw [if_neg (by rw [hw]; decide), if_neg (by rw [hh]; decide), if_neg (by rw [hb]; decide), if_pos hu]; exact ok.fails _
        · by_cases ha : s.at_ = s.code.length
          · rw [stepP_past hw hh hb hu ha]; exact ok.fails _
          · have hat := (ok.at_ hb).1
            obtain ⟨x, hx⟩ : ∃ x, s.code[s.at_]? = some x := ⟨_, List.getElem?_eq_getElem (by omega)⟩
            obtain ⟨hl, hmay⟩ := bad_facts hb
            have hmx := may_facts (hmay x (List.mem_of_getElem? hx))
            have hus := ok.used
            have hou := ok.outs
            have hrd := ok.rds
            rw [hw] at hrd
            simp only [Bool.false_eq_true, if_false, Nat.add_zero] at hrd
            have ok1 : Mc.Ok { s with used := s.used + 1, at_ := s.at_ + 1 } :=
              ⟨ok.xs, ok.num, ok.arg, ok.loc, ok.fuel, by show ((s.used + 1 : Nat) : Int) ≤ s.fuel; omega, by show s.out.length ≤ s.used + 1; omega, by show s.reads.length + (if s.waits then 1 else 0) ≤ s.used + 1; rw [hw]; simp; omega, ok.call, fun hb => ⟨by show s.at_ + 1 ≤ s.code.length; omega, (ok.at_ hb).2⟩, ok.buf, ok.outN, ok.rdN⟩
            rw [stepP_go hw hh hb hu hx]
            split
            · exact do_ok ok1 hb (ok.xs x (List.mem_of_getElem? hx)) hmx (by show s.out.length < s.used + 1; omega) (by show s.reads.length < s.used + 1; omega) hw
            · exact ok1.fails _
    · unfold stepP; rw [if_neg (by rw [hw]; decide), if_pos hh]; exact ok
theorem giveP_ok {s : Mc} {x : Nat} (ok : s.Ok) (hx : x < 18446744073709551616) : (giveP s x).1.Ok := by
  unfold giveP
  split
  · rename_i hw
    have hrd := ok.rds
    rw [hw] at hrd
    simp only [if_true] at hrd
    exact ⟨ok.xs, num_snoc ok.num (Num.fix hx), ok.arg, ok.loc, ok.fuel, ok.used, ok.outs, by show (s.reads ++ [(s.cell, fixB x)]).length + (if false then 1 else 0) ≤ s.used; simp; omega, ok.call, ok.at_, ok.buf, ok.outN, num_snoc2 ok.rdN (Num.fix hx)⟩
  · exact ok
end Go.Proofs.YtgeapkalabijmaaGreat
