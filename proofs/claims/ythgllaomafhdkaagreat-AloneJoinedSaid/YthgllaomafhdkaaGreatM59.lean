/- The document's machine: Step. -/
import Derived.Test.YthgllaomafhdkaaGreatM58
namespace Go.Proofs.YthgllaomafhdkaaGreat
open Go Go.RowKit
set_option maxRecDepth 100000
set_option maxHeartbeats 1000000
set_option linter.unusedVariables false
set_option linter.unusedSimpArgs false

theorem Rm.cell6 {w : World} {q lb : Nat} {R : Nat → Prop} {s : Mc} (h : Rm w q lb R s) : w.cell? ⟨q, 6, none⟩ = some (.bool s.bad) ∧ w.cell? ⟨q, 2, none⟩ = some (.int .i64 s.fuel) := by
  obtain ⟨vc, vA, vS, vC, vT, vR, vB, cl, hR⟩ := h
  exact ⟨blk_cell hR.blk 6, blk_cell hR.blk 2⟩
theorem Rm.codeAt {w : World} {q lb : Nat} {R : Nat → Prop} {s : Mc} (h : Rm w q lb R s) : ∃ a c, w.cell? ⟨q, 5, none⟩ = some (.slice a s.code.length c) ∧ s.code.length ≤ c ∧ ∀ i x, s.code[i]? = some x → ∃ b o, a = some ⟨b, o, none⟩ ∧ w.cell? ⟨b, o + i * 3, none⟩ = some (.int .i64 x.1) ∧ w.cell? ⟨b, o + i * 3 + 1, none⟩ = some (.int .i64 x.2.1) ∧ w.cell? ⟨b, o + i * 3 + 2, none⟩ = some (fl x.2.2) := by
  obtain ⟨vc, vA, vS, vC, vT, vR, vB, cl, hR⟩ := h
  obtain ⟨a, c, rfl, h1, h2, h3⟩ := hR.code
  refine ⟨a, c, blk_cell hR.blk 5, h1, fun i x hx => ?_⟩
  rcases h3 with ⟨h0, _⟩ | ⟨b, o, rfl, hb, hc⟩
  · have := (List.getElem?_eq_some_iff.1 hx).1; omega
  · obtain ⟨e1, e2, e3⟩ := insV_at s.code i x hx
    exact ⟨b, o, rfl, hc _ _ e1, by have := hc _ _ e2; rwa [← Nat.add_assoc] at this, by have := hc _ _ e3; rwa [← Nat.add_assoc] at this⟩
theorem rroom_is (q lb : Nat) (R : Nat → Prop) (s : Mc) (k : Nat) (n : Int) (x : Nat) (w : World) (h : Rm w q lb R s) (h1 : 1 ≤ k) (h2 : k ≤ 20) (h5 : k = 5 → 0 ≤ n ∧ n ≤ 63) (hl : s.s.length ≤ 64) (hcl : s.calls.length ≤ 16) (b : Bool) (hb : roomOk s ((k : Int), n, x) = b) :
    Calls Tryz.prog 75 #[.pointer (some ⟨q, 0, none⟩), .agg #[.int .i64 (k : Int), .int .i64 n, fl x]] w fun e w' => e = .returned (.bool b) ∧ Chg w w' Nothing := by
  have := rroom_any q lb R s k n x w h h1 h2 h5 hl hcl
  rw [hb] at this
  exact this
section
variable (q lb : Nat) (R : Nat → Prop) (s : Mc) (w : World)
theorem rstep_waits (h : Rm w q lb R s) (hw : s.waits = true) (hc : 0 ≤ s.cell) :
    Calls Tryz.prog 33 #[.pointer (some ⟨q, 0, none⟩)] w fun e w' => e = .returned (askV ⟨1, s.cell, 0, false⟩) ∧ Rs w w' q lb R s := by
  obtain ⟨hq, hlb, hne, hown⟩ := h.qlt
  have hq1 : ¬ q = w.heap.size := by omega
  obtain ⟨c11, c12, c13, c0, c3, c4, c14⟩ := h.cellAt
  obtain ⟨c6, c2⟩ := h.cell6
  have H := Lib.hid h
  rw [hw] at c13
  have c13 : w.cell? ⟨q, 13, none⟩ = some (.int .i64 s.cell) := c13
  have b1 : decide (s.cell ≥ 0) = true := decide_eq_true hc
  have b2 : decide (0 ≤ s.cell) = true := decide_eq_true hc
  clear h hown
  go_enter Tryz.func33, Tryz.ntmps33
  go_wp2_with fail
  exact bodyPost_ret (v := askV ⟨1, s.cell, 0, false⟩) (rstep_results (a := ⟨1, s.cell, 0, false⟩) rfl (heap_alloc_new w _)) rfl ⟨rfl, Rs.refl H.out ((Chg.refl w Nothing).alloc _)⟩
theorem rstep_ended (h : Rm w q lb R s) (hw : s.waits = false) (hh : s.how.1 ≠ 0) :
    Calls Tryz.prog 33 #[.pointer (some ⟨q, 0, none⟩)] w fun e w' => e = .returned (askV askEnd) ∧ Rs w w' q lb R s := by
  obtain ⟨hq, hlb, hne, hown⟩ := h.qlt
  have hq1 : ¬ q = w.heap.size := by omega
  obtain ⟨c11, c12, c13, c0, c3, c4, c14⟩ := h.cellAt
  obtain ⟨c6, c2⟩ := h.cell6
  have H := Lib.hid h
  rw [hw] at c13
  have c13 : w.cell? ⟨q, 13, none⟩ = some (.int .i64 (-1)) := c13
  have b1 : (s.how.1 == 0) = false := beq_eq_false_iff_ne.2 hh
  clear h hown
  go_enter Tryz.func33, Tryz.ntmps33
  go_wp2_with fail
  exact bodyPost_ret (v := askV askEnd) (rstep_results (a := askEnd) rfl (heap_alloc_new w _)) rfl ⟨rfl, Rs.refl H.out ((Chg.refl w Nothing).alloc _)⟩
theorem rstep_bad (h : Rm w q lb R s) (hw : s.waits = false) (hh : s.how.1 = 0) (hb : s.bad = true) :
    Calls Tryz.prog 33 #[.pointer (some ⟨q, 0, none⟩)] w fun e w' => e = .returned (askV askEnd) ∧ Rs w w' q lb R (s.fails 50) := by
  obtain ⟨hq, hlb, hne, hown⟩ := h.qlt
  have hq1 : ¬ q = w.heap.size := by omega
  obtain ⟨c11, c12, c13, c0, c3, c4, c14⟩ := h.cellAt
  obtain ⟨c6, c2⟩ := h.cell6
  have H := Lib.hid h
  rw [hw] at c13
  have c13 : w.cell? ⟨q, 13, none⟩ = some (.int .i64 (-1)) := c13
  rw [hh] at c14
  rw [hb] at c6
  clear h hown
  go_enter Tryz.func33, Tryz.ntmps33
  go_wp2_with fail
  with_reducible refine (rfails_any q lb R s 50 _ (H.out.quiet ((Chg.refl w Nothing).alloc _))).mono ?_
  rintro e w3 ⟨he, hS⟩
  obtain rfl : e = .returned (.agg #[.int .i64 4, .int .i64 0, .float .f64 0, .bool false]) := he
  have HC0 := Lib.hid (Chg.refl (w.alloc (.cells ask0 35)) Nothing)
  obtain ⟨qd, hE⟩ := rask_end H.out HC0.out hS
  have RE := Lib.hid hE
  have q0 : (w3).cell? ⟨w.heap.size, 0, none⟩ = some (.int .i64 0) := blk_cell qd 0
  have q1 : (w3).cell? ⟨w.heap.size, 1, none⟩ = some (.int .i64 0) := blk_cell qd 1
  have q2 : (w3).cell? ⟨w.heap.size, 2, none⟩ = some (.float .f64 0) := blk_cell qd 2
  have q3 : (w3).cell? ⟨w.heap.size, 3, none⟩ = some (.bool false) := blk_cell qd 3
  have g0 : (w3).frozen? ⟨w.heap.size, 0, none⟩ = false := blk_free qd 0
  have g1 : (w3).frozen? ⟨w.heap.size, 1, none⟩ = false := blk_free qd 1
  have g2 : (w3).frozen? ⟨w.heap.size, 2, none⟩ = false := blk_free qd 2
  have g3 : (w3).frozen? ⟨w.heap.size, 3, none⟩ = false := blk_free qd 3
  have QE := Lib.hid qd
  clear hS hE qd HC0
  go_wp2_with fail
  exact bodyPost_ret (v := askV askEnd) (rstep_results (a := askEnd) rfl (four_set QE.out)) rfl ⟨rfl, RE.out _ _ _ _⟩
theorem rstep_fuel (h : Rm w q lb R s) (hw : s.waits = false) (hh : s.how.1 = 0) (hb : s.bad = false) (hu : (s.used : Int) = s.fuel) :
    Calls Tryz.prog 33 #[.pointer (some ⟨q, 0, none⟩)] w fun e w' => e = .returned (askV askEnd) ∧ Rs w w' q lb R (s.fails 80) := by
  obtain ⟨hq, hlb, hne, hown⟩ := h.qlt
  have hq1 : ¬ q = w.heap.size := by omega
  obtain ⟨c11, c12, c13, c0, c3, c4, c14⟩ := h.cellAt
  obtain ⟨c6, c2⟩ := h.cell6
  have H := Lib.hid h
  rw [hw] at c13
  have c13 : w.cell? ⟨q, 13, none⟩ = some (.int .i64 (-1)) := c13
  rw [hh] at c14
  rw [hb] at c6
  have b1 : ((s.used : Int) == s.fuel) = true := by rw [hu]; simp
  clear h hown hu
  go_enter Tryz.func33, Tryz.ntmps33
  go_wp2_with fail
  go_quiet (fail)
  go_wp2_with fail
  with_reducible refine (rfails_any q lb R s 80 _ (H.out.quiet (((Chg.refl w Nothing).alloc _).drewN _))).mono ?_
  rintro e w3 ⟨he, hS⟩
  obtain rfl : e = .returned (.agg #[.int .i64 4, .int .i64 0, .float .f64 0, .bool false]) := he
  have HC0 := Lib.hid ((Chg.refl (w.alloc (.cells ask0 35)) Nothing).drewN nq)
  obtain ⟨qd, hE⟩ := rask_end H.out HC0.out hS
  have RE := Lib.hid hE
  have q0 : (w3).cell? ⟨w.heap.size, 0, none⟩ = some (.int .i64 0) := blk_cell qd 0
  have q1 : (w3).cell? ⟨w.heap.size, 1, none⟩ = some (.int .i64 0) := blk_cell qd 1
  have q2 : (w3).cell? ⟨w.heap.size, 2, none⟩ = some (.float .f64 0) := blk_cell qd 2
  have q3 : (w3).cell? ⟨w.heap.size, 3, none⟩ = some (.bool false) := blk_cell qd 3
  have g0 : (w3).frozen? ⟨w.heap.size, 0, none⟩ = false := blk_free qd 0
  have g1 : (w3).frozen? ⟨w.heap.size, 1, none⟩ = false := blk_free qd 1
  have g2 : (w3).frozen? ⟨w.heap.size, 2, none⟩ = false := blk_free qd 2
  have g3 : (w3).frozen? ⟨w.heap.size, 3, none⟩ = false := blk_free qd 3
  have QE := Lib.hid qd
  clear hS hE qd HC0
  go_wp2_with fail
  exact bodyPost_ret (v := askV askEnd) (rstep_results (a := askEnd) rfl (four_set QE.out)) rfl ⟨rfl, RE.out _ _ _ _⟩
theorem rstep_past (h : Rm w q lb R s) (hw : s.waits = false) (hh : s.how.1 = 0) (hb : s.bad = false) (hu : (s.used : Int) ≠ s.fuel) (ha : s.code.length ≤ s.at_) :
    Calls Tryz.prog 33 #[.pointer (some ⟨q, 0, none⟩)] w fun e w' => e = .returned (askV askEnd) ∧ Rs w w' q lb R (s.fails 50) := by
  obtain ⟨hq, hlb, hne, hown⟩ := h.qlt
  have hq1 : ¬ q = w.heap.size := by omega
  obtain ⟨c11, c12, c13, c0, c3, c4, c14⟩ := h.cellAt
  obtain ⟨c6, c2⟩ := h.cell6
  have H := Lib.hid h
  obtain ⟨ac, cc, c5, hcc, hcode⟩ := h.codeAt
  rw [hw] at c13
  have c13 : w.cell? ⟨q, 13, none⟩ = some (.int .i64 (-1)) := c13
  rw [hh] at c14
  rw [hb] at c6
  have b1 : ((s.used : Int) == s.fuel) = false := beq_eq_false_iff_ne.2 hu
  have b2 : decide (s.code.length ≤ s.at_) = true := decide_eq_true ha
  have b3 : decide ((s.code.length : Int) ≤ (s.at_ : Int)) = true := decide_eq_true (by omega)
  clear h hown hu hcode
  go_enter Tryz.func33, Tryz.ntmps33
  go_wp2_with fail
  go_quiet (fail)
  go_wp2_with fail
  obtain ⟨q1, rfl⟩ : ∃ q1, q1 = nq := ⟨_, rfl⟩
  go_quiet (fail)
  go_wp2_with fail
  have c11 := True.intro
  with_reducible refine (rfails_any q lb R s 50 _ (H.out.quiet ((((Chg.refl w Nothing).alloc _).drewN _)))).mono ?_
  rintro e w3 ⟨he, hS⟩
  obtain rfl : e = .returned (.agg #[.int .i64 4, .int .i64 0, .float .f64 0, .bool false]) := he
  have HC0 := Lib.hid ((Chg.refl (w.alloc (.cells ask0 35)) Nothing).drewN (q1 + nq))
  obtain ⟨qd, hE⟩ := rask_end H.out HC0.out hS
  have RE := Lib.hid hE
  have q0 : (w3).cell? ⟨w.heap.size, 0, none⟩ = some (.int .i64 0) := blk_cell qd 0
  have q1 : (w3).cell? ⟨w.heap.size, 1, none⟩ = some (.int .i64 0) := blk_cell qd 1
  have q2 : (w3).cell? ⟨w.heap.size, 2, none⟩ = some (.float .f64 0) := blk_cell qd 2
  have q3 : (w3).cell? ⟨w.heap.size, 3, none⟩ = some (.bool false) := blk_cell qd 3
  have g0 : (w3).frozen? ⟨w.heap.size, 0, none⟩ = false := blk_free qd 0
  have g1 : (w3).frozen? ⟨w.heap.size, 1, none⟩ = false := blk_free qd 1
  have g2 : (w3).frozen? ⟨w.heap.size, 2, none⟩ = false := blk_free qd 2
  have g3 : (w3).frozen? ⟨w.heap.size, 3, none⟩ = false := blk_free qd 3
  have QE := Lib.hid qd
  clear hS hE qd HC0
  go_wp2_with fail
  exact bodyPost_ret (v := askV askEnd) (rstep_results (a := askEnd) rfl (four_set QE.out)) rfl ⟨rfl, RE.out _ _ _ _⟩
theorem rstep_go (k : Nat) (n : Int) (v : Nat) (h : Rm w q lb R s) (hw : s.waits = false) (hh : s.how.1 = 0) (hb : s.bad = false) (hu : (s.used : Int) ≠ s.fuel) (hx : s.code[s.at_]? = some ((k : Int), n, v)) (hul : s.used ≤ 4096) (hcl : s.code.length ≤ 4096) (hk : s.Rok) (hk1 : 1 ≤ k) (hk2 : k ≤ 20) (hk5 : k = 5 → 0 ≤ n ∧ n ≤ 63)
    (hd : roomOk s ((k : Int), n, v) = true → ∀ W R', Rm W q lb R' { s with used := s.used + 1, at_ := s.at_ + 1 } → DoR q lb R' { s with used := s.used + 1, at_ := s.at_ + 1 } ((k : Int), n, v) W) :
    Calls Tryz.prog 33 #[.pointer (some ⟨q, 0, none⟩)] w fun e w' => e = .returned (askV (stepP s).2) ∧ Rs w w' q lb R (stepP s).1 := by
  have E := stepP_go hw hh hb hu hx
  have HE := Lib.hid E
  obtain ⟨hq, hlb, hne, hown⟩ := h.qlt
  have hq1 : ¬ q = w.heap.size := by omega
  obtain ⟨c11, c12, c13, c0, c3, c4, c14⟩ := h.cellAt
  obtain ⟨c6, c2⟩ := h.cell6
  have H := Lib.hid h
  obtain ⟨ac, cc, c5, hcc, hcode⟩ := h.codeAt
  rw [hw] at c13
  have c13 : w.cell? ⟨q, 13, none⟩ = some (.int .i64 (-1)) := c13
  rw [hh] at c14
  rw [hb] at c6
  have hal := (List.getElem?_eq_some_iff.1 hx).1
  obtain ⟨b, o, rfl, x1, x2, x3⟩ := hcode _ _ hx
  dsimp only at x1 x2 x3
  have hbl : b < w.heap.size := by
    obtain ⟨vc, vA, vS, vC, vT, vR, vB, cl, hR⟩ := h
    obtain ⟨a, c, hv, h1, h2, h3⟩ := hR.code
    have := World.block_lt_of_cell? w _ x1
    exact this
  have b1 : ((s.used : Int) == s.fuel) = false := beq_eq_false_iff_ne.2 hu
  have b3 : decide (s.code.length ≤ s.at_) = false := decide_eq_false (by omega)
  have b2 : decide ((s.code.length : Int) ≤ (s.at_ : Int)) = false := decide_eq_false (by omega)
  have hm1 : IntKind.i64.wrap ((s.used : Int) + 1) = ((s.used + 1 : Nat) : Int) := (IntWalk.i64_in ((s.used : Int) + 1) (by omega)).trans (by omega)
  have hm2 : IntKind.i64.wrap ((s.at_ : Int) + 1) = ((s.at_ + 1 : Nat) : Int) := (IntWalk.i64_in ((s.at_ : Int) + 1) (by omega)).trans (by omega)
  have HK := Lib.hid hk
  have HD := Lib.hid hd
  have HX := Lib.hid hx
  have hai : (s.at_ : Int) < (s.code.length : Int) := by omega
  have K5 := Lib.hid c5
  have K11 := Lib.hid c11
  have X1 := Lib.hid x1
  have X2 := Lib.hid x2
  have X3 := Lib.hid x3
  have HKK := Lib.hid (And.intro hk1 (And.intro hk2 hk5))
  clear h hown hu hcode hx hd hk E hk1 hk2 hk5
  go_enter Tryz.func33, Tryz.ntmps33
  go_wp2_with fail
  go_quiet (fail)
  go_wp2_with fail
  obtain ⟨q1, rfl⟩ : ∃ q1, q1 = nq := ⟨_, rfl⟩
  go_quiet (fail)
  go_wp2_with fail
  have C0 := Lib.hid (show Chg (w.alloc (.cells ask0 35)) (((w.alloc (.cells #[.int .i64 0, .int .i64 0, .float .f64 0, .bool false] 35)).drewN q1).drewN nq) Nothing from ((Chg.refl _ Nothing).drewN _).drewN _)
  generalize ((w.alloc (.cells #[.int .i64 0, .int .i64 0, .float .f64 0, .bool false] 35)).drewN q1).drewN nq = W0 at C0 ⊢
  have CW := Lib.hid (show Chg w W0 Nothing from (((Chg.refl w Nothing).alloc _)).trans C0.out (fun _ _ h => h))
  have hq0 : q < W0.heap.size := by have := CW.out.size; omega
  have hqz : ¬ q = W0.heap.size := by omega
  have y11 := CW.out.cell c11 id
  have y12 := CW.out.cell c12 id
  have H0 := Lib.hid (H.out.quiet CW.out)
  have f11 := H0.out.free 11
  have f12 := H0.out.free 12
  clear c11 c12 c13 c0 c3 c4 c14 c6 c2 x1 x2 x3 c5
  refine beginL (fun w' => w'.cell? ⟨q, 5, none⟩ = some (.slice (some ⟨b, o, none⟩) s.code.length cc) ∧ w'.cell? ⟨q, 11, none⟩ = some (.int .i64 (s.at_ : Int)) ∧ w'.cell? ⟨b, o + s.at_ * 3, none⟩ = some (.int .i64 (k : Int)) ∧ w'.cell? ⟨b, o + s.at_ * 3 + 1, none⟩ = some (.int .i64 n) ∧ w'.cell? ⟨b, o + s.at_ * 3 + 2, none⟩ = some (fl v)) 12 (by kernel_rfl) ⟨(CW.out.drew).cell K5.out id, (CW.out.drew).cell K11.out id, (CW.out.drew).cell X1.out id, (CW.out.drew).cell X2.out id, (CW.out.drew).cell X3.out id⟩ (fun hHeld => ?_)
  refine takeL 0 2 (v := ?_) rfl (by kernel_rfl) (fun _ _ _ h => h) (by rfl) (by assumption) ?_ ?_
  rotate_left
  · (intro w hSw; (try dsimp only at hSw); go_simp; try with_reducible rfl)
  try simp only [Act.put, List.setIfInBounds_toArray, List.set_cons_zero, List.set_cons_succ]
  refine takeL 1 2 (v := ?_) rfl (by kernel_rfl) (fun _ _ _ h => h) (by rfl) (by assumption) ?_ ?_
  rotate_left
  · (intro w hSw; (try dsimp only at hSw); go_simp; try with_reducible rfl)
  try simp only [Act.put, List.setIfInBounds_toArray, List.set_cons_zero, List.set_cons_succ]
  refine takeL 2 2 (v := ?_) rfl (by kernel_rfl) (fun _ _ _ h => h) (by rfl) (by assumption) ?_ ?_
  rotate_left
  · (intro w hSw; (try dsimp only at hSw); go_simp; try with_reducible rfl)
  try simp only [Act.put, List.setIfInBounds_toArray, List.set_cons_zero, List.set_cons_succ]
  refine takeL 3 2 (v := ?_) rfl (by kernel_rfl) (fun _ _ _ h => h) (by rfl) (by assumption) ?_ ?_
  rotate_left
  · (intro w hSw; (try dsimp only at hSw); go_simp; try with_reducible rfl)
  try simp only [Act.put, List.setIfInBounds_toArray, List.set_cons_zero, List.set_cons_succ]
  refine takeL 4 2 (v := ?_) rfl (by kernel_rfl) (fun _ _ _ h => h) (by rfl) (by assumption) ?_ ?_
  rotate_left
  · (intro w hSw; (try dsimp only at hSw); go_simp; try with_reducible rfl)
  try simp only [Act.put, List.setIfInBounds_toArray, List.set_cons_zero, List.set_cons_succ]
  refine takeL 5 2 (v := ?_) rfl (by kernel_rfl) (fun _ _ _ h => h) (by rfl) (by assumption) ?_ ?_
  rotate_left
  · (intro w hSw; (try dsimp only at hSw); go_simp; try with_reducible rfl)
  try simp only [Act.put, List.setIfInBounds_toArray, List.set_cons_zero, List.set_cons_succ]
  refine takeL 6 2 (v := ?_) rfl (by kernel_rfl) (fun _ _ _ h => h) (by rfl) (by assumption) ?_ ?_
  rotate_left
  · (intro w hSw; (try dsimp only at hSw); go_simp; try with_reducible rfl)
  try simp only [Act.put, List.setIfInBounds_toArray, List.set_cons_zero, List.set_cons_succ]
  refine takeL 7 2 (v := ?_) rfl (by kernel_rfl) (fun _ _ _ h => h) (by rfl) (by assumption) ?_ ?_
  rotate_left
  · (intro w hSw; (try dsimp only at hSw); go_simp; try with_reducible rfl)
  try simp only [Act.put, List.setIfInBounds_toArray, List.set_cons_zero, List.set_cons_succ]
  refine takeL 8 2 (v := ?_) rfl (by kernel_rfl) (fun _ _ _ h => h) (by rfl) (by assumption) ?_ ?_
  rotate_left
  · (intro w hSw; (try dsimp only at hSw); go_simp; try with_reducible rfl)
  try simp only [Act.put, List.setIfInBounds_toArray, List.set_cons_zero, List.set_cons_succ]
  refine takeL 9 2 (v := ?_) rfl (by kernel_rfl) (fun _ _ _ h => h) (by rfl) (by assumption) ?_ ?_
  rotate_left
  · (intro w hSw; (try dsimp only at hSw); go_simp; try with_reducible rfl)
  try simp only [Act.put, List.setIfInBounds_toArray, List.set_cons_zero, List.set_cons_succ]
  refine takeL 10 2 (v := ?_) rfl (by kernel_rfl) (fun _ _ _ h => h) (by rfl) (by assumption) ?_ ?_
  rotate_left
  · (intro w hSw; (try dsimp only at hSw); go_simp; try with_reducible rfl)
  try simp only [Act.put, List.setIfInBounds_toArray, List.set_cons_zero, List.set_cons_succ]
  refine oneL 11 rfl (by kernel_rfl) (by rfl) (fun K hK => ?_)
  go_simp
  refine hK.out _ _ ⟨((CW.out.alloc _).drew).cell K5.out id, ((CW.out.alloc _).drew).cell K11.out id, ((CW.out.alloc _).drew).cell X1.out id, ((CW.out.alloc _).drew).cell X2.out id, ((CW.out.alloc _).drew).cell X3.out id⟩ (fun hHeld => ?_)
  clear hK K
  try simp only [Act.put, List.setIfInBounds_toArray, List.set_cons_zero, List.set_cons_succ]
  refine lastL rfl (by kernel_rfl) (by kernel_rfl) (fun K hK => ?_)
  go_simp
  refine hK.out _ _ ?_
  clear hK K
  have S1 := Rs.plain H0.out (Rs.refl H0.out (Chg.refl W0 Nothing)) (j := 12) (v := .int .i64 ((s.used + 1 : Nat) : Int)) (s' := { s with used := s.used + 1 }) (fun _ _ _ _ _ _ _ _ => rfl) ⟨rfl, rfl, rfl, rfl, rfl, rfl, rfl, rfl⟩
  have S2 := Lib.hid (Rs.plain H0.out S1 (j := 11) (v := .int .i64 ((s.at_ + 1 : Nat) : Int)) (s' := { s with used := s.used + 1, at_ := s.at_ + 1 }) (fun _ _ _ _ _ _ _ _ => rfl) ⟨rfl, rfl, rfl, rfl, rfl, rfl, rfl, rfl⟩)
  clear S1
  go_wp2_with fail
  have SD := Lib.hid (S2.out.rm.quiet (((Chg.refl _ Nothing).alloc (.cells #[.int .i64 (k : Int), .int .i64 n, fl v] 92)).drew))
  have e3 : ((W0.setCell ⟨q, 12, none⟩ (.int .i64 ((s.used + 1 : Nat) : Int))).setCell ⟨q, 11, none⟩ (.int .i64 ((s.at_ + 1 : Nat) : Int))).heap.size = W0.heap.size := by simp [World.setCell]
  have BB := Lib.hid (show ((((W0.setCell ⟨q, 12, none⟩ (.int .i64 ((s.used + 1 : Nat) : Int))).setCell ⟨q, 11, none⟩ (.int .i64 ((s.at_ + 1 : Nat) : Int))).alloc (.cells #[.int .i64 (k : Int), .int .i64 n, fl v] 92)).drew).heap[W0.heap.size]? = some (.cells #[.int .i64 (k : Int), .int .i64 n, fl v] 92 (0, 0)) from by
    have := heap_alloc_new ((W0.setCell ⟨q, 12, none⟩ (.int .i64 ((s.used + 1 : Nat) : Int))).setCell ⟨q, 11, none⟩ (.int .i64 ((s.at_ + 1 : Nat) : Int))) (.cells #[.int .i64 (k : Int), .int .i64 n, fl v] 92)
    rw [e3] at this
    exact this)
  have CB := Lib.hid ((Chg.refl ((W0.setCell ⟨q, 12, none⟩ (.int .i64 ((s.used + 1 : Nat) : Int))).setCell ⟨q, 11, none⟩ (.int .i64 ((s.at_ + 1 : Nat) : Int))) Nothing).alloc (.cells #[.int .i64 (k : Int), .int .i64 n, fl v] 92)).drew
  clear e3
  cases hr : roomOk s ((k : Int), n, v) with
  | false =>
    have HR := Lib.hid hr
    have E1 := Lib.hid (show stepP s = (Mc.fails { s with used := s.used + 1, at_ := s.at_ + 1 } 82, askEnd) by rw [HE.out, if_neg (by rw [hr]; decide)])
    clear hr
    refine (rroom_is q lb _ _ k n v _ SD.out HKK.out.1 HKK.out.2.1 HKK.out.2.2 HK.out.len HK.out.calls false HR.out).mono ?_
    rintro e w5 ⟨rfl, hc5⟩
    have C5 := Lib.hid (CB.out.trans hc5 (fun _ _ h => h))
    clear hc5
    go_wp2_with fail
    refine (rfails_any q lb _ _ 82 _ (S2.out.rm.quiet C5.out)).mono ?_
    rintro e w3 ⟨he, hS6⟩
    obtain rfl : e = .returned (.agg #[.int .i64 4, .int .i64 0, .float .f64 0, .bool false]) := he
    have hS := Rs.then H0.out S2.out (Rs.after S2.out.rm C5.out hS6)
    have HC0 := C0
    clear hS6
    obtain ⟨qd, hE⟩ := rask_end H.out HC0.out hS
    have RE := Lib.hid hE
    have q0 : (w3).cell? ⟨w.heap.size, 0, none⟩ = some (.int .i64 0) := blk_cell qd 0
    have q1 : (w3).cell? ⟨w.heap.size, 1, none⟩ = some (.int .i64 0) := blk_cell qd 1
    have q2 : (w3).cell? ⟨w.heap.size, 2, none⟩ = some (.float .f64 0) := blk_cell qd 2
    have q3 : (w3).cell? ⟨w.heap.size, 3, none⟩ = some (.bool false) := blk_cell qd 3
    have g0 : (w3).frozen? ⟨w.heap.size, 0, none⟩ = false := blk_free qd 0
    have g1 : (w3).frozen? ⟨w.heap.size, 1, none⟩ = false := blk_free qd 1
    have g2 : (w3).frozen? ⟨w.heap.size, 2, none⟩ = false := blk_free qd 2
    have g3 : (w3).frozen? ⟨w.heap.size, 3, none⟩ = false := blk_free qd 3
    have QE := Lib.hid qd
    clear hS hE qd
    go_wp2_with fail
    exact bodyPost_ret (v := askV askEnd) (rstep_results (a := askEnd) rfl (four_set QE.out)) rfl ⟨by rw [E1.out], by rw [E1.out]; exact RE.out _ _ _ _⟩
  | true =>
    have HR := Lib.hid hr
    obtain ⟨s', a, hda⟩ : ∃ s' a, doP { s with used := s.used + 1, at_ := s.at_ + 1 } ((k : Int), n, v) = (s', a) := ⟨_, _, rfl⟩
    obtain ⟨ak, acl, ax, afi⟩ := a
    have E1 := Lib.hid (show stepP s = (s', ⟨ak, acl, ax, afi⟩) by rw [HE.out, if_pos hr, hda])
    have HDA := Lib.hid hda
    clear hr hda
    refine (rroom_is q lb _ _ k n v _ SD.out HKK.out.1 HKK.out.2.1 HKK.out.2.2 HK.out.len HK.out.calls true HR.out).mono ?_
    rintro e w5 ⟨rfl, hc5⟩
    have C5 := Lib.hid (CB.out.trans hc5 (fun _ _ h => h))
    have b5 := (hc5.block _ (blk_lt BB.out) id).trans BB.out
    have u0 : w5.cell? ⟨W0.heap.size, 0, none⟩ = some (.int .i64 (k : Int)) := blk_cell b5 0
    have u1 : w5.cell? ⟨W0.heap.size, 1, none⟩ = some (.int .i64 n) := blk_cell b5 1
    have u2 : w5.cell? ⟨W0.heap.size, 2, none⟩ = some (fl v) := blk_cell b5 2
    clear hc5 b5
    go_wp2_with fail
    refine (HD.out HR.out _ _ (S2.out.rm.quiet C5.out)).mono ?_
    rintro e w3 ⟨he, hS6⟩
    rw [HDA.out] at he hS6
    obtain rfl : e = .returned (.agg #[.int .i64 ak, .int .i64 acl, fl ax, .bool afi]) := he
    have hS := Rs.then H0.out S2.out (Rs.after S2.out.rm C5.out hS6)
    have HC0 := C0
    clear hS6
    obtain ⟨qd, hE⟩ := rask_end H.out HC0.out hS
    have RE := Lib.hid hE
    have q0 : (w3).cell? ⟨w.heap.size, 0, none⟩ = some (.int .i64 0) := blk_cell qd 0
    have q1 : (w3).cell? ⟨w.heap.size, 1, none⟩ = some (.int .i64 0) := blk_cell qd 1
    have q2 : (w3).cell? ⟨w.heap.size, 2, none⟩ = some (.float .f64 0) := blk_cell qd 2
    have q3 : (w3).cell? ⟨w.heap.size, 3, none⟩ = some (.bool false) := blk_cell qd 3
    have g0 : (w3).frozen? ⟨w.heap.size, 0, none⟩ = false := blk_free qd 0
    have g1 : (w3).frozen? ⟨w.heap.size, 1, none⟩ = false := blk_free qd 1
    have g2 : (w3).frozen? ⟨w.heap.size, 2, none⟩ = false := blk_free qd 2
    have g3 : (w3).frozen? ⟨w.heap.size, 3, none⟩ = false := blk_free qd 3
    have QE := Lib.hid qd
    clear hS hE qd
    go_wp2_with fail
    exact bodyPost_ret (v := askV ⟨ak, acl, ax, afi⟩) (rstep_results (a := ⟨ak, acl, ax, afi⟩) rfl (four_set QE.out)) rfl ⟨by rw [E1.out], by rw [E1.out]; exact RE.out _ _ _ _⟩
end
end Go.Proofs.YthgllaomafhdkaaGreat
