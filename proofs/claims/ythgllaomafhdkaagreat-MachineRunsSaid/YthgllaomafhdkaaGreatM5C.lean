/- Layer 8's laws: a step of both machines. -/
import Derived.Test.YthgllaomafhdkaaGreatM5B
import Derived.Test.YthgllaomafhdkaaGreatK9
namespace Go.Proofs.YthgllaomafhdkaaGreat
open Go Go.RowKit
set_option maxRecDepth 100000
set_option maxHeartbeats 1000000
set_option linter.unusedVariables false
set_option linter.unusedSimpArgs false

/-- What both are then; how many numbers were given. -/
def oneF (s : Mc) (feed : List Nat) (k : Nat) : Mc := if (stepP s).2.kind = 1 then (giveP (stepP s).1 (fedP feed k)).1 else (stepP s).1
def oneK (s : Mc) (k : Nat) : Nat := if (stepP s).2.kind = 1 then k + 1 else k
theorem Both.nums {w0 w : World} {pb m q lb : Nat} {F R : Nat → Prop} {s : Mc} {g g' : Int} (h : Both w0 w pb m q lb F R s g) : Both w0 (w.setCell ⟨pb, 2, none⟩ (.int .i64 g')) pb m q lb F R s g' := by
  have hc : Chg w (w.setCell ⟨pb, 2, none⟩ (.int .i64 g')) (fun k => k = pb) := (Chg.refl w (fun k => k = pb)).setCell (a := ⟨pb, 2, none⟩) (.inr rfl) _
  refine ⟨blk_set h.pr 2 _, h.ma.chg hc (fun k hk e => (h.dF k hk).1 e), h.rm.chg hc (fun k hk e => ?_), h.fine, h.hok, h.dF, h.dp, h.new, h.chg.trans hc (fun k hk e => by have := h.new.1; omega)⟩
  subst e
  rcases hk with e | e | hk
  · exact h.dp.1 e
  · exact h.dp.2.1 e
  · exact h.dp.2.2 hk
theorem Both.cellsP {w0 w : World} {pb m q lb : Nat} {F R : Nat → Prop} {s : Mc} {g : Int} (h : Both w0 w pb m q lb F R s g) : w.cell? ⟨pb, 0, none⟩ = some (.pointer (some ⟨m, 0, none⟩)) ∧ w.cell? ⟨pb, 1, none⟩ = some (.pointer (some ⟨q, 0, none⟩)) ∧ w.cell? ⟨pb, 2, none⟩ = some (.int .i64 g) ∧ w.frozen? ⟨pb, 2, none⟩ = false ∧ pb < w.heap.size := ⟨blk_cell h.pr 0, blk_cell h.pr 1, blk_cell h.pr 2, blk_free h.pr 2, blk_lt h.pr⟩
/-- A Step of both, the answers laid into boxes. -/
theorem Both.stepped {w0 w w1 w2 : World} {pb m q lb : Nat} {F R : Nat → Prop} {s : Mc} {g : Int} {ob : Obj} (h : Both w0 w pb m q lb F R s g) (hS : MaS w w1 m F (stepP s).1) (hf : (stepP s).1.Fine) (hR : Rs (w1.alloc ob) w2 q lb R (stepP s).1) : Both w0 w2 pb m q lb (Grow F w w1) (Grow R (w1.alloc ob) w2) (stepP s).1 g ∧ w2.heap[w1.heap.size]? = some ob := by
  obtain ⟨a1, a2, a3, a4, a5, a6⟩ := h.one hS
  have z1 := hS.chg.size
  have hq := h.rm.qlt
  refine ⟨h.two (w1 := w1.alloc ob) (by simp; omega) (blk_alloc a1 ob) (a2.quiet ((Chg.refl _ _).alloc _)) a4 a5 (a6.alloc _) hR hf (Hok.step h.hok h.fine), ?_⟩
  exact (hR.chg.block w1.heap.size (by simp) (by omega)).trans (heap_alloc_new w1 ob)
theorem Both.given {w0 w w1 w2 : World} {pb m q lb : Nat} {F R : Nat → Prop} {s s' : Mc} {g : Int} (h : Both w0 w pb m q lb F R s g) (hS : MaS w w1 m F s') (hf : s'.Fine) (hk : s'.Hok) (hR : Rs w1 w2 q lb R s') : Both w0 w2 pb m q lb (Grow F w w1) (Grow R w1 w2) s' g := by
  obtain ⟨a1, a2, a3, a4, a5, a6⟩ := h.one hS
  exact h.two hS.chg.size a1 a2 a4 a5 a6 hR hf hk
theorem bstep_any (w0 w : World) (pb m q lb : Nat) (F R : Nat → Prop) (s : Mc) (k : Nat) (af : Option Addr) (nf : Nat) (feed : List Nat) (hB : Both w0 w pb m q lb F R s (k : Int)) (hk : k ≤ 4096) (hfl : feed.length ≤ 9223372036854775807) (hs : Sees w0 af (feed.map fl)) (hfx : ∀ y ∈ feed, y < 18446744073709551616) :
    Calls Tryz.prog 31 #[.pointer (some ⟨pb, 0, none⟩), .slice af feed.length nf] w fun e w' => ∃ F' R', e = .returned (.bool true) ∧ Both w0 w' pb m q lb F' R' (oneF s feed k) (oneK s k : Nat) := by
  have B := Lib.hid hB
  have HK := Lib.hid hk
  have HFL := Lib.hid hfl
  have HS := Lib.hid hs
  have HFX := Lib.hid hfx
  obtain ⟨p0, p1, p2, p3, p4⟩ := hB.cellsP
  clear hB hk hfl hs hfx p2 p3
  obtain ⟨ak, acl, ax, afi, hsa⟩ : ∃ ak acl ax afi, (stepP s).2 = ⟨ak, acl, ax, afi⟩ := ⟨_, _, _, _, rfl⟩
  have HSA := Lib.hid hsa
  clear hsa
  go_enter Tryz.func31, Tryz.ntmps31
  go_wp2_with fail
  refine (mstep_any m F s _ B.out.ma B.out.fine).mono ?_
  rintro e w1 ⟨he, hS, hf⟩
  rw [HSA.out] at he
  obtain rfl : e = .returned (.agg #[.int .i64 ak, .int .i64 acl, fl ax, .bool afi]) := he
  have S1 := Lib.hid hS
  have F1 := Lib.hid hf
  have hb1 := (B.out.one hS).1
  have q0 : w1.cell? ⟨pb, 1, none⟩ = some (.pointer (some ⟨q, 0, none⟩)) := blk_cell hb1 1
  have q1 : pb < w1.heap.size := blk_lt hb1
  have q2 : ¬ pb = w1.heap.size := by omega
  clear hS hf hb1 p0 p1 p4
  go_wp2_with fail
  refine (rstep_any q lb R s _ ((B.out.one S1.out).2.2.1.quiet ((Chg.refl _ _).alloc _)) B.out.fine B.out.rok).mono ?_
  rintro e w2 ⟨he, hS⟩
  rw [HSA.out] at he
  obtain rfl : e = .returned (.agg #[.int .i64 ak, .int .i64 acl, fl ax, .bool afi]) := he
  obtain ⟨hB2, hbx⟩ := B.out.stepped S1.out F1.out hS
  have B2 := Lib.hid hB2
  have x0 : w2.cell? ⟨w1.heap.size, 0, none⟩ = some (.int .i64 ak) := blk_cell hbx 0
  have x1 : w2.cell? ⟨w1.heap.size, 1, none⟩ = some (.int .i64 acl) := blk_cell hbx 1
  have x2 : w2.cell? ⟨w1.heap.size, 2, none⟩ = some (fl ax) := blk_cell hbx 2
  have x3 : w2.cell? ⟨w1.heap.size, 3, none⟩ = some (.bool afi) := blk_cell hbx 3
  have x4 : w1.heap.size < w2.heap.size := blk_lt hbx
  have x5 : ¬ w1.heap.size = w2.heap.size := by omega
  clear hS hB2 hbx q0 q1 q2
  go_wp2_with fail
  refine (same08_ask ⟨ak, acl, ax, afi⟩ _).mono ?_
  rintro e w3 ⟨rfl, hc3⟩
  have BX3 := Lib.hid ((hc3.block _ (by simp) id).trans (heap_alloc_new w2 (.cells #[.int .i64 ak, .int .i64 acl, fl ax, .bool afi] 35)))
  have B3 := Lib.hid ((B2.out.quiet ((Chg.refl _ _).alloc _)).quiet hc3)
  have y0 : w3.cell? ⟨w2.heap.size, 0, none⟩ = some (.int .i64 ak) := blk_cell BX3.out 0
  obtain ⟨p0, p1, p2, p3, p4⟩ := B3.out.cellsP
  clear hc3 x0 x1 x2 x3 x4 x5
  by_cases h1 : ak = 1
  · subst h1
    have d1 : ((1 : Int) == 1) = true := rfl
    have E1 := Lib.hid (show oneF s feed k = (giveP (stepP s).1 (fedP feed k)).1 ∧ oneK s k = k + 1 from by unfold oneF oneK; rw [HSA.out]; exact ⟨if_pos rfl, if_pos rfl⟩)
    go_wp2_with fail
    with_reducible refine (fed_any af nf k feed _ HK.out HFL.out (HS.out.chg B3.out.chg)).mono ?_
    rintro e w4 ⟨rfl, rfl⟩
    have hwk : IntKind.i64.wrap ((k : Int) + 1) = ((k + 1 : Nat) : Int) := (IntWalk.i64_in ((k : Int) + 1) (by have := HK.out; omega)).trans (by omega)
    have B4 := Lib.hid ((B3.out.nums (g' := (k : Int) + 1)).quiet ((Chg.refl _ Nothing).drew))
    have hgg : ((giveP (stepP s).1 (fedP feed k)).2 == (giveP (stepP s).1 (fedP feed k)).2) = true := by simp
    go_wp2_with fail
    refine beginL (fun w' => w'.cell? ⟨pb, 0, none⟩ = some (.pointer (some ⟨m, 0, none⟩)) ∧ w'.cell? ⟨pb, 1, none⟩ = some (.pointer (some ⟨q, 0, none⟩))) 14 (by kernel_rfl) ⟨blk_cell B4.out.pr 0, blk_cell B4.out.pr 1⟩ (fun hHeld => ?_)
    refine takeL 0 2 (v := ?_) rfl (by kernel_rfl) (fun _ _ _ h => h) (by rfl) (by assumption) ?_ ?_
    rotate_left
    · (intro w hSw; (try dsimp only at hSw); go_simp; try with_reducible rfl)
    try simp only [Act.put, List.setIfInBounds_toArray, List.set_cons_zero, List.set_cons_succ]
    refine takeL 1 2 (v := ?_) rfl (by kernel_rfl) (fun _ _ _ h => h) (by rfl) (by assumption) ?_ ?_
    rotate_left
    · (intro w hSw; (try dsimp only at hSw); go_simp; try with_reducible rfl)
    try simp only [Act.put, List.setIfInBounds_toArray, List.set_cons_zero, List.set_cons_succ]
    refine takeL 2 2 (v := ?_) rfl (by kernel_rfl) (fun _ _ _ h => h) (by rfl) (by assumption) ?_ ?_
    rotate_left
    · (intro w hSw; (try dsimp only at hSw); go_simp; try with_reducible rfl)
    try simp only [Act.put, List.setIfInBounds_toArray, List.set_cons_zero, List.set_cons_succ]
    refine takeL 3 2 (v := ?_) rfl (by kernel_rfl) (fun _ _ _ h => h) (by rfl) (by assumption) ?_ ?_
    rotate_left
    · (intro w hSw; (try dsimp only at hSw); go_simp; try with_reducible rfl)
    try simp only [Act.put, List.setIfInBounds_toArray, List.set_cons_zero, List.set_cons_succ]
    refine takeL 4 2 (v := ?_) rfl (by kernel_rfl) (fun _ _ _ h => h) (by rfl) (by assumption) ?_ ?_
    rotate_left
    · (intro w hSw; (try dsimp only at hSw); go_simp; try with_reducible rfl)
    try simp only [Act.put, List.setIfInBounds_toArray, List.set_cons_zero, List.set_cons_succ]
    refine takeL 6 2 (v := ?_) rfl (by kernel_rfl) (fun _ _ _ h => h) (by rfl) (by assumption) ?_ ?_
    rotate_left
    · (intro w hSw; (try dsimp only at hSw); go_simp; try with_reducible rfl)
    try simp only [Act.put, List.setIfInBounds_toArray, List.set_cons_zero, List.set_cons_succ]
    refine takeL 7 2 (v := ?_) rfl (by kernel_rfl) (fun _ _ _ h => h) (by rfl) (by assumption) ?_ ?_
    rotate_left
    · (intro w hSw; (try dsimp only at hSw); go_simp; try with_reducible rfl)
    try simp only [Act.put, List.setIfInBounds_toArray, List.set_cons_zero, List.set_cons_succ]
    refine takeL 8 2 (v := ?_) rfl (by kernel_rfl) (fun _ _ _ h => h) (by rfl) (by assumption) ?_ ?_
    rotate_left
    · (intro w hSw; (try dsimp only at hSw); go_simp; try with_reducible rfl)
    try simp only [Act.put, List.setIfInBounds_toArray, List.set_cons_zero, List.set_cons_succ]
    refine takeL 9 2 (v := ?_) rfl (by kernel_rfl) (fun _ _ _ h => h) (by rfl) (by assumption) ?_ ?_
    rotate_left
    · (intro w hSw; (try dsimp only at hSw); go_simp; try with_reducible rfl)
    try simp only [Act.put, List.setIfInBounds_toArray, List.set_cons_zero, List.set_cons_succ]
    refine takeL 10 2 (v := ?_) rfl (by kernel_rfl) (fun _ _ _ h => h) (by rfl) (by assumption) ?_ ?_
    rotate_left
    · (intro w hSw; (try dsimp only at hSw); go_simp; try with_reducible rfl)
    try simp only [Act.put, List.setIfInBounds_toArray, List.set_cons_zero, List.set_cons_succ]
    refine oneL 5 rfl (by kernel_rfl) (by rfl) (fun K hK => ?_)
    go_simp
    go_at_call 27
    refine (mgive_any m _ _ (fedP feed k) _ B4.out.ma B4.out.fine (fedP_lt HFX.out k)).mono ?_
    rintro e w5 ⟨rfl, hS5, hf5⟩
    have S5 := Lib.hid hS5
    have O5 := Lib.hid (B4.out.one hS5)
    have F5 := Lib.hid hf5
    clear hS5 hf5
    go_wp2_with fail
    refine hK.out _ _ ⟨blk_cell O5.out.1 0, blk_cell O5.out.1 1⟩ (fun hHeld => ?_)
    clear hK K
    try simp only [Act.put, List.setIfInBounds_toArray, List.set_cons_zero, List.set_cons_succ]
    refine oneL 11 rfl (by kernel_rfl) (by rfl) (fun K hK => ?_)
    go_simp
    go_at_call 34
    refine (rgive_any q lb _ _ _ (fedP feed k) O5.out.2.2.1 B4.out.fine B4.out.rok).mono ?_
    rintro e w6 ⟨rfl, hR6⟩
    have B6 := Lib.hid (B4.out.given S5.out F5.out (Hok.give B4.out.hok _) hR6)
    clear hR6
    go_wp2_with fail
    refine hK.out _ _ ⟨blk_cell B6.out.pr 0, blk_cell B6.out.pr 1⟩ (fun hHeld => ?_)
    clear hK K
    try simp only [Act.put, List.setIfInBounds_toArray, List.set_cons_zero, List.set_cons_succ]
    refine takeL 12 2 (v := ?_) rfl (by kernel_rfl) (fun _ _ _ h => h) (by rfl) (by assumption) ?_ ?_
    rotate_left
    · (intro w hSw; (try dsimp only at hSw); go_simp; try with_reducible rfl)
    try simp only [Act.put, List.setIfInBounds_toArray, List.set_cons_zero, List.set_cons_succ]
    refine takeL 13 2 (v := ?_) rfl (by kernel_rfl) (fun _ _ _ h => h) (by rfl) (by assumption) ?_ ?_
    rotate_left
    · (intro w hSw; (try dsimp only at hSw); go_simp; try with_reducible rfl)
    try simp only [Act.put, List.setIfInBounds_toArray, List.set_cons_zero, List.set_cons_succ]
    refine doneL (by kernel_rfl) ?_ _
    go_wp2_with fail
    go_ret
    rw [E1.out.1, E1.out.2]
    exact ⟨_, _, rfl, B6.out⟩
  · have d1 : (ak == 1) = false := beq_eq_false_iff_ne.2 h1
    have E1 := Lib.hid (show oneF s feed k = (stepP s).1 ∧ oneK s k = k from by unfold oneF oneK; rw [HSA.out]; exact ⟨if_neg h1, if_neg h1⟩)
    go_wp2_with fail
    go_ret
    rw [E1.out.1, E1.out.2]
    exact ⟨_, _, rfl, B3.out⟩
end Go.Proofs.YthgllaomafhdkaaGreat
