/- Layer 8's laws: what both tell is the same. -/
import Derived.Test.YthgllaomafhdkaaGreatM5C
namespace Go.Proofs.YthgllaomafhdkaaGreat
open Go Go.RowKit
set_option maxRecDepth 100000
set_option maxHeartbeats 1000000
set_option linter.unusedVariables false
set_option linter.unusedSimpArgs false

/-- A slice that may be written over up to its room. -/
def Spl (w : World) (base top size : Nat) (v : Value) : Prop := v = .slice none 0 0 ∨ ∃ g cap cur n T, v = .slice (some ⟨g, 0, none⟩) n cap ∧ base ≤ g ∧ g < top ∧ w.heap[g]? = some (.cells cur T (0, 0)) ∧ cur.size = cap * size ∧ cap ≤ maxLen
theorem Spl.of {w : World} {base : Nat} {e : TypeId} {size : Nat} {v : Value} {n : Nat} {xs : List Value} (h : w.ownsRow base e size v n xs) : Spl w base w.heap.size size v := by
  rcases h.2 with ⟨hv, _⟩ | ⟨g, cap, cur, hv, h1, h2, h3, h4, h5, _⟩
  · exact .inl hv
  · exact .inr ⟨g, cap, cur, n, e, hv, h1, blk_lt h2, h2, h5, h4⟩
theorem Spl.quiet {w w' : World} {base top size : Nat} {v : Value} (h : Spl w base top size v) (hc : Chg w w' Nothing) : Spl w' base top size v := by
  rcases h with h | ⟨g, cap, cur, n, T, h1, h2, h3, h4, h5⟩
  · exact .inl h
  · exact .inr ⟨g, cap, cur, n, T, h1, h2, h3, (hc.block g (blk_lt h4) id).trans h4, h5⟩
theorem Spl.up {w : World} {base base' top top' size : Nat} {v : Value} (h : Spl w base top size v) (hb : base' ≤ base) (ht : top ≤ top') : Spl w base' top' size v := by
  rcases h with h | ⟨g, cap, cur, n, T, h1, h2, h3, h4⟩
  · exact .inl h
  · exact .inr ⟨g, cap, cur, n, T, h1, by omega, by omega, h4⟩
theorem Spl.set {w : World} {base top size : Nat} {v : Value} (h : Spl w base top size v) (g o : Nat) (u : Value) : Spl (w.setCell ⟨g, o, none⟩ u) base top size v := by
  rcases h with h | ⟨g', cap, cur, n, T, h1, h2, h3, h4, h5⟩
  · exact .inl h
  · by_cases e : g = g'
    · subst e
      exact .inr ⟨g, cap, cur.setIfInBounds o u, n, T, h1, h2, h3, blk_set h4 o u, by rw [Array.size_setIfInBounds]; exact h5⟩
    · exact .inr ⟨g', cap, cur, n, T, h1, h2, h3, blk_set_other h4 (Ne.symm e) u, h5⟩
/-- A cell of it. -/
theorem Spl.at_ {w : World} {base top size n c j : Nat} {a : Option Addr} (h : Spl w base top size (.slice a n c)) (hj : j < c * size) : ∃ g u, a = some ⟨g, 0, none⟩ ∧ base ≤ g ∧ g < top ∧ c ≤ maxLen ∧ w.cell? ⟨g, j, none⟩ = some u ∧ w.frozen? ⟨g, j, none⟩ = false := by
  rcases h with h | ⟨g, cap, cur, n', T, h1, h2, h3, h4, h5, h6⟩
  · injection h with _ _ h; subst h; omega
  · injection h1 with e1 e2 e3
    subst e1 e3
    exact ⟨g, cur[j]'(by omega), rfl, h2, h3, h6, by rw [blk_cell h4, Array.getElem?_eq_getElem], blk_free h4 j⟩
theorem Spl.cell {w : World} {base top size n c j g : Nat} (h : Spl w base top size (.slice (some ⟨g, 0, none⟩) n c)) (hj : j < c * size) : ∃ u, w.cell? ⟨g, j, none⟩ = some u ∧ w.frozen? ⟨g, j, none⟩ = false := by
  obtain ⟨g', u, e, _, _, _, h1, h2⟩ := h.at_ hj
  injection e with e
  injection e with e
  subst e
  exact ⟨u, h1, h2⟩
theorem Spl.head {w : World} {base top size n c : Nat} {a : Option Addr} (h : Spl w base top size (.slice a n c)) : (a = none ∧ n = 0 ∧ c = 0) ∨ ∃ g, a = some ⟨g, 0, none⟩ ∧ base ≤ g ∧ g < top ∧ c ≤ maxLen := by
  rcases h with h | ⟨g, cap, cur, n', T, h1, h2, h3, h4, h5, h6⟩
  · injection h with h1 h2 h3; exact .inl ⟨h1, h2, h3⟩
  · injection h1 with e1 e2 e3
    subst e1 e3
    exact .inr ⟨g, rfl, h2, h3, h6⟩
theorem Spl.room {w : World} {base top size : Nat} {v : Value} (h : Spl w base top size v) : ∃ a n c, v = .slice a n c ∧ c ≤ maxLen := by
  rcases h with h | ⟨g, cap, cur, n', T, h1, h2, h3, h4, h5, h6⟩
  · exact ⟨none, 0, 0, h, by decide⟩
  · exact ⟨_, _, _, h1, h6⟩
/-- Five of them; x: the world in which the writing over begins. -/
structure AllS (x wr : World) (base : Nat) (v1 v2 v3 v4 v5 : Value) : Prop where
  s1 : Spl wr base x.heap.size 1 v1
  s2 : Spl wr base x.heap.size 2 v2
  s3 : Spl wr base x.heap.size 2 v3
  s4 : Spl wr base x.heap.size 1 v4
  s5 : Spl wr base x.heap.size 1 v5
  chg : Chg x wr (fun k => base ≤ k)
theorem AllS.set {x wr : World} {base : Nat} {v1 v2 v3 v4 v5 : Value} (h : AllS x wr base v1 v2 v3 v4 v5) (g o : Nat) (u : Value) (hg : base ≤ g) : AllS x (wr.setCell ⟨g, o, none⟩ u) base v1 v2 v3 v4 v5 :=
  ⟨h.s1.set g o u, h.s2.set g o u, h.s3.set g o u, h.s4.set g o u, h.s5.set g o u, h.chg.setCell (a := ⟨g, o, none⟩) (.inr hg) u⟩
theorem AllS.alloc {x wr : World} {base : Nat} {v1 v2 v3 v4 v5 : Value} (h : AllS x wr base v1 v2 v3 v4 v5) (o : Obj) : AllS x (wr.alloc o) base v1 v2 v3 v4 v5 :=
  have hc := (Chg.refl wr Nothing).alloc o
  ⟨h.s1.quiet hc, h.s2.quiet hc, h.s3.quiet hc, h.s4.quiet hc, h.s5.quiet hc, h.chg.alloc o⟩
theorem Both.spoilt {w0 w w' : World} {pb m q lb base : Nat} {F R : Nat → Prop} {s : Mc} {g : Int} (h : Both w0 w pb m q lb F R s g) (hw : w.heap.size ≤ base) {w1 : World} (h1 : Chg w w1 Nothing) (h2 : Chg w1 w' (fun k => base ≤ k)) : Both w0 w' pb m q lb F R s g := by
  have hp := blk_lt h.pr
  have hq := h.rm.qlt
  refine (h.quiet h1).still h2 (by omega) (fun k hk e => by have := h.ma.lt k hk; omega) (fun k hk e => ?_) (fun k hk => by have := h.chg.size; omega)
  rcases hk with rfl | rfl | hk
  · omega
  · omega
  · have := (hq.2.2.2 k hk).1; omega
theorem seen_any (w0 w : World) (pb m q lb : Nat) (F R : Nat → Prop) (s : Mc) (g : Int) (hB : Both w0 w pb m q lb F R s g) :
    Calls Tryz.prog 32 #[.pointer (some ⟨m, 0, none⟩), .pointer (some ⟨q, 0, none⟩)] w fun e w' => e = .returned (.bool true) ∧ Both w0 w' pb m q lb F R s g := by
  have B := Lib.hid hB
  have hus := hB.fine.ok.used
  have hfu := hB.fine.ok.fuel
  have LO := Lib.hid (show s.out.length ≤ 4096 by have := hB.fine.ok.outs; omega)
  have LR := Lib.hid (show s.reads.length ≤ 4096 by have := Nat.le_trans (Nat.le_add_right _ _) hB.fine.ok.rds; omega)
  have LK := Lib.hid hB.rok
  clear hB hus hfu
  go_enter Tryz.func32, Tryz.ntmps32
  go_wp2_with fail
  with_reducible refine (mout_any m F s _ (B.out.ma) LO.out).mono ?_
  rintro e w1 ⟨ao, co, rfl, ho, hc⟩
  have C1 := Lib.hid (show Chg w w1 Nothing from hc)
  have O1 := Lib.hid (ownsRow_base (base' := w.heap.size) ho (Nat.le_refl _))
  clear hc ho
  go_wp2_with fail
  with_reducible refine (mreads_any m F s _ (B.out.ma.quiet C1.out) LR.out).mono ?_
  rintro e w2 ⟨ar, cr, rfl, ho, hc⟩
  have C2 := Lib.hid (show Chg w w2 Nothing from C1.out.trans hc (fun _ _ h => h))
  have O1 := Lib.hid (row08_chg O1.out hc (fun _ _ h => h))
  have O2 := Lib.hid (ownsRow_base (base' := w.heap.size) ho C1.out.size)
  clear hc ho
  go_wp2_with fail
  with_reducible refine (mwrites_any m F s _ (B.out.ma.quiet C2.out)).mono ?_
  rintro e w3 ⟨aw, cw, rfl, ho, hc⟩
  have C3 := Lib.hid (show Chg w w3 Nothing from C2.out.trans hc (fun _ _ h => h))
  have O1 := Lib.hid (row08_chg O1.out hc (fun _ _ h => h))
  have O2 := Lib.hid (row08_chg O2.out hc (fun _ _ h => h))
  have O3 := Lib.hid (ownsRow_base (base' := w.heap.size) ho C2.out.size)
  clear hc ho
  go_wp2_with fail
  with_reducible refine (mstack_any m F s _ (B.out.ma.quiet C3.out)).mono ?_
  rintro e w4 ⟨ak, ck, rfl, ho, hc⟩
  have C4 := Lib.hid (show Chg w w4 Nothing from C3.out.trans hc (fun _ _ h => h))
  have O1 := Lib.hid (row08_chg O1.out hc (fun _ _ h => h))
  have O2 := Lib.hid (row08_chg O2.out hc (fun _ _ h => h))
  have O3 := Lib.hid (row08_chg O3.out hc (fun _ _ h => h))
  have O4 := Lib.hid (ownsRow_base (base' := w.heap.size) ho C3.out.size)
  clear hc ho
  go_wp2_with fail
  with_reducible refine (mlocals_any m F s _ (B.out.ma.quiet C4.out)).mono ?_
  rintro e w5 ⟨al, ca, rfl, ho, hc⟩
  have C5 := Lib.hid (show Chg w w5 Nothing from C4.out.trans hc (fun _ _ h => h))
  have O1 := Lib.hid (row08_chg O1.out hc (fun _ _ h => h))
  have O2 := Lib.hid (row08_chg O2.out hc (fun _ _ h => h))
  have O3 := Lib.hid (row08_chg O3.out hc (fun _ _ h => h))
  have O4 := Lib.hid (row08_chg O4.out hc (fun _ _ h => h))
  have O5 := Lib.hid (ownsRow_base (base' := w.heap.size) ho C4.out.size)
  clear hc ho
  go_wp2_with fail
  have B5 := Lib.hid (B.out.quiet C5.out)
  obtain ⟨vc, vA, vS, vC, vT, vR, vB, cl, hR⟩ := B5.out.rm
  obtain ⟨aT, cT, rfl, -, hsT⟩ := hR.out.sees
  obtain ⟨aR, cR, rfl, -, hsR⟩ := hR.reads.sees
  obtain ⟨aB, cB, rfl, -, hsB⟩ := hR.buf.sees
  obtain ⟨aS, cS, rfl, -, hsS⟩ := hR.num.sees
  obtain ⟨aC, cC, rfl, -, hsC⟩ := hR.cal.sees
  have HR := Lib.hid hR
  have ST := Lib.hid hsT
  have SR := Lib.hid hsR
  have SB := Lib.hid hsB
  have SS := Lib.hid hsS
  have SL := Lib.hid (Sees.of_owns hR.loc)
  have P1 := Lib.hid (Sees.of_owns O1.out)
  have P2 := Lib.hid (Sees.of_owns O2.out)
  have P3 := Lib.hid (Sees.of_owns O3.out)
  have P4 := Lib.hid (Sees.of_owns O4.out)
  have P5 := Lib.hid (Sees.of_owns O5.out)
  have LB := Lib.hid (show s.buf.length ≤ 140737488355328 by have := LK.out.buf; omega)
  have LS := Lib.hid (show s.s.length ≤ 140737488355328 by have := LK.out.len; omega)
  have LO2 := Lib.hid (show s.out.length ≤ 140737488355328 by have := LO.out; omega)
  have LR2 := Lib.hid (show s.reads.length ≤ 140737488355328 by have := LR.out; omega)
  clear hR hsT hsR hsB hsS hsC
  go_wp2_with fail
  refine beginL (fun w' => w'.cell? ⟨q, 14, none⟩ = some (.int .i64 s.how.1) ∧ w'.cell? ⟨q, 15, none⟩ = some (.int .i64 s.how.2.1) ∧ w'.cell? ⟨q, 16, none⟩ = some (.int .i64 s.how.2.2) ∧ w'.cell? ⟨q, 17, none⟩ = some (.slice aT s.out.length cT) ∧ w'.cell? ⟨q, 18, none⟩ = some (.slice aR s.reads.length cR) ∧ w'.cell? ⟨q, 19, none⟩ = some (.slice aB s.buf.length cB) ∧ w'.cell? ⟨q, 12, none⟩ = some (.int .i64 (s.used : Int)) ∧ w'.cell? ⟨q, 11, none⟩ = some (.int .i64 (s.at_ : Int)) ∧ w'.cell? ⟨q, 8, none⟩ = some (.slice aS s.s.length cS) ∧ w'.cell? ⟨q, 10, none⟩ = some (.slice (some ⟨lb, 0, none⟩) 8 cl) ∧ w'.cell? ⟨q, 9, none⟩ = some (.slice aC s.calls.length cC)) 76 (by kernel_rfl) ⟨(Chg.refl w5 Nothing).drew.cell (blk_cell HR.out.blk 14) id, (Chg.refl w5 Nothing).drew.cell (blk_cell HR.out.blk 15) id, (Chg.refl w5 Nothing).drew.cell (blk_cell HR.out.blk 16) id, (Chg.refl w5 Nothing).drew.cell (blk_cell HR.out.blk 17) id, (Chg.refl w5 Nothing).drew.cell (blk_cell HR.out.blk 18) id, (Chg.refl w5 Nothing).drew.cell (blk_cell HR.out.blk 19) id, (Chg.refl w5 Nothing).drew.cell (blk_cell HR.out.blk 12) id, (Chg.refl w5 Nothing).drew.cell (blk_cell HR.out.blk 11) id, (Chg.refl w5 Nothing).drew.cell (blk_cell HR.out.blk 8) id, (Chg.refl w5 Nothing).drew.cell (blk_cell HR.out.blk 10) id, (Chg.refl w5 Nothing).drew.cell (blk_cell HR.out.blk 9) id⟩ (fun hHeld => ?_)
  refine takeL 0 2 (v := ?_) rfl (by kernel_rfl) (fun _ _ _ h => h) (by rfl) (by assumption) ?_ ?_
  rotate_left
  · (intro w hSw; (try dsimp only at hSw); go_simp; try with_reducible rfl)
  try simp only [Act.put, List.setIfInBounds_toArray, List.set_cons_zero, List.set_cons_succ]
  refine takeL 2 2 (v := ?_) rfl (by kernel_rfl) (fun _ _ _ h => h) (by rfl) (by assumption) ?_ ?_
  rotate_left
  · (intro w hSw; (try dsimp only at hSw); go_simp; try with_reducible rfl)
  try simp only [Act.put, List.setIfInBounds_toArray, List.set_cons_zero, List.set_cons_succ]
  refine takeL 3 2 (v := ?_) rfl (by kernel_rfl) (fun _ _ _ h => h) (by rfl) (by assumption) ?_ ?_
  rotate_left
  · (intro w hSw; (try dsimp only at hSw); go_simp; try with_reducible rfl)
  try simp only [Act.put, List.setIfInBounds_toArray, List.set_cons_zero, List.set_cons_succ]
  refine takeL 4 2 (v := ?_) rfl (by kernel_rfl) (fun _ _ _ h => h) (by rfl) (by assumption) ?_ ?_
  rotate_left
  · (intro w hSw; (try dsimp only at hSw); go_simp; try with_reducible rfl)
  try simp only [Act.put, List.setIfInBounds_toArray, List.set_cons_zero, List.set_cons_succ]
  refine takeL 5 2 (v := ?_) rfl (by kernel_rfl) (fun _ _ _ h => h) (by rfl) (by assumption) ?_ ?_
  rotate_left
  · (intro w hSw; (try dsimp only at hSw); go_simp; try with_reducible rfl)
  try simp only [Act.put, List.setIfInBounds_toArray, List.set_cons_zero, List.set_cons_succ]
  refine oneL 1 rfl (by kernel_rfl) (by rfl) (fun K hK => ?_)
  go_simp
  go_at_call 19
  refine (mend_any m F s _ (B5.out.ma.quiet ((Chg.refl w5 Nothing).drew))).mono ?_
  rintro e x1 ⟨rfl, hc⟩
  have D1 := Lib.hid ((((Chg.refl w5 Nothing).drew)).trans hc (fun _ _ h => h))
  clear hc
  go_wp2_with fail
  refine hK.out _ _ ⟨D1.out.cell (blk_cell HR.out.blk 14) id, D1.out.cell (blk_cell HR.out.blk 15) id, D1.out.cell (blk_cell HR.out.blk 16) id, D1.out.cell (blk_cell HR.out.blk 17) id, D1.out.cell (blk_cell HR.out.blk 18) id, D1.out.cell (blk_cell HR.out.blk 19) id, D1.out.cell (blk_cell HR.out.blk 12) id, D1.out.cell (blk_cell HR.out.blk 11) id, D1.out.cell (blk_cell HR.out.blk 8) id, D1.out.cell (blk_cell HR.out.blk 10) id, D1.out.cell (blk_cell HR.out.blk 9) id⟩ (fun hHeld => ?_)
  clear hK K
  try simp only [Act.put, List.setIfInBounds_toArray, List.set_cons_zero, List.set_cons_succ]
  refine takeL 6 2 (v := ?_) rfl (by kernel_rfl) (fun _ _ _ h => h) (by rfl) (by assumption) ?_ ?_
  rotate_left
  · (intro w hSw; (try dsimp only at hSw); go_simp; try with_reducible rfl)
  try simp only [Act.put, List.setIfInBounds_toArray, List.set_cons_zero, List.set_cons_succ]
  refine takeL 7 2 (v := ?_) rfl (by kernel_rfl) (fun _ _ _ h => h) (by rfl) (by assumption) ?_ ?_
  rotate_left
  · (intro w hSw; (try dsimp only at hSw); go_simp; try with_reducible rfl)
  try simp only [Act.put, List.setIfInBounds_toArray, List.set_cons_zero, List.set_cons_succ]
  refine takeL 8 2 (v := ?_) rfl (by kernel_rfl) (fun _ _ _ h => h) (by rfl) (by assumption) ?_ ?_
  rotate_left
  · (intro w hSw; (try dsimp only at hSw); go_simp; try with_reducible rfl)
  try simp only [Act.put, List.setIfInBounds_toArray, List.set_cons_zero, List.set_cons_succ]
  refine takeL 9 2 (v := ?_) rfl (by kernel_rfl) (fun _ _ _ h => h) (by rfl) (by assumption) ?_ ?_
  rotate_left
  · (intro w hSw; (try dsimp only at hSw); go_simp; try with_reducible rfl)
  try simp only [Act.put, List.setIfInBounds_toArray, List.set_cons_zero, List.set_cons_succ]
  refine takeL 10 2 (v := ?_) rfl (by kernel_rfl) (fun _ _ _ h => h) (by rfl) (by assumption) ?_ ?_
  rotate_left
  · (intro w hSw; (try dsimp only at hSw); go_simp; try with_reducible rfl)
  try simp only [Act.put, List.setIfInBounds_toArray, List.set_cons_zero, List.set_cons_succ]
  refine takeL 11 2 (v := ?_) rfl (by kernel_rfl) (fun _ _ _ h => h) (by rfl) (by assumption) ?_ ?_
  rotate_left
  · (intro w hSw; (try dsimp only at hSw); go_simp; try with_reducible rfl)
  try simp only [Act.put, List.setIfInBounds_toArray, List.set_cons_zero, List.set_cons_succ]
  refine takeL 12 2 (v := ?_) rfl (by kernel_rfl) (fun _ _ _ h => h) (by rfl) (by assumption) ?_ ?_
  rotate_left
  · (intro w hSw; (try dsimp only at hSw); go_simp; try with_reducible rfl)
  try simp only [Act.put, List.setIfInBounds_toArray, List.set_cons_zero, List.set_cons_succ]
  refine oneL 13 rfl (by kernel_rfl) (by rfl) (fun K hK => ?_)
  go_simp
  go_at_call 20
  refine (exact08_true ao aT co cT s.out _ (P1.out.chg D1.out) (ST.out.chg D1.out) LO2.out).mono ?_
  rintro e x2 ⟨rfl, hm⟩
  have hc : Chg x1 x2 Nothing := by obtain ⟨mm, rfl⟩ := hm; exact (Chg.refl _ Nothing).drewN mm
  have D2 := Lib.hid (D1.out.trans hc (fun _ _ h => h))
  clear hc hm
  go_wp2_with fail
  refine hK.out _ _ ⟨D2.out.cell (blk_cell HR.out.blk 14) id, D2.out.cell (blk_cell HR.out.blk 15) id, D2.out.cell (blk_cell HR.out.blk 16) id, D2.out.cell (blk_cell HR.out.blk 17) id, D2.out.cell (blk_cell HR.out.blk 18) id, D2.out.cell (blk_cell HR.out.blk 19) id, D2.out.cell (blk_cell HR.out.blk 12) id, D2.out.cell (blk_cell HR.out.blk 11) id, D2.out.cell (blk_cell HR.out.blk 8) id, D2.out.cell (blk_cell HR.out.blk 10) id, D2.out.cell (blk_cell HR.out.blk 9) id⟩ (fun hHeld => ?_)
  clear hK K
  try simp only [Act.put, List.setIfInBounds_toArray, List.set_cons_zero, List.set_cons_succ]
  refine takeL 14 2 (v := ?_) rfl (by kernel_rfl) (fun _ _ _ h => h) (by rfl) (by assumption) ?_ ?_
  rotate_left
  · (intro w hSw; (try dsimp only at hSw); go_simp; try with_reducible rfl)
  try simp only [Act.put, List.setIfInBounds_toArray, List.set_cons_zero, List.set_cons_succ]
  refine takeL 15 2 (v := ?_) rfl (by kernel_rfl) (fun _ _ _ h => h) (by rfl) (by assumption) ?_ ?_
  rotate_left
  · (intro w hSw; (try dsimp only at hSw); go_simp; try with_reducible rfl)
  try simp only [Act.put, List.setIfInBounds_toArray, List.set_cons_zero, List.set_cons_succ]
  refine takeL 16 2 (v := ?_) rfl (by kernel_rfl) (fun _ _ _ h => h) (by rfl) (by assumption) ?_ ?_
  rotate_left
  · (intro w hSw; (try dsimp only at hSw); go_simp; try with_reducible rfl)
  try simp only [Act.put, List.setIfInBounds_toArray, List.set_cons_zero, List.set_cons_succ]
  refine takeL 17 2 (v := ?_) rfl (by kernel_rfl) (fun _ _ _ h => h) (by rfl) (by assumption) ?_ ?_
  rotate_left
  · (intro w hSw; (try dsimp only at hSw); go_simp; try with_reducible rfl)
  try simp only [Act.put, List.setIfInBounds_toArray, List.set_cons_zero, List.set_cons_succ]
  refine takeL 18 2 (v := ?_) rfl (by kernel_rfl) (fun _ _ _ h => h) (by rfl) (by assumption) ?_ ?_
  rotate_left
  · (intro w hSw; (try dsimp only at hSw); go_simp; try with_reducible rfl)
  try simp only [Act.put, List.setIfInBounds_toArray, List.set_cons_zero, List.set_cons_succ]
  refine takeL 19 2 (v := ?_) rfl (by kernel_rfl) (fun _ _ _ h => h) (by rfl) (by assumption) ?_ ?_
  rotate_left
  · (intro w hSw; (try dsimp only at hSw); go_simp; try with_reducible rfl)
  try simp only [Act.put, List.setIfInBounds_toArray, List.set_cons_zero, List.set_cons_succ]
  refine takeL 20 2 (v := ?_) rfl (by kernel_rfl) (fun _ _ _ h => h) (by rfl) (by assumption) ?_ ?_
  rotate_left
  · (intro w hSw; (try dsimp only at hSw); go_simp; try with_reducible rfl)
  try simp only [Act.put, List.setIfInBounds_toArray, List.set_cons_zero, List.set_cons_succ]
  refine oneL 21 rfl (by kernel_rfl) (by rfl) (fun K hK => ?_)
  go_simp
  go_at_call 22
  refine (touches08_true ar aR cr cR s.reads _ (P2.out.chg D2.out) (SR.out.chg D2.out) LR2.out).mono ?_
  rintro e x3 ⟨rfl, hm⟩
  have hc : Chg x2 x3 Nothing := by obtain ⟨mm, rfl⟩ := hm; exact (Chg.refl _ Nothing).drewN mm
  have D3 := Lib.hid (D2.out.trans hc (fun _ _ h => h))
  clear hc hm
  go_wp2_with fail
  refine hK.out _ _ ⟨D3.out.cell (blk_cell HR.out.blk 14) id, D3.out.cell (blk_cell HR.out.blk 15) id, D3.out.cell (blk_cell HR.out.blk 16) id, D3.out.cell (blk_cell HR.out.blk 17) id, D3.out.cell (blk_cell HR.out.blk 18) id, D3.out.cell (blk_cell HR.out.blk 19) id, D3.out.cell (blk_cell HR.out.blk 12) id, D3.out.cell (blk_cell HR.out.blk 11) id, D3.out.cell (blk_cell HR.out.blk 8) id, D3.out.cell (blk_cell HR.out.blk 10) id, D3.out.cell (blk_cell HR.out.blk 9) id⟩ (fun hHeld => ?_)
  clear hK K
  try simp only [Act.put, List.setIfInBounds_toArray, List.set_cons_zero, List.set_cons_succ]
  refine takeL 22 2 (v := ?_) rfl (by kernel_rfl) (fun _ _ _ h => h) (by rfl) (by assumption) ?_ ?_
  rotate_left
  · (intro w hSw; (try dsimp only at hSw); go_simp; try with_reducible rfl)
  try simp only [Act.put, List.setIfInBounds_toArray, List.set_cons_zero, List.set_cons_succ]
  refine takeL 23 2 (v := ?_) rfl (by kernel_rfl) (fun _ _ _ h => h) (by rfl) (by assumption) ?_ ?_
  rotate_left
  · (intro w hSw; (try dsimp only at hSw); go_simp; try with_reducible rfl)
  try simp only [Act.put, List.setIfInBounds_toArray, List.set_cons_zero, List.set_cons_succ]
  refine takeL 24 2 (v := ?_) rfl (by kernel_rfl) (fun _ _ _ h => h) (by rfl) (by assumption) ?_ ?_
  rotate_left
  · (intro w hSw; (try dsimp only at hSw); go_simp; try with_reducible rfl)
  try simp only [Act.put, List.setIfInBounds_toArray, List.set_cons_zero, List.set_cons_succ]
  refine takeL 25 2 (v := ?_) rfl (by kernel_rfl) (fun _ _ _ h => h) (by rfl) (by assumption) ?_ ?_
  rotate_left
  · (intro w hSw; (try dsimp only at hSw); go_simp; try with_reducible rfl)
  try simp only [Act.put, List.setIfInBounds_toArray, List.set_cons_zero, List.set_cons_succ]
  refine takeL 26 2 (v := ?_) rfl (by kernel_rfl) (fun _ _ _ h => h) (by rfl) (by assumption) ?_ ?_
  rotate_left
  · (intro w hSw; (try dsimp only at hSw); go_simp; try with_reducible rfl)
  try simp only [Act.put, List.setIfInBounds_toArray, List.set_cons_zero, List.set_cons_succ]
  refine takeL 27 2 (v := ?_) rfl (by kernel_rfl) (fun _ _ _ h => h) (by rfl) (by assumption) ?_ ?_
  rotate_left
  · (intro w hSw; (try dsimp only at hSw); go_simp; try with_reducible rfl)
  try simp only [Act.put, List.setIfInBounds_toArray, List.set_cons_zero, List.set_cons_succ]
  refine takeL 28 2 (v := ?_) rfl (by kernel_rfl) (fun _ _ _ h => h) (by rfl) (by assumption) ?_ ?_
  rotate_left
  · (intro w hSw; (try dsimp only at hSw); go_simp; try with_reducible rfl)
  try simp only [Act.put, List.setIfInBounds_toArray, List.set_cons_zero, List.set_cons_succ]
  refine oneL 29 rfl (by kernel_rfl) (by rfl) (fun K hK => ?_)
  go_simp
  go_at_call 22
  refine (touches08_true aw aB cw cB s.buf _ (P3.out.chg D3.out) (SB.out.chg D3.out) LB.out).mono ?_
  rintro e x4 ⟨rfl, hm⟩
  have hc : Chg x3 x4 Nothing := by obtain ⟨mm, rfl⟩ := hm; exact (Chg.refl _ Nothing).drewN mm
  have D4 := Lib.hid (D3.out.trans hc (fun _ _ h => h))
  clear hc hm
  go_wp2_with fail
  refine hK.out _ _ ⟨D4.out.cell (blk_cell HR.out.blk 14) id, D4.out.cell (blk_cell HR.out.blk 15) id, D4.out.cell (blk_cell HR.out.blk 16) id, D4.out.cell (blk_cell HR.out.blk 17) id, D4.out.cell (blk_cell HR.out.blk 18) id, D4.out.cell (blk_cell HR.out.blk 19) id, D4.out.cell (blk_cell HR.out.blk 12) id, D4.out.cell (blk_cell HR.out.blk 11) id, D4.out.cell (blk_cell HR.out.blk 8) id, D4.out.cell (blk_cell HR.out.blk 10) id, D4.out.cell (blk_cell HR.out.blk 9) id⟩ (fun hHeld => ?_)
  clear hK K
  try simp only [Act.put, List.setIfInBounds_toArray, List.set_cons_zero, List.set_cons_succ]
  refine takeL 30 2 (v := ?_) rfl (by kernel_rfl) (fun _ _ _ h => h) (by rfl) (by assumption) ?_ ?_
  rotate_left
  · (intro w hSw; (try dsimp only at hSw); go_simp; try with_reducible rfl)
  try simp only [Act.put, List.setIfInBounds_toArray, List.set_cons_zero, List.set_cons_succ]
  refine takeL 31 2 (v := ?_) rfl (by kernel_rfl) (fun _ _ _ h => h) (by rfl) (by assumption) ?_ ?_
  rotate_left
  · (intro w hSw; (try dsimp only at hSw); go_simp; try with_reducible rfl)
  try simp only [Act.put, List.setIfInBounds_toArray, List.set_cons_zero, List.set_cons_succ]
  refine takeL 32 2 (v := ?_) rfl (by kernel_rfl) (fun _ _ _ h => h) (by rfl) (by assumption) ?_ ?_
  rotate_left
  · (intro w hSw; (try dsimp only at hSw); go_simp; try with_reducible rfl)
  try simp only [Act.put, List.setIfInBounds_toArray, List.set_cons_zero, List.set_cons_succ]
  refine takeL 34 2 (v := ?_) rfl (by kernel_rfl) (fun _ _ _ h => h) (by rfl) (by assumption) ?_ ?_
  rotate_left
  · (intro w hSw; (try dsimp only at hSw); go_simp; try with_reducible rfl)
  try simp only [Act.put, List.setIfInBounds_toArray, List.set_cons_zero, List.set_cons_succ]
  refine takeL 35 2 (v := ?_) rfl (by kernel_rfl) (fun _ _ _ h => h) (by rfl) (by assumption) ?_ ?_
  rotate_left
  · (intro w hSw; (try dsimp only at hSw); go_simp; try with_reducible rfl)
  try simp only [Act.put, List.setIfInBounds_toArray, List.set_cons_zero, List.set_cons_succ]
  refine takeL 36 2 (v := ?_) rfl (by kernel_rfl) (fun _ _ _ h => h) (by rfl) (by assumption) ?_ ?_
  rotate_left
  · (intro w hSw; (try dsimp only at hSw); go_simp; try with_reducible rfl)
  try simp only [Act.put, List.setIfInBounds_toArray, List.set_cons_zero, List.set_cons_succ]
  refine takeL 37 2 (v := ?_) rfl (by kernel_rfl) (fun _ _ _ h => h) (by rfl) (by assumption) ?_ ?_
  rotate_left
  · (intro w hSw; (try dsimp only at hSw); go_simp; try with_reducible rfl)
  try simp only [Act.put, List.setIfInBounds_toArray, List.set_cons_zero, List.set_cons_succ]
  refine oneL 33 rfl (by kernel_rfl) (by rfl) (fun K hK => ?_)
  go_simp
  go_at_call 25
  refine (mused_any m F s _ (B5.out.ma.quiet D4.out)).mono ?_
  rintro e x5 ⟨rfl, hc⟩
  have D5 := Lib.hid (D4.out.trans hc (fun _ _ h => h))
  clear hc
  go_wp2_with fail
  refine hK.out _ _ ⟨D5.out.cell (blk_cell HR.out.blk 14) id, D5.out.cell (blk_cell HR.out.blk 15) id, D5.out.cell (blk_cell HR.out.blk 16) id, D5.out.cell (blk_cell HR.out.blk 17) id, D5.out.cell (blk_cell HR.out.blk 18) id, D5.out.cell (blk_cell HR.out.blk 19) id, D5.out.cell (blk_cell HR.out.blk 12) id, D5.out.cell (blk_cell HR.out.blk 11) id, D5.out.cell (blk_cell HR.out.blk 8) id, D5.out.cell (blk_cell HR.out.blk 10) id, D5.out.cell (blk_cell HR.out.blk 9) id⟩ (fun hHeld => ?_)
  clear hK K
  try simp only [Act.put, List.setIfInBounds_toArray, List.set_cons_zero, List.set_cons_succ]
  refine takeL 38 2 (v := ?_) rfl (by kernel_rfl) (fun _ _ _ h => h) (by rfl) (by assumption) ?_ ?_
  rotate_left
  · (intro w hSw; (try dsimp only at hSw); go_simp; try with_reducible rfl)
  try simp only [Act.put, List.setIfInBounds_toArray, List.set_cons_zero, List.set_cons_succ]
  refine takeL 39 2 (v := ?_) rfl (by kernel_rfl) (fun _ _ _ h => h) (by rfl) (by assumption) ?_ ?_
  rotate_left
  · (intro w hSw; (try dsimp only at hSw); go_simp; try with_reducible rfl)
  try simp only [Act.put, List.setIfInBounds_toArray, List.set_cons_zero, List.set_cons_succ]
  refine takeL 40 2 (v := ?_) rfl (by kernel_rfl) (fun _ _ _ h => h) (by rfl) (by assumption) ?_ ?_
  rotate_left
  · (intro w hSw; (try dsimp only at hSw); go_simp; try with_reducible rfl)
  try simp only [Act.put, List.setIfInBounds_toArray, List.set_cons_zero, List.set_cons_succ]
  refine takeL 41 2 (v := ?_) rfl (by kernel_rfl) (fun _ _ _ h => h) (by rfl) (by assumption) ?_ ?_
  rotate_left
  · (intro w hSw; (try dsimp only at hSw); go_simp; try with_reducible rfl)
  try simp only [Act.put, List.setIfInBounds_toArray, List.set_cons_zero, List.set_cons_succ]
  refine takeL 43 2 (v := ?_) rfl (by kernel_rfl) (fun _ _ _ h => h) (by rfl) (by assumption) ?_ ?_
  rotate_left
  · (intro w hSw; (try dsimp only at hSw); go_simp; try with_reducible rfl)
  try simp only [Act.put, List.setIfInBounds_toArray, List.set_cons_zero, List.set_cons_succ]
  refine takeL 44 2 (v := ?_) rfl (by kernel_rfl) (fun _ _ _ h => h) (by rfl) (by assumption) ?_ ?_
  rotate_left
  · (intro w hSw; (try dsimp only at hSw); go_simp; try with_reducible rfl)
  try simp only [Act.put, List.setIfInBounds_toArray, List.set_cons_zero, List.set_cons_succ]
  refine takeL 45 2 (v := ?_) rfl (by kernel_rfl) (fun _ _ _ h => h) (by rfl) (by assumption) ?_ ?_
  rotate_left
  · (intro w hSw; (try dsimp only at hSw); go_simp; try with_reducible rfl)
  try simp only [Act.put, List.setIfInBounds_toArray, List.set_cons_zero, List.set_cons_succ]
  refine takeL 46 2 (v := ?_) rfl (by kernel_rfl) (fun _ _ _ h => h) (by rfl) (by assumption) ?_ ?_
  rotate_left
  · (intro w hSw; (try dsimp only at hSw); go_simp; try with_reducible rfl)
  try simp only [Act.put, List.setIfInBounds_toArray, List.set_cons_zero, List.set_cons_succ]
  refine oneL 42 rfl (by kernel_rfl) (by rfl) (fun K hK => ?_)
  go_simp
  go_at_call 73
  refine (mplace_any m F s _ (B5.out.ma.quiet D5.out)).mono ?_
  rintro e x6 ⟨rfl, hc⟩
  have D6 := Lib.hid (D5.out.trans hc (fun _ _ h => h))
  clear hc
  go_wp2_with fail
  refine hK.out _ _ ⟨D6.out.cell (blk_cell HR.out.blk 14) id, D6.out.cell (blk_cell HR.out.blk 15) id, D6.out.cell (blk_cell HR.out.blk 16) id, D6.out.cell (blk_cell HR.out.blk 17) id, D6.out.cell (blk_cell HR.out.blk 18) id, D6.out.cell (blk_cell HR.out.blk 19) id, D6.out.cell (blk_cell HR.out.blk 12) id, D6.out.cell (blk_cell HR.out.blk 11) id, D6.out.cell (blk_cell HR.out.blk 8) id, D6.out.cell (blk_cell HR.out.blk 10) id, D6.out.cell (blk_cell HR.out.blk 9) id⟩ (fun hHeld => ?_)
  clear hK K
  try simp only [Act.put, List.setIfInBounds_toArray, List.set_cons_zero, List.set_cons_succ]
  refine takeL 47 2 (v := ?_) rfl (by kernel_rfl) (fun _ _ _ h => h) (by rfl) (by assumption) ?_ ?_
  rotate_left
  · (intro w hSw; (try dsimp only at hSw); go_simp; try with_reducible rfl)
  try simp only [Act.put, List.setIfInBounds_toArray, List.set_cons_zero, List.set_cons_succ]
  refine takeL 48 2 (v := ?_) rfl (by kernel_rfl) (fun _ _ _ h => h) (by rfl) (by assumption) ?_ ?_
  rotate_left
  · (intro w hSw; (try dsimp only at hSw); go_simp; try with_reducible rfl)
  try simp only [Act.put, List.setIfInBounds_toArray, List.set_cons_zero, List.set_cons_succ]
  refine takeL 49 2 (v := ?_) rfl (by kernel_rfl) (fun _ _ _ h => h) (by rfl) (by assumption) ?_ ?_
  rotate_left
  · (intro w hSw; (try dsimp only at hSw); go_simp; try with_reducible rfl)
  try simp only [Act.put, List.setIfInBounds_toArray, List.set_cons_zero, List.set_cons_succ]
  refine takeL 50 2 (v := ?_) rfl (by kernel_rfl) (fun _ _ _ h => h) (by rfl) (by assumption) ?_ ?_
  rotate_left
  · (intro w hSw; (try dsimp only at hSw); go_simp; try with_reducible rfl)
  try simp only [Act.put, List.setIfInBounds_toArray, List.set_cons_zero, List.set_cons_succ]
  refine takeL 51 2 (v := ?_) rfl (by kernel_rfl) (fun _ _ _ h => h) (by rfl) (by assumption) ?_ ?_
  rotate_left
  · (intro w hSw; (try dsimp only at hSw); go_simp; try with_reducible rfl)
  try simp only [Act.put, List.setIfInBounds_toArray, List.set_cons_zero, List.set_cons_succ]
  refine takeL 52 2 (v := ?_) rfl (by kernel_rfl) (fun _ _ _ h => h) (by rfl) (by assumption) ?_ ?_
  rotate_left
  · (intro w hSw; (try dsimp only at hSw); go_simp; try with_reducible rfl)
  try simp only [Act.put, List.setIfInBounds_toArray, List.set_cons_zero, List.set_cons_succ]
  refine takeL 53 2 (v := ?_) rfl (by kernel_rfl) (fun _ _ _ h => h) (by rfl) (by assumption) ?_ ?_
  rotate_left
  · (intro w hSw; (try dsimp only at hSw); go_simp; try with_reducible rfl)
  try simp only [Act.put, List.setIfInBounds_toArray, List.set_cons_zero, List.set_cons_succ]
  refine takeL 54 2 (v := ?_) rfl (by kernel_rfl) (fun _ _ _ h => h) (by rfl) (by assumption) ?_ ?_
  rotate_left
  · (intro w hSw; (try dsimp only at hSw); go_simp; try with_reducible rfl)
  try simp only [Act.put, List.setIfInBounds_toArray, List.set_cons_zero, List.set_cons_succ]
  refine oneL 55 rfl (by kernel_rfl) (by rfl) (fun K hK => ?_)
  go_simp
  go_at_call 20
  refine (exact08_true ak aS ck cS s.s _ (P4.out.chg D6.out) (SS.out.chg D6.out) LS.out).mono ?_
  rintro e x7 ⟨rfl, hm⟩
  have hc : Chg x6 x7 Nothing := by obtain ⟨mm, rfl⟩ := hm; exact (Chg.refl _ Nothing).drewN mm
  have D7 := Lib.hid (D6.out.trans hc (fun _ _ h => h))
  clear hc hm
  go_wp2_with fail
  refine hK.out _ _ ⟨D7.out.cell (blk_cell HR.out.blk 14) id, D7.out.cell (blk_cell HR.out.blk 15) id, D7.out.cell (blk_cell HR.out.blk 16) id, D7.out.cell (blk_cell HR.out.blk 17) id, D7.out.cell (blk_cell HR.out.blk 18) id, D7.out.cell (blk_cell HR.out.blk 19) id, D7.out.cell (blk_cell HR.out.blk 12) id, D7.out.cell (blk_cell HR.out.blk 11) id, D7.out.cell (blk_cell HR.out.blk 8) id, D7.out.cell (blk_cell HR.out.blk 10) id, D7.out.cell (blk_cell HR.out.blk 9) id⟩ (fun hHeld => ?_)
  clear hK K
  try simp only [Act.put, List.setIfInBounds_toArray, List.set_cons_zero, List.set_cons_succ]
  refine takeL 56 2 (v := ?_) rfl (by kernel_rfl) (fun _ _ _ h => h) (by rfl) (by assumption) ?_ ?_
  rotate_left
  · (intro w hSw; (try dsimp only at hSw); go_simp; try with_reducible rfl)
  try simp only [Act.put, List.setIfInBounds_toArray, List.set_cons_zero, List.set_cons_succ]
  refine takeL 57 2 (v := ?_) rfl (by kernel_rfl) (fun _ _ _ h => h) (by rfl) (by assumption) ?_ ?_
  rotate_left
  · (intro w hSw; (try dsimp only at hSw); go_simp; try with_reducible rfl)
  try simp only [Act.put, List.setIfInBounds_toArray, List.set_cons_zero, List.set_cons_succ]
  refine takeL 58 2 (v := ?_) rfl (by kernel_rfl) (fun _ _ _ h => h) (by rfl) (by assumption) ?_ ?_
  rotate_left
  · (intro w hSw; (try dsimp only at hSw); go_simp; try with_reducible rfl)
  try simp only [Act.put, List.setIfInBounds_toArray, List.set_cons_zero, List.set_cons_succ]
  refine takeL 59 2 (v := ?_) rfl (by kernel_rfl) (fun _ _ _ h => h) (by rfl) (by assumption) ?_ ?_
  rotate_left
  · (intro w hSw; (try dsimp only at hSw); go_simp; try with_reducible rfl)
  try simp only [Act.put, List.setIfInBounds_toArray, List.set_cons_zero, List.set_cons_succ]
  refine takeL 60 2 (v := ?_) rfl (by kernel_rfl) (fun _ _ _ h => h) (by rfl) (by assumption) ?_ ?_
  rotate_left
  · (intro w hSw; (try dsimp only at hSw); go_simp; try with_reducible rfl)
  try simp only [Act.put, List.setIfInBounds_toArray, List.set_cons_zero, List.set_cons_succ]
  refine takeL 61 2 (v := ?_) rfl (by kernel_rfl) (fun _ _ _ h => h) (by rfl) (by assumption) ?_ ?_
  rotate_left
  · (intro w hSw; (try dsimp only at hSw); go_simp; try with_reducible rfl)
  try simp only [Act.put, List.setIfInBounds_toArray, List.set_cons_zero, List.set_cons_succ]
  refine takeL 62 2 (v := ?_) rfl (by kernel_rfl) (fun _ _ _ h => h) (by rfl) (by assumption) ?_ ?_
  rotate_left
  · (intro w hSw; (try dsimp only at hSw); go_simp; try with_reducible rfl)
  try simp only [Act.put, List.setIfInBounds_toArray, List.set_cons_zero, List.set_cons_succ]
  refine oneL 63 rfl (by kernel_rfl) (by rfl) (fun K hK => ?_)
  go_simp
  go_at_call 20
  refine (exact08_true al (some ⟨lb, 0, none⟩) ca cl (eightN s.locals) _ (P5.out.chg D7.out) (SL.out.chg D7.out) (by show (8 : Nat) ≤ _; decide)).mono ?_
  rintro e x8 ⟨rfl, hm⟩
  have hc : Chg x7 x8 Nothing := by obtain ⟨mm, rfl⟩ := hm; exact (Chg.refl _ Nothing).drewN mm
  have D8 := Lib.hid (D7.out.trans hc (fun _ _ h => h))
  clear hc hm
  go_wp2_with fail
  refine hK.out _ _ ⟨D8.out.cell (blk_cell HR.out.blk 14) id, D8.out.cell (blk_cell HR.out.blk 15) id, D8.out.cell (blk_cell HR.out.blk 16) id, D8.out.cell (blk_cell HR.out.blk 17) id, D8.out.cell (blk_cell HR.out.blk 18) id, D8.out.cell (blk_cell HR.out.blk 19) id, D8.out.cell (blk_cell HR.out.blk 12) id, D8.out.cell (blk_cell HR.out.blk 11) id, D8.out.cell (blk_cell HR.out.blk 8) id, D8.out.cell (blk_cell HR.out.blk 10) id, D8.out.cell (blk_cell HR.out.blk 9) id⟩ (fun hHeld => ?_)
  clear hK K
  try simp only [Act.put, List.setIfInBounds_toArray, List.set_cons_zero, List.set_cons_succ]
  refine takeL 64 2 (v := ?_) rfl (by kernel_rfl) (fun _ _ _ h => h) (by rfl) (by assumption) ?_ ?_
  rotate_left
  · (intro w hSw; (try dsimp only at hSw); go_simp; try with_reducible rfl)
  try simp only [Act.put, List.setIfInBounds_toArray, List.set_cons_zero, List.set_cons_succ]
  refine takeL 65 2 (v := ?_) rfl (by kernel_rfl) (fun _ _ _ h => h) (by rfl) (by assumption) ?_ ?_
  rotate_left
  · (intro w hSw; (try dsimp only at hSw); go_simp; try with_reducible rfl)
  try simp only [Act.put, List.setIfInBounds_toArray, List.set_cons_zero, List.set_cons_succ]
  refine takeL 66 2 (v := ?_) rfl (by kernel_rfl) (fun _ _ _ h => h) (by rfl) (by assumption) ?_ ?_
  rotate_left
  · (intro w hSw; (try dsimp only at hSw); go_simp; try with_reducible rfl)
  try simp only [Act.put, List.setIfInBounds_toArray, List.set_cons_zero, List.set_cons_succ]
  refine takeL 68 2 (v := ?_) rfl (by kernel_rfl) (fun _ _ _ h => h) (by rfl) (by assumption) ?_ ?_
  rotate_left
  · (intro w hSw; (try dsimp only at hSw); go_simp; try with_reducible rfl)
  try simp only [Act.put, List.setIfInBounds_toArray, List.set_cons_zero, List.set_cons_succ]
  refine takeL 69 2 (v := ?_) rfl (by kernel_rfl) (fun _ _ _ h => h) (by rfl) (by assumption) ?_ ?_
  rotate_left
  · (intro w hSw; (try dsimp only at hSw); go_simp; try with_reducible rfl)
  try simp only [Act.put, List.setIfInBounds_toArray, List.set_cons_zero, List.set_cons_succ]
  refine takeL 70 2 (v := ?_) rfl (by kernel_rfl) (fun _ _ _ h => h) (by rfl) (by assumption) ?_ ?_
  rotate_left
  · (intro w hSw; (try dsimp only at hSw); go_simp; try with_reducible rfl)
  try simp only [Act.put, List.setIfInBounds_toArray, List.set_cons_zero, List.set_cons_succ]
  refine takeL 71 2 (v := ?_) rfl (by kernel_rfl) (fun _ _ _ h => h) (by rfl) (by assumption) ?_ ?_
  rotate_left
  · (intro w hSw; (try dsimp only at hSw); go_simp; try with_reducible rfl)
  try simp only [Act.put, List.setIfInBounds_toArray, List.set_cons_zero, List.set_cons_succ]
  refine takeL 72 2 (v := ?_) rfl (by kernel_rfl) (fun _ _ _ h => h) (by rfl) (by assumption) ?_ ?_
  rotate_left
  · (intro w hSw; (try dsimp only at hSw); go_simp; try with_reducible rfl)
  try simp only [Act.put, List.setIfInBounds_toArray, List.set_cons_zero, List.set_cons_succ]
  refine oneL 67 rfl (by kernel_rfl) (by rfl) (fun K hK => ?_)
  go_simp
  go_at_call 29
  refine (mdepth_any m F s _ (B5.out.ma.quiet D8.out)).mono ?_
  rintro e x9 ⟨rfl, hc⟩
  have D9 := Lib.hid (D8.out.trans hc (fun _ _ h => h))
  clear hc
  go_wp2_with fail
  refine hK.out _ _ ⟨D9.out.cell (blk_cell HR.out.blk 14) id, D9.out.cell (blk_cell HR.out.blk 15) id, D9.out.cell (blk_cell HR.out.blk 16) id, D9.out.cell (blk_cell HR.out.blk 17) id, D9.out.cell (blk_cell HR.out.blk 18) id, D9.out.cell (blk_cell HR.out.blk 19) id, D9.out.cell (blk_cell HR.out.blk 12) id, D9.out.cell (blk_cell HR.out.blk 11) id, D9.out.cell (blk_cell HR.out.blk 8) id, D9.out.cell (blk_cell HR.out.blk 10) id, D9.out.cell (blk_cell HR.out.blk 9) id⟩ (fun hHeld => ?_)
  clear hK K
  try simp only [Act.put, List.setIfInBounds_toArray, List.set_cons_zero, List.set_cons_succ]
  refine takeL 73 2 (v := ?_) rfl (by kernel_rfl) (fun _ _ _ h => h) (by rfl) (by assumption) ?_ ?_
  rotate_left
  · (intro w hSw; (try dsimp only at hSw); go_simp; try with_reducible rfl)
  try simp only [Act.put, List.setIfInBounds_toArray, List.set_cons_zero, List.set_cons_succ]
  refine takeL 74 2 (v := ?_) rfl (by kernel_rfl) (fun _ _ _ h => h) (by rfl) (by assumption) ?_ ?_
  rotate_left
  · (intro w hSw; (try dsimp only at hSw); go_simp; try with_reducible rfl)
  try simp only [Act.put, List.setIfInBounds_toArray, List.set_cons_zero, List.set_cons_succ]
  refine takeL 75 2 (v := ?_) rfl (by kernel_rfl) (fun _ _ _ h => h) (by rfl) (by assumption) ?_ ?_
  rotate_left
  · (intro w hSw; (try dsimp only at hSw); go_simp; try with_reducible rfl)
  try simp only [Act.put, List.setIfInBounds_toArray, List.set_cons_zero, List.set_cons_succ]
  refine doneL (by kernel_rfl) ?_ _
  have AS := Lib.hid (show AllS x9 x9 w.heap.size (.slice ao s.out.length co) (.slice ar s.reads.length cr) (.slice aw s.buf.length cw) (.slice ak s.s.length ck) (.slice al 8 ca) from
    have zz := D9.out.size
    ⟨((Spl.of O1.out).quiet D9.out).up (Nat.le_refl _) zz, ((Spl.of O2.out).quiet D9.out).up (Nat.le_refl _) zz, ((Spl.of O3.out).quiet D9.out).up (Nat.le_refl _) zz, ((Spl.of O4.out).quiet D9.out).up (Nat.le_refl _) zz, ((Spl.of O5.out).quiet D9.out).up (Nat.le_refl _) zz, Chg.refl _ _⟩)
  have C9 := Lib.hid (C5.out.trans D9.out (fun _ _ h => h))
  clear LO LR LK C1 C2 C3 C4 C5 O1 O2 O3 O4 O5 B5 HR ST SR SB SS SL P1 P2 P3 P4 P5 LB LS LO2 LR2 D1 D2 D3 D4 D5 D6 D7 D8 D9 hHeld
  generalize s.out.length = n1 at *
  generalize s.reads.length = n2 at *
  generalize s.buf.length = n3 at *
  generalize s.s.length = n4 at *
  have AS0 := Lib.hid (AS.out.alloc (.cells #[.slice ao n1 co, .slice ak n4 ck, .slice al 8 ca] 27))
  have BS0 := Lib.hid (heap_alloc_new x9 (.cells #[.slice ao n1 co, .slice ak n4 ck, .slice al 8 ca] 27))
  go_wp2_with fail
  go_loopg [109] 3 (fun k i wr => ∃ n : Nat, n + k = 3 ∧ i = .int .i64 ((n : Nat) : Int) ∧ AllS x9 wr w.heap.size (.slice ao n1 co) (.slice ar n2 cr) (.slice aw n3 cw) (.slice ak n4 ck) (.slice al 8 ca) ∧ wr.heap[x9.heap.size]? = some (.cells #[.slice ao n1 co, .slice ak n4 ck, .slice al 8 ca] 27))
  case atStart => exact ⟨0, by simp, rfl, AS0.out, BS0.out⟩
  case round =>
    obtain ⟨n, hn, rfl, has, hbs⟩ := hrel
    obtain ⟨go, rfl⟩ : ∃ go, go = gk := ⟨_, rfl⟩
    obtain ⟨wA, rfl⟩ : ∃ wA, wA = wr := ⟨_, rfl⟩
    have A1 := Lib.hid has
    have B1 := Lib.hid hbs
    by_cases hlt : n < 3
    · have hd : decide (n < 3) = true := by simpa using hlt
      have hd2 : decide ((n : Int) < 3) = true := decide_eq_true (by omega)
      obtain ⟨a0, n0, c0, hcell, hspl⟩ : ∃ a0 n0 c0, wA.cell? ⟨x9.heap.size, n, none⟩ = some (.slice a0 n0 c0) ∧ (∀ W, AllS x9 W w.heap.size (.slice ao n1 co) (.slice ar n2 cr) (.slice aw n3 cw) (.slice ak n4 ck) (.slice al 8 ca) → Spl W w.heap.size x9.heap.size 1 (.slice a0 n0 c0)) := by
        have : n = 0 ∨ n = 1 ∨ n = 2 := by omega
        rcases this with rfl | rfl | rfl
        · exact ⟨ao, n1, co, blk_cell hbs 0, fun W h => h.s1⟩
        · exact ⟨ak, n4, ck, blk_cell hbs 1, fun W h => h.s4⟩
        · exact ⟨al, 8, ca, blk_cell hbs 2, fun W h => h.s5⟩
      have SPL := Lib.hid hspl
      have hni : (n : Int) < 3 := by omega
      clear has hbs hspl
      rcases (SPL.out _ A1.out).head with ⟨rfl, rfl, rfl⟩ | ⟨g0, rfl, hg1, hg2, hg3⟩
      · go_wp2_with fail
        go_loopg [119] 0 (fun k i wr => i = .int .i64 0 ∧ wr = wA)
        case atStart => exact ⟨rfl, rfl⟩
        case round =>
          obtain ⟨rfl, rfl⟩ := hrel
          go_wp2_with fail
          go_roundg (go - 1)
          case measure => omega
          case rel => exact ⟨n + 1, by omega, by go_num, A1.out, B1.out⟩
      · have hgb : x9.heap.size ≠ g0 := by omega
        have hcm : c0 ≤ 9223372036854775807 := by unfold maxLen at hg3; omega
        have HCM := Lib.hid hcm
        clear hg3 hcm hg2
        go_wp2_with fail
        go_loopg [119] c0 (fun k i wr => ∃ j : Nat, j + k = c0 ∧ i = .int .i64 ((j : Nat) : Int) ∧ AllS x9 wr w.heap.size (.slice ao n1 co) (.slice ar n2 cr) (.slice aw n3 cw) (.slice ak n4 ck) (.slice al 8 ca) ∧ wr.heap[x9.heap.size]? = some (.cells #[.slice ao n1 co, .slice ak n4 ck, .slice al 8 ca] 27))
        case atStart => exact ⟨0, by simp, rfl, A1.out, B1.out⟩
        case round =>
          obtain ⟨j, hj, rfl, has, hbs⟩ := hrel
          by_cases hl2 : j < c0
          · have he : decide (j < c0) = true := by simpa using hl2
            have he2 : decide ((j : Int) < (c0 : Int)) = true := decide_eq_true (by omega)
            have hji : (j : Int) < (c0 : Int) := by omega
            obtain ⟨u0a, k0, f0⟩ := (SPL.out _ has).cell (j := j) (by omega)
            have N1 := Lib.hid (has.set g0 (j) (.float .f64 13858490847093325824) hg1)
            have N2 := Lib.hid (blk_set_other (a := ⟨g0, j, none⟩) hbs hgb (.float .f64 13858490847093325824))
            have hwj : IntKind.i64.wrap ((j : Int) + 1) = ((j + 1 : Nat) : Int) := (IntWalk.i64_in ((j : Int) + 1) (by have := HCM.out; omega)).trans (by omega)
            clear has hbs
            go_wp2_with fail
            go_roundg (gk - 1)
            case measure => omega
            case rel => exact ⟨j + 1, by omega, by first | rfl | go_num, N1.out, N2.out⟩
          · have he : decide (j < c0) = false := by simpa using hl2
            have he2 : decide ((j : Int) < (c0 : Int)) = false := decide_eq_false (by omega)
            have N1 := Lib.hid has
            have N2 := Lib.hid hbs
            clear has hbs hj
            go_wp2_with fail
            go_roundg (go - 1)
            case measure => omega
            case rel => exact ⟨n + 1, by omega, by go_num, N1.out, N2.out⟩
    · have hd : decide (n < 3) = false := by simpa using hlt
      have hd2 : decide ((n : Int) < 3) = false := decide_eq_false (by omega)
      clear has hbs hn
      obtain ⟨wB, rfl⟩ : ∃ wB, wB = wA := ⟨_, rfl⟩
      have AS2 := Lib.hid (A1.out.alloc (.cells #[.slice ar n2 cr, .slice aw n3 cw] 45))
      have BS2 := Lib.hid (heap_alloc_new wB (.cells #[.slice ar n2 cr, .slice aw n3 cw] 45))
      have hszB := A1.out.chg.size
      go_wp2_with fail
      go_loopg [131] 2 (fun k i wr => ∃ n : Nat, n + k = 2 ∧ i = .int .i64 ((n : Nat) : Int) ∧ AllS x9 wr w.heap.size (.slice ao n1 co) (.slice ar n2 cr) (.slice aw n3 cw) (.slice ak n4 ck) (.slice al 8 ca) ∧ wr.heap[wB.heap.size]? = some (.cells #[.slice ar n2 cr, .slice aw n3 cw] 45))
      case atStart => exact ⟨0, by simp, rfl, AS2.out, BS2.out⟩
      case round =>
        obtain ⟨n, hn, rfl, has, hbs⟩ := hrel
        obtain ⟨go, rfl⟩ : ∃ go, go = gk := ⟨_, rfl⟩
        obtain ⟨wA, rfl⟩ : ∃ wA, wA = wr := ⟨_, rfl⟩
        have A1 := Lib.hid has
        have B1 := Lib.hid hbs
        by_cases hlt : n < 2
        · have hd : decide (n < 2) = true := by simpa using hlt
          have hd2 : decide ((n : Int) < 2) = true := decide_eq_true (by omega)
          obtain ⟨a0, n0, c0, hcell, hspl⟩ : ∃ a0 n0 c0, wA.cell? ⟨wB.heap.size, n, none⟩ = some (.slice a0 n0 c0) ∧ (∀ W, AllS x9 W w.heap.size (.slice ao n1 co) (.slice ar n2 cr) (.slice aw n3 cw) (.slice ak n4 ck) (.slice al 8 ca) → Spl W w.heap.size x9.heap.size 2 (.slice a0 n0 c0)) := by
            have : n = 0 ∨ n = 1 := by omega
            rcases this with rfl | rfl
            · exact ⟨ar, n2, cr, blk_cell hbs 0, fun W h => h.s2⟩
            · exact ⟨aw, n3, cw, blk_cell hbs 1, fun W h => h.s3⟩
          have SPL := Lib.hid hspl
          have hni : (n : Int) < 2 := by omega
          clear has hbs hspl
          rcases (SPL.out _ A1.out).head with ⟨rfl, rfl, rfl⟩ | ⟨g0, rfl, hg1, hg2, hg3⟩
          · go_wp2_with fail
            go_loopg [141] 0 (fun k i wr => i = .int .i64 0 ∧ wr = wA)
            case atStart => exact ⟨rfl, rfl⟩
            case round =>
              obtain ⟨rfl, rfl⟩ := hrel
              go_wp2_with fail
              go_roundg (go - 1)
              case measure => omega
              case rel => exact ⟨n + 1, by omega, by go_num, A1.out, B1.out⟩
          · have hgb : wB.heap.size ≠ g0 := by omega
            have hcm : c0 ≤ 9223372036854775807 := by unfold maxLen at hg3; omega
            have HCM := Lib.hid hcm
            clear hg3 hcm hg2
            go_wp2_with fail
            go_loopg [141] c0 (fun k i wr => ∃ j : Nat, j + k = c0 ∧ i = .int .i64 ((j : Nat) : Int) ∧ AllS x9 wr w.heap.size (.slice ao n1 co) (.slice ar n2 cr) (.slice aw n3 cw) (.slice ak n4 ck) (.slice al 8 ca) ∧ wr.heap[wB.heap.size]? = some (.cells #[.slice ar n2 cr, .slice aw n3 cw] 45))
            case atStart => exact ⟨0, by simp, rfl, A1.out, B1.out⟩
            case round =>
              obtain ⟨j, hj, rfl, has, hbs⟩ := hrel
              by_cases hl2 : j < c0
              · have he : decide (j < c0) = true := by simpa using hl2
                have he2 : decide ((j : Int) < (c0 : Int)) = true := decide_eq_true (by omega)
                have hji : (j : Int) < (c0 : Int) := by omega
                obtain ⟨u0a, k0, f0⟩ := (SPL.out _ has).cell (j := j * 2) (by omega)
                obtain ⟨u1a, k1, f1⟩ := (SPL.out _ has).cell (j := j * 2 + 1) (by omega)
                have N1 := Lib.hid ((has.set g0 (j * 2) (.int .i64 (-77)) hg1).set g0 (j * 2 + 1) (.float .f64 13858490847093325824) hg1)
                have N2 := Lib.hid (blk_set_other (a := ⟨g0, j * 2 + 1, none⟩) (blk_set_other (a := ⟨g0, j * 2, none⟩) hbs hgb (.int .i64 (-77))) hgb (.float .f64 13858490847093325824))
                have hwj : IntKind.i64.wrap ((j : Int) + 1) = ((j + 1 : Nat) : Int) := (IntWalk.i64_in ((j : Int) + 1) (by have := HCM.out; omega)).trans (by omega)
                clear has hbs
                go_wp2_with fail
                go_roundg (gk - 1)
                case measure => omega
                case rel => exact ⟨j + 1, by omega, by first | rfl | go_num, N1.out, N2.out⟩
              · have he : decide (j < c0) = false := by simpa using hl2
                have he2 : decide ((j : Int) < (c0 : Int)) = false := decide_eq_false (by omega)
                have N1 := Lib.hid has
                have N2 := Lib.hid hbs
                clear has hbs hj
                go_wp2_with fail
                go_roundg (go - 1)
                case measure => omega
                case rel => exact ⟨n + 1, by omega, by go_num, N1.out, N2.out⟩
        · have hd : decide (n < 2) = false := by simpa using hlt
          have hd2 : decide ((n : Int) < 2) = false := decide_eq_false (by omega)
          clear has hbs hn
          have FIN := Lib.hid (B.out.spoilt (base := w.heap.size) (Nat.le_refl _) C9.out A1.out.chg)
          go_wp2_with fail
          go_ret
          exact ⟨rfl, FIN.out⟩
end Go.Proofs.YthgllaomafhdkaaGreat
