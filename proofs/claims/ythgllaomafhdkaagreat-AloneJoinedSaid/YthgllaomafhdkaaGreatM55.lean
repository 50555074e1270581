/- The document's machine: Give, read. -/
import Derived.Test.YthgllaomafhdkaaGreatM53
import Derived.Test.YthgllaomafhdkaaGreatHeld
namespace Go.Proofs.YthgllaomafhdkaaGreat
open Go Go.RowKit
set_option maxRecDepth 100000
set_option maxHeartbeats 1000000
set_option linter.unusedVariables false
set_option linter.unusedSimpArgs false

section
variable {w w' : World} {q lb cl : Nat} {R : Nat → Prop} {s : Mc} {vc vA vS vC vT vR vB : Value}
theorem RmAt.quiet (h : RmAt w q lb R s vc vA vS vC vT vR vB cl) (hc : Chg w w' Nothing) : RmAt w' q lb R s vc vA vS vC vT vR vB cl := by
  have hq := h.qlt
  exact h.still hc.size (fun k hk => hc.block k (by rcases hk with rfl | rfl | hk; exact hq.1; exact hq.2; exact (h.own k hk).1) id)
theorem RmAt.rm (h : RmAt w q lb R s vc vA vS vC vT vR vB cl) : Rm w q lb R s := ⟨_, _, _, _, _, _, _, _, h⟩
theorem RRow.whole {a : Option Addr} {n c size : Nat} {xs : List Value} (h : RRow w R (.slice a n c) n size xs) : (a = none → n = 0 ∧ n = 0) ∧ xs.length = n * size ∧ ∀ b, a = some b → ∀ j u, xs[j]? = some u → w.cell? (b.add j) = some u := by
  have h1 := (h.reslice (Nat.le_refl n)).olds rfl
  have h2 : xs.take (n * size) = xs := List.take_of_length_le (by obtain ⟨a', c', hv, _, h2, _⟩ := h; omega)
  rw [h2] at h1
  exact h1
end
theorem rgive_no (q lb : Nat) (R : Nat → Prop) (s : Mc) (x : Nat) (w : World) (h : Rm w q lb R s) (hwt : s.waits = false) :
    Calls Tryz.prog 34 #[.pointer (some ⟨q, 0, none⟩), fl x] w fun e w' => e = .returned (.int .i64 3) ∧ Chg w w' Nothing := by
  obtain ⟨-, -, c13, -⟩ := h.cellAt
  rw [hwt] at c13
  have c13 : w.cell? ⟨q, 13, none⟩ = some (.int .i64 (-1)) := c13
  clear h hwt
  go_enter Tryz.func34, Tryz.ntmps34
  go_wp2_with fail
  go_ret
  exact ⟨rfl, Chg.refl w _⟩
theorem rgive_yes (q lb : Nat) (R : Nat → Prop) (s : Mc) (x : Nat) (w : World) (h : Rm w q lb R s) (hl : s.s.length ≤ 64) (hrl : s.reads.length ≤ 4096) (hwt : s.waits = true) (hc0 : 0 ≤ s.cell) :
    Calls Tryz.prog 34 #[.pointer (some ⟨q, 0, none⟩), fl x] w fun e w' => e = .returned (.int .i64 0) ∧ Rs w w' q lb R (giveP s x).1 := by
  obtain ⟨i1, i11, i12, i13, i14⟩ := info_parts (show (Tryz.prog.info? 77).map (fun i => (i.zero, i.size, i.bytes)) = some (some (.agg #[.int .i64 0, fl 0]), 2, 16) by kernel_rfl)
  have H1 := Lib.hid (And.intro i11 (And.intro i12 (And.intro i13 i14)))
  clear i11 i12 i13 i14
  obtain ⟨-, -, c13, -⟩ := h.cellAt
  rw [hwt] at c13
  have c13 : w.cell? ⟨q, 13, none⟩ = some (.int .i64 s.cell) := c13
  have hq := h.qlt.1
  have b1 : decide (s.cell < 0) = false := decide_eq_false (by omega)
  have H := Lib.hid h
  have HL := Lib.hid hl
  have HRL := Lib.hid hrl
  have HW := Lib.hid hwt
  clear h hl hrl hwt hc0
  go_enter Tryz.func34, Tryz.ntmps34
  go_wp2_with fail
  with_reducible refine (rfix_any x _).mono ?_
  rintro e w1 ⟨rfl, rfl⟩
  go_wp2_with fail
  with_reducible refine (rlay0 q lb R s _ (fixB x) _ _ (H.out.quiet ((Chg.refl w Nothing).alloc _)) HL.out (heap_alloc_new w _)).mono ?_
  rintro e w3 ⟨rfl, hS⟩
  have S1 := Lib.hid (Rs.after H.out ((Chg.refl w Nothing).alloc _) hS)
  clear hS c13
  obtain ⟨-, -, c13, -⟩ := S1.out.rm.cellAt
  rw [show ({ s with s := s.s ++ [fixB x] } : Mc).waits = true from HW.out] at c13
  have K13 := Lib.hid (show w3.cell? ⟨q, 13, none⟩ = some (.int .i64 s.cell) from c13)
  clear c13
  go_wp2_with fail
  obtain ⟨vc, vA, vS, vC, vT, vR, vB, cl, hR⟩ := S1.out.rm
  have hqw : q < w3.heap.size := hR.qlt.1
  obtain ⟨aR, cR, rfl, hcap, -, -⟩ := hR.reads
  have kj : w3.cell? ⟨q, 18, none⟩ = some (.slice aR s.reads.length cR) := blk_cell hR.blk 18
  have KJ := Lib.hid kj
  have HR := Lib.hid hR
  have RO := Lib.hid ((hR.quiet ((((Chg.refl w3 Nothing).alloc (.cells #[.int .i64 s.cell, fl (fixB x)] 77)).drew) : Chg w3 (w3.alloc (.cells #[.int .i64 s.cell, fl (fixB x)] 77)).drew Nothing)).reads.whole)
  have HN := Lib.hid (show ∀ (jj : Nat) (u : Value), [.int .i64 s.cell, fl (fixB x)][jj]? = some u → ((w3.alloc (.cells #[.int .i64 s.cell, fl (fixB x)] 77)).drew).cell? ((⟨w3.heap.size, 0, none⟩ : Addr).add jj) = some u from World.news_of_block (cs := #[.int .i64 s.cell, fl (fixB x)]) (t := 77) (fr := (0, 0)) (w := (w3.alloc (.cells #[.int .i64 s.cell, fl (fixB x)] 77)).drew) (heap_alloc_new w3 _))
  have hqz : ¬ q = w3.heap.size := by omega
  have hml2 : s.reads.length ≤ cR := hcap
  clear hcap
  have hml : ((s.reads.length : Nat) : Int) ≤ (cR : Int) := by omega
  clear hR kj
  refine beginL (fun w' => w'.cell? ⟨q, 18, none⟩ = some (.slice aR s.reads.length cR) ∧ w'.cell? ⟨q, 13, none⟩ = some (.int .i64 s.cell)) 26 (by kernel_rfl) ⟨(((Chg.refl w3 Nothing).drew)).cell KJ.out id, (((Chg.refl w3 Nothing).drew)).cell K13.out id⟩ (fun hHeld => ?_)
  refine takeL 0 2 (v := ?_) rfl (by kernel_rfl) (fun _ _ _ h => h) (by rfl) (by assumption) ?_ ?_
  rotate_left
  · (intro w hSw; (try dsimp only at hSw); go_simp; try with_reducible rfl)
  try simp only [Act.put, List.setIfInBounds_toArray, List.set_cons_zero, List.set_cons_succ]
  refine takeL 1 2 (v := ?_) rfl (by kernel_rfl) (fun _ _ _ h => h) (by rfl) (by assumption) ?_ ?_
  rotate_left
  · (intro w hSw; (try dsimp only at hSw); go_simp; try with_reducible rfl)
  try simp only [Act.put, List.setIfInBounds_toArray, List.set_cons_zero, List.set_cons_succ]
  refine takeL 2 2 (v := ?_) rfl (by kernel_rfl) (fun _ _ _ h => h) (by rfl) (by assumption) ?_ ?_
  rotate_left
  · (intro w hSw; (try dsimp only at hSw); go_simp; try with_reducible rfl)
  try simp only [Act.put, List.setIfInBounds_toArray, List.set_cons_zero, List.set_cons_succ]
  refine takeL 3 2 (v := ?_) rfl (by kernel_rfl) (fun _ _ _ h => h) (by rfl) (by assumption) ?_ ?_
  rotate_left
  · (intro w hSw; (try dsimp only at hSw); go_simp; try with_reducible rfl)
  try simp only [Act.put, List.setIfInBounds_toArray, List.set_cons_zero, List.set_cons_succ]
  refine takeL 4 2 (v := ?_) rfl (by kernel_rfl) (fun _ _ _ h => h) (by rfl) (by assumption) ?_ ?_
  rotate_left
  · (intro w hSw; (try dsimp only at hSw); go_simp; try with_reducible rfl)
  try simp only [Act.put, List.setIfInBounds_toArray, List.set_cons_zero, List.set_cons_succ]
  refine takeL 5 2 (v := ?_) rfl (by kernel_rfl) (fun _ _ _ h => h) (by rfl) (by assumption) ?_ ?_
  rotate_left
  · (intro w hSw; (try dsimp only at hSw); go_simp; try with_reducible rfl)
  try simp only [Act.put, List.setIfInBounds_toArray, List.set_cons_zero, List.set_cons_succ]
  refine takeL 6 2 (v := ?_) rfl (by kernel_rfl) (fun _ _ _ h => h) (by rfl) (by assumption) ?_ ?_
  rotate_left
  · (intro w hSw; (try dsimp only at hSw); go_simp; try with_reducible rfl)
  try simp only [Act.put, List.setIfInBounds_toArray, List.set_cons_zero, List.set_cons_succ]
  refine takeL 7 2 (v := ?_) rfl (by kernel_rfl) (fun _ _ _ h => h) (by rfl) (by assumption) ?_ ?_
  rotate_left
  · (intro w hSw; (try dsimp only at hSw); go_simp; try with_reducible rfl)
  try simp only [Act.put, List.setIfInBounds_toArray, List.set_cons_zero, List.set_cons_succ]
  refine takeL 8 2 (v := ?_) rfl (by kernel_rfl) (fun _ _ _ h => h) (by rfl) (by assumption) ?_ ?_
  rotate_left
  · (intro w hSw; (try dsimp only at hSw); go_simp; try with_reducible rfl)
  try simp only [Act.put, List.setIfInBounds_toArray, List.set_cons_zero, List.set_cons_succ]
  refine takeL 9 2 (v := ?_) rfl (by kernel_rfl) (fun _ _ _ h => h) (by rfl) (by assumption) ?_ ?_
  rotate_left
  · (intro w hSw; (try dsimp only at hSw); go_simp; try with_reducible rfl)
  try simp only [Act.put, List.setIfInBounds_toArray, List.set_cons_zero, List.set_cons_succ]
  refine takeL 10 2 (v := ?_) rfl (by kernel_rfl) (fun _ _ _ h => h) (by rfl) (by assumption) ?_ ?_
  rotate_left
  · (intro w hSw; (try dsimp only at hSw); go_simp; try with_reducible rfl)
  try simp only [Act.put, List.setIfInBounds_toArray, List.set_cons_zero, List.set_cons_succ]
  refine takeL 11 2 (v := ?_) rfl (by kernel_rfl) (fun _ _ _ h => h) (by rfl) (by assumption) ?_ ?_
  rotate_left
  · (intro w hSw; (try dsimp only at hSw); go_simp; try with_reducible rfl)
  try simp only [Act.put, List.setIfInBounds_toArray, List.set_cons_zero, List.set_cons_succ]
  refine takeL 12 2 (v := ?_) rfl (by kernel_rfl) (fun _ _ _ h => h) (by rfl) (by assumption) ?_ ?_
  rotate_left
  · (intro w hSw; (try dsimp only at hSw); go_simp; try with_reducible rfl)
  try simp only [Act.put, List.setIfInBounds_toArray, List.set_cons_zero, List.set_cons_succ]
  refine takeL 13 2 (v := ?_) rfl (by kernel_rfl) (fun _ _ _ h => h) (by rfl) (by assumption) ?_ ?_
  rotate_left
  · (intro w hSw; (try dsimp only at hSw); go_simp; try with_reducible rfl)
  try simp only [Act.put, List.setIfInBounds_toArray, List.set_cons_zero, List.set_cons_succ]
  refine takeL 14 2 (v := ?_) rfl (by kernel_rfl) (fun _ _ _ h => h) (by rfl) (by assumption) ?_ ?_
  rotate_left
  · (intro w hSw; (try dsimp only at hSw); go_simp; try with_reducible rfl)
  try simp only [Act.put, List.setIfInBounds_toArray, List.set_cons_zero, List.set_cons_succ]
  refine takeL 15 2 (v := ?_) rfl (by kernel_rfl) (fun _ _ _ h => h) (by rfl) (by assumption) ?_ ?_
  rotate_left
  · (intro w hSw; (try dsimp only at hSw); go_simp; try with_reducible rfl)
  try simp only [Act.put, List.setIfInBounds_toArray, List.set_cons_zero, List.set_cons_succ]
  refine takeL 16 2 (v := ?_) rfl (by kernel_rfl) (fun _ _ _ h => h) (by rfl) (by assumption) ?_ ?_
  rotate_left
  · (intro w hSw; (try dsimp only at hSw); go_simp; try with_reducible rfl)
  try simp only [Act.put, List.setIfInBounds_toArray, List.set_cons_zero, List.set_cons_succ]
  refine takeL 17 2 (v := ?_) rfl (by kernel_rfl) (fun _ _ _ h => h) (by rfl) (by assumption) ?_ ?_
  rotate_left
  · (intro w hSw; (try dsimp only at hSw); go_simp; try with_reducible rfl)
  try simp only [Act.put, List.setIfInBounds_toArray, List.set_cons_zero, List.set_cons_succ]
  refine takeL 18 2 (v := ?_) rfl (by kernel_rfl) (fun _ _ _ h => h) (by rfl) (by assumption) ?_ ?_
  rotate_left
  · (intro w hSw; (try dsimp only at hSw); go_simp; try with_reducible rfl)
  try simp only [Act.put, List.setIfInBounds_toArray, List.set_cons_zero, List.set_cons_succ]
  refine takeL 19 2 (v := ?_) rfl (by kernel_rfl) (fun _ _ _ h => h) (by rfl) (by assumption) ?_ ?_
  rotate_left
  · (intro w hSw; (try dsimp only at hSw); go_simp; try with_reducible rfl)
  try simp only [Act.put, List.setIfInBounds_toArray, List.set_cons_zero, List.set_cons_succ]
  refine takeL 20 2 (v := ?_) rfl (by kernel_rfl) (fun _ _ _ h => h) (by rfl) (by assumption) ?_ ?_
  rotate_left
  · (intro w hSw; (try dsimp only at hSw); go_simp; try with_reducible rfl)
  try simp only [Act.put, List.setIfInBounds_toArray, List.set_cons_zero, List.set_cons_succ]
  refine takeL 21 2 (v := ?_) rfl (by kernel_rfl) (fun _ _ _ h => h) (by rfl) (by assumption) ?_ ?_
  rotate_left
  · (intro w hSw; (try dsimp only at hSw); go_simp; try with_reducible rfl)
  try simp only [Act.put, List.setIfInBounds_toArray, List.set_cons_zero, List.set_cons_succ]
  refine oneL 22 rfl (by kernel_rfl) (by rfl) (fun K hK => ?_)
  go_simp
  refine hK.out _ _ ⟨((((Chg.refl w3 Nothing).alloc _).drew)).cell KJ.out id, ((((Chg.refl w3 Nothing).alloc _).drew)).cell K13.out id⟩ (fun hHeld => ?_)
  clear hK K
  try simp only [Act.put, List.setIfInBounds_toArray, List.set_cons_zero, List.set_cons_succ]
  refine oneL 23 rfl (by kernel_rfl) (by rfl) (fun K hK => ?_)
  refine step_append_grows (by rfl) _ _ _ (by rfl) 77 i1 (.agg #[.int .i64 0, fl 0]) 2 16 Tryz.underlying45 H1.out.1 H1.out.2.1 H1.out.2.2.1 H1.out.2.2.2 rfl (by omega) aR (s.reads.length) (s.reads.length) (tchV s.reads) (by rfl) RO.out.1 RO.out.2.1 RO.out.2.2 ⟨w3.heap.size, 0, none⟩ 1 1 [.int .i64 s.cell, fl (fixB x)] (by rfl) (by rfl) HN.out (by simp [Value.oneCell', fl]) (by omega) (by have := HRL.out; unfold maxLen; omega) (by have := HRL.out; omega) ?_
  intro v' w4 hown hgrow
  obtain ⟨⟨a', c', rfl⟩, -⟩ := ownsRow_shape hown
  have hcw : Chg w3 w4 Nothing := (((Chg.refl w3 Nothing).alloc (.cells #[.int .i64 s.cell, fl (fixB x)] 77)).drew).grown hgrow (by simp)
  have yj := hcw.cell KJ.out id
  have y13 := hcw.cell K13.out id
  have gj := blk_free ((hcw.block q hqw id).trans HR.out.blk) 18
  refine hK.out _ _ ⟨yj, y13⟩ (fun hHeld => ?_)
  clear hK K
  try simp only [Act.put, List.setIfInBounds_toArray, List.set_cons_zero, List.set_cons_succ]
  refine takeL 24 2 (v := ?_) rfl (by kernel_rfl) (fun _ _ _ h => h) (by rfl) (by assumption) ?_ ?_
  rotate_left
  · (intro w hSw; (try dsimp only at hSw); go_simp; try with_reducible rfl)
  try simp only [Act.put, List.setIfInBounds_toArray, List.set_cons_zero, List.set_cons_succ]
  refine takeL 25 2 (v := ?_) rfl (by kernel_rfl) (fun _ _ _ h => h) (by rfl) (by assumption) ?_ ?_
  rotate_left
  · (intro w hSw; (try dsimp only at hSw); go_simp; try with_reducible rfl)
  try simp only [Act.put, List.setIfInBounds_toArray, List.set_cons_zero, List.set_cons_succ]
  refine lastL rfl (by kernel_rfl) (by kernel_rfl) (fun K hK => ?_)
  go_simp
  refine hK.out _ _ ?_
  clear hK K
  have hS4 := HR.out.readed hcw (s.cell, (fixB x)) (ownsRow_base hown (by show _ ≤ (World.alloc _ _).heap.size; rw [World.size_alloc]; exact Nat.le_succ _))
  have S2 := Lib.hid (Rs.then H.out S1.out hS4)
  clear hS4 hcw hown hgrow yj y13 gj
  have S3 := Lib.hid (Rs.plain H.out S2.out (j := 13) (v := .int .i64 (-1)) (s' := { s with s := s.s ++ [fixB x], reads := s.reads ++ [(s.cell, fixB x)], waits := false }) (fun _ _ _ _ _ _ _ _ => rfl) ⟨rfl, rfl, rfl, rfl, rfl, rfl, rfl, rfl⟩)
  obtain ⟨-, -, c13, -⟩ := S2.out.rm.cellAt
  have f13 := S2.out.rm.free 13
  go_wp2_with fail
  go_ret
  refine ⟨rfl, ?_⟩
  have e : (giveP s x).1 = { s with s := s.s ++ [fixB x], reads := s.reads ++ [(s.cell, fixB x)], waits := false } := by unfold giveP; rw [HW.out]; rfl
  rw [e]
  exact S3.out
end Go.Proofs.YthgllaomafhdkaaGreat
