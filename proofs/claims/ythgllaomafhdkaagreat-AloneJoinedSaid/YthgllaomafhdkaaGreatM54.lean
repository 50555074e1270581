/- The document's machine: call, ret, emit. -/
import Derived.Test.YthgllaomafhdkaaGreatM55
namespace Go.Proofs.YthgllaomafhdkaaGreat
open Go Go.RowKit
set_option maxRecDepth 100000
set_option maxHeartbeats 1000000
set_option linter.unusedVariables false
set_option linter.unusedSimpArgs false

section
variable {w w' : World} {q lb cl : Nat} {R : Nat → Prop} {s : Mc} {vc vA vS vC vT vR vB : Value}
/-- A place was taken. -/
theorem RmAt.popped {aC : Option Addr} {cC : Nat} (h : RmAt w q lb R s vc vA vS (.slice aC s.calls.length cC) vT vR vB cl) : Rs w (w.setCell ⟨q, 9, none⟩ (.slice aC (s.calls.length - 1) cC)) q lb R { s with calls := s.calls.dropLast } := by
  have hr := h.rowsC (Chg.refl w Nothing) (R' := R) (fun _ h => h)
  have hc := hr.cal
  have e1 : s.calls.dropLast.length = s.calls.length - 1 := List.length_dropLast
  have hm := h.store (s' := { s with calls := s.calls.dropLast }) (j := 9) (v := .slice aC (s.calls.length - 1) cC) (R' := R) (Chg.refl w Nothing) rfl rfl
    ⟨hr.code, hr.arg, hr.num, (by
      obtain ⟨a', c', hv, g1, g2, g3⟩ := hc
      injection hv with e2 e3 e4
      subst e2 e4
      refine ⟨aC, cC, by rw [e1], by rw [e1]; omega, by rw [List.length_map, Nat.mul_one], ?_⟩
      rcases g3 with ⟨g3, g4⟩ | ⟨b, o, rfl, hb, hcl⟩
      · exact .inl ⟨by rw [e1]; omega, g4⟩
      · refine .inr ⟨b, o, rfl, hb, fun j u hu => hcl j u ?_⟩
        rw [List.getElem?_map] at hu ⊢
        rw [List.getElem?_dropLast] at hu
        split at hu
        · exact hu
        · cases hu), hr.out, hr.reads, hr.buf⟩ (fun k hk => .inl hk)
  exact Rs.of h.rm hm.rm ((Chg.refl w _).setCell (.inr (.inl rfl)) _) (fun k hk => .inl hk)
end
section
variable (q lb : Nat) (R : Nat → Prop) (s : Mc) (n : Int) (x : Nat) (w : World)
set_option maxHeartbeats 2000000 in
theorem rdo_14 (h : Rm w q lb R s) (hl : s.s.length ≤ 64) (j : Nat) (hcl : s.calls.length ≤ 16) :
    Calls Tryz.prog 76 #[.pointer (some ⟨q, 0, none⟩), insA 14 (j : Int) x] w fun e w' => e = .returned (askV askNone) ∧ Rs w w' q lb R { s with calls := s.calls ++ [(s.at_ : Int)], at_ := j } := by
  obtain ⟨hq, hlb, hne, hown⟩ := h.qlt
  have hq1 : ¬ q = w.heap.size := by omega
  have hq2 : ¬ q = w.heap.size + 1 := by omega
  have H := Lib.hid h
  have HL := Lib.hid hl
  obtain ⟨i1, i11, i12, i13, i14⟩ := info_parts (show (Tryz.prog.info? 3).map (fun i => (i.zero, i.size, i.bytes)) = some (some (.int .i64 0), 1, 8) by kernel_rfl)
  have H1 := Lib.hid (And.intro i11 (And.intro i12 (And.intro i13 i14)))
  clear i11 i12 i13 i14
  obtain ⟨c11, -⟩ := h.cellAt
  have f11 := h.free 11
  obtain ⟨vc, vA, vS, vC, vT, vR, vB, cl, hR⟩ := h
  obtain ⟨aC, cC, rfl, hcap, -, -⟩ := hR.cal
  have k9 : w.cell? ⟨q, 9, none⟩ = some (.slice aC s.calls.length cC) := blk_cell hR.blk 9
  have f9 := blk_free hR.blk 9
  have HR := Lib.hid hR
  have RO := Lib.hid ((hR.quiet (((((Chg.refl w Nothing).alloc _).alloc _).alloc (.cells #[.int .i64 (s.at_ : Int)] 3)).drew : Chg w ((((w.alloc (.cells #[.int .i64 14, .int .i64 (j : Int), fl x] 92)).alloc (.cells ask0 35)).alloc (.cells #[.int .i64 (s.at_ : Int)] 3)).drew) Nothing)).cal.whole)
  have HN := Lib.hid (show ∀ (jj : Nat) (u : Value), [Value.int .i64 (s.at_ : Int)][jj]? = some u → (((((w.alloc (.cells #[.int .i64 14, .int .i64 (j : Int), fl x] 92)).alloc (.cells ask0 35)).alloc (.cells #[.int .i64 (s.at_ : Int)] 3)).drew)).cell? ((⟨w.heap.size + 1 + 1, 0, none⟩ : Addr).add jj) = some u from World.news_of_block (cs := #[.int .i64 (s.at_ : Int)]) (t := 3) (fr := (0, 0)) (w := ((((w.alloc (.cells #[.int .i64 14, .int .i64 (j : Int), fl x] 92)).alloc (.cells ask0 35)).alloc (.cells #[.int .i64 (s.at_ : Int)] 3)).drew)) rthree)
  have HCL := Lib.hid hcl
  have K9 := Lib.hid k9
  have K11 := Lib.hid c11
  have hq3 : q < w.heap.size + 1 := by omega
  have hq4 : q < w.heap.size + 1 + 1 := by omega
  have hml : (s.calls.length : Int) ≤ (cC : Int) := by omega
  clear hl hR hcl hown k9 c11 f9 f11
  go_enter Tryz.func76, Tryz.ntmps76
  go_wp2_with fail
  refine beginL (fun w' => w'.cell? ⟨q, 9, none⟩ = some (.slice aC s.calls.length cC) ∧ w'.cell? ⟨q, 11, none⟩ = some (.int .i64 (s.at_ : Int))) 24 (by kernel_rfl) ⟨((((Chg.refl w Nothing).alloc _).alloc _).drew).cell K9.out id, ((((Chg.refl w Nothing).alloc _).alloc _).drew).cell K11.out id⟩ (fun hHeld => ?_)
  refine takeL 0 2 (v := ?_) rfl (by kernel_rfl) (fun _ _ _ h => h) (by rfl) (by assumption) ?_ ?_
  rotate_left
  · (intro w hSw; (try dsimp only at hSw); go_simp; try with_reducible rfl)
  try simp only [Act.put, List.setIfInBounds_toArray, List.set_cons_zero, List.set_cons_succ]
  refine takeL 1 2 (v := ?_) rfl (by kernel_rfl) (fun _ _ _ h => h) (by rfl) (by assumption) ?_ ?_
  rotate_left
  · (intro w hSw; (try dsimp only at hSw); go_simp; try with_reducible rfl)
  try simp only [Act.put, List.setIfInBounds_toArray, List.set_cons_zero, List.set_cons_succ]
  refine takeL 2 2 (v := ?_) rfl (by kernel_rfl) (fun _ _ _ h => h) (by rfl) (by assumption) ?_ ?_
  rotate_left
  · (intro w hSw; (try dsimp only at hSw); go_simp; try with_reducible rfl)
  try simp only [Act.put, List.setIfInBounds_toArray, List.set_cons_zero, List.set_cons_succ]
  refine takeL 3 2 (v := ?_) rfl (by kernel_rfl) (fun _ _ _ h => h) (by rfl) (by assumption) ?_ ?_
  rotate_left
  · (intro w hSw; (try dsimp only at hSw); go_simp; try with_reducible rfl)
  try simp only [Act.put, List.setIfInBounds_toArray, List.set_cons_zero, List.set_cons_succ]
  refine takeL 4 2 (v := ?_) rfl (by kernel_rfl) (fun _ _ _ h => h) (by rfl) (by assumption) ?_ ?_
  rotate_left
  · (intro w hSw; (try dsimp only at hSw); go_simp; try with_reducible rfl)
  try simp only [Act.put, List.setIfInBounds_toArray, List.set_cons_zero, List.set_cons_succ]
  refine takeL 5 2 (v := ?_) rfl (by kernel_rfl) (fun _ _ _ h => h) (by rfl) (by assumption) ?_ ?_
  rotate_left
  · (intro w hSw; (try dsimp only at hSw); go_simp; try with_reducible rfl)
  try simp only [Act.put, List.setIfInBounds_toArray, List.set_cons_zero, List.set_cons_succ]
  refine takeL 6 2 (v := ?_) rfl (by kernel_rfl) (fun _ _ _ h => h) (by rfl) (by assumption) ?_ ?_
  rotate_left
  · (intro w hSw; (try dsimp only at hSw); go_simp; try with_reducible rfl)
  try simp only [Act.put, List.setIfInBounds_toArray, List.set_cons_zero, List.set_cons_succ]
  refine takeL 7 2 (v := ?_) rfl (by kernel_rfl) (fun _ _ _ h => h) (by rfl) (by assumption) ?_ ?_
  rotate_left
  · (intro w hSw; (try dsimp only at hSw); go_simp; try with_reducible rfl)
  try simp only [Act.put, List.setIfInBounds_toArray, List.set_cons_zero, List.set_cons_succ]
  refine takeL 8 2 (v := ?_) rfl (by kernel_rfl) (fun _ _ _ h => h) (by rfl) (by assumption) ?_ ?_
  rotate_left
  · (intro w hSw; (try dsimp only at hSw); go_simp; try with_reducible rfl)
  try simp only [Act.put, List.setIfInBounds_toArray, List.set_cons_zero, List.set_cons_succ]
  refine takeL 9 2 (v := ?_) rfl (by kernel_rfl) (fun _ _ _ h => h) (by rfl) (by assumption) ?_ ?_
  rotate_left
  · (intro w hSw; (try dsimp only at hSw); go_simp; try with_reducible rfl)
  try simp only [Act.put, List.setIfInBounds_toArray, List.set_cons_zero, List.set_cons_succ]
  refine takeL 10 2 (v := ?_) rfl (by kernel_rfl) (fun _ _ _ h => h) (by rfl) (by assumption) ?_ ?_
  rotate_left
  · (intro w hSw; (try dsimp only at hSw); go_simp; try with_reducible rfl)
  try simp only [Act.put, List.setIfInBounds_toArray, List.set_cons_zero, List.set_cons_succ]
  refine takeL 11 2 (v := ?_) rfl (by kernel_rfl) (fun _ _ _ h => h) (by rfl) (by assumption) ?_ ?_
  rotate_left
  · (intro w hSw; (try dsimp only at hSw); go_simp; try with_reducible rfl)
  try simp only [Act.put, List.setIfInBounds_toArray, List.set_cons_zero, List.set_cons_succ]
  refine takeL 12 2 (v := ?_) rfl (by kernel_rfl) (fun _ _ _ h => h) (by rfl) (by assumption) ?_ ?_
  rotate_left
  · (intro w hSw; (try dsimp only at hSw); go_simp; try with_reducible rfl)
  try simp only [Act.put, List.setIfInBounds_toArray, List.set_cons_zero, List.set_cons_succ]
  refine takeL 13 2 (v := ?_) rfl (by kernel_rfl) (fun _ _ _ h => h) (by rfl) (by assumption) ?_ ?_
  rotate_left
  · (intro w hSw; (try dsimp only at hSw); go_simp; try with_reducible rfl)
  try simp only [Act.put, List.setIfInBounds_toArray, List.set_cons_zero, List.set_cons_succ]
  refine takeL 14 2 (v := ?_) rfl (by kernel_rfl) (fun _ _ _ h => h) (by rfl) (by assumption) ?_ ?_
  rotate_left
  · (intro w hSw; (try dsimp only at hSw); go_simp; try with_reducible rfl)
  try simp only [Act.put, List.setIfInBounds_toArray, List.set_cons_zero, List.set_cons_succ]
  refine takeL 15 2 (v := ?_) rfl (by kernel_rfl) (fun _ _ _ h => h) (by rfl) (by assumption) ?_ ?_
  rotate_left
  · (intro w hSw; (try dsimp only at hSw); go_simp; try with_reducible rfl)
  try simp only [Act.put, List.setIfInBounds_toArray, List.set_cons_zero, List.set_cons_succ]
  refine takeL 16 2 (v := ?_) rfl (by kernel_rfl) (fun _ _ _ h => h) (by rfl) (by assumption) ?_ ?_
  rotate_left
  · (intro w hSw; (try dsimp only at hSw); go_simp; try with_reducible rfl)
  try simp only [Act.put, List.setIfInBounds_toArray, List.set_cons_zero, List.set_cons_succ]
  refine takeL 17 2 (v := ?_) rfl (by kernel_rfl) (fun _ _ _ h => h) (by rfl) (by assumption) ?_ ?_
  rotate_left
  · (intro w hSw; (try dsimp only at hSw); go_simp; try with_reducible rfl)
  try simp only [Act.put, List.setIfInBounds_toArray, List.set_cons_zero, List.set_cons_succ]
  refine takeL 18 2 (v := ?_) rfl (by kernel_rfl) (fun _ _ _ h => h) (by rfl) (by assumption) ?_ ?_
  rotate_left
  · (intro w hSw; (try dsimp only at hSw); go_simp; try with_reducible rfl)
  try simp only [Act.put, List.setIfInBounds_toArray, List.set_cons_zero, List.set_cons_succ]
  refine takeL 19 2 (v := ?_) rfl (by kernel_rfl) (fun _ _ _ h => h) (by rfl) (by assumption) ?_ ?_
  rotate_left
  · (intro w hSw; (try dsimp only at hSw); go_simp; try with_reducible rfl)
  try simp only [Act.put, List.setIfInBounds_toArray, List.set_cons_zero, List.set_cons_succ]
  refine oneL 20 rfl (by kernel_rfl) (by rfl) (fun K hK => ?_)
  go_simp
  refine hK.out _ _ ⟨(((((Chg.refl w Nothing).alloc _).alloc _).alloc _).drew).cell K9.out id, (((((Chg.refl w Nothing).alloc _).alloc _).alloc _).drew).cell K11.out id⟩ (fun hHeld => ?_)
  clear hK K
  try simp only [Act.put, List.setIfInBounds_toArray, List.set_cons_zero, List.set_cons_succ]
  refine oneL 21 rfl (by kernel_rfl) (by rfl) (fun K hK => ?_)
  refine step_append_grows (by rfl) _ _ _ (by rfl) 3 i1 (.int .i64 0) 1 8 Tryz.underlying109 H1.out.1 H1.out.2.1 H1.out.2.2.1 H1.out.2.2.2 rfl (by omega) aC s.calls.length s.calls.length (s.calls.map (Value.int .i64)) (by rfl) RO.out.1 RO.out.2.1 RO.out.2.2 ⟨w.heap.size + 1 + 1, 0, none⟩ 1 1 [.int .i64 (s.at_ : Int)] (by rfl) (by rfl) HN.out (by simp [Value.oneCell']) (by omega) (by have := HCL.out; unfold maxLen; omega) (by have := HCL.out; omega) ?_
  intro v' w2 hown hgrow
  obtain ⟨⟨a', c', rfl⟩, -⟩ := ownsRow_shape hown
  have hcw : Chg w w2 Nothing := ((((Chg.refl w Nothing).alloc _).alloc _).alloc (.cells #[.int .i64 (s.at_ : Int)] 3)).drew.grown hgrow (by simp)
  have y9 := hcw.cell K9.out id
  have y11 := hcw.cell K11.out id
  have g9 := blk_free ((hcw.block q hq id).trans HR.out.blk) 9
  have g11 := blk_free ((hcw.block q hq id).trans HR.out.blk) 11
  refine hK.out _ _ ⟨y9, y11⟩ (fun hHeld => ?_)
  clear hK K
  try simp only [Act.put, List.setIfInBounds_toArray, List.set_cons_zero, List.set_cons_succ]
  refine takeL 22 2 (v := ?_) rfl (by kernel_rfl) (fun _ _ _ h => h) (by rfl) (by assumption) ?_ ?_
  rotate_left
  · (intro w hSw; (try dsimp only at hSw); go_simp; try with_reducible rfl)
  try simp only [Act.put, List.setIfInBounds_toArray, List.set_cons_zero, List.set_cons_succ]
  refine takeL 23 2 (v := ?_) rfl (by kernel_rfl) (fun _ _ _ h => h) (by rfl) (by assumption) ?_ ?_
  rotate_left
  · (intro w hSw; (try dsimp only at hSw); go_simp; try with_reducible rfl)
  try simp only [Act.put, List.setIfInBounds_toArray, List.set_cons_zero, List.set_cons_succ]
  refine lastL rfl (by kernel_rfl) (by kernel_rfl) (fun K hK => ?_)
  go_simp
  refine hK.out _ _ ?_
  clear hK K
  all_goals
    have HR0 := Lib.hid (HR.out.quiet (((Chg.refl w Nothing).alloc (.cells #[.int .i64 14, .int .i64 (j : Int), fl x] 92)).alloc (.cells ask0 35)))
    have hc0 : Chg ((w.alloc (.cells #[.int .i64 14, .int .i64 (j : Int), fl x] 92)).alloc (.cells ask0 35)) w2 Nothing := ((Chg.refl _ Nothing).alloc (.cells #[.int .i64 (s.at_ : Int)] 3)).drew.grown hgrow (by simp)
    have S1 := Lib.hid (Rs.goto_ HR0.out.rm (HR0.out.called hc0 (s.at_ : Int) (ownsRow_base hown (by show _ ≤ (World.alloc _ _).heap.size; simp))) j)
    have bx1 : w2.cell? ⟨w.heap.size, 1, none⟩ = some (.int .i64 (j : Int)) := blk_cell ((hc0.block w.heap.size (by simp; omega) id).trans (blk_alloc (heap_alloc_new w _) _)) 1
    clear hown hgrow hc0
    have hS := S1.out
    have HC0 := Lib.hid (Chg.refl ((w.alloc (.cells #[.int .i64 14, .int .i64 (j : Int), fl x] 92)).alloc (.cells ask0 35)) Nothing)
    obtain ⟨qd, hE⟩ := rdo_end H.out HC0.out hS
    have RE := Lib.hid hE
    have q0 : ((w2.setCell ⟨q, 9, none⟩ (.slice a' (s.calls.length + 1) c')).setCell ⟨q, 11, none⟩ (.int .i64 (j : Int))).cell? ⟨w.heap.size + 1, 0, none⟩ = some (.int .i64 0) := blk_cell qd 0
    have q1 : ((w2.setCell ⟨q, 9, none⟩ (.slice a' (s.calls.length + 1) c')).setCell ⟨q, 11, none⟩ (.int .i64 (j : Int))).cell? ⟨w.heap.size + 1, 1, none⟩ = some (.int .i64 0) := blk_cell qd 1
    have q2 : ((w2.setCell ⟨q, 9, none⟩ (.slice a' (s.calls.length + 1) c')).setCell ⟨q, 11, none⟩ (.int .i64 (j : Int))).cell? ⟨w.heap.size + 1, 2, none⟩ = some (.float .f64 0) := blk_cell qd 2
    have q3 : ((w2.setCell ⟨q, 9, none⟩ (.slice a' (s.calls.length + 1) c')).setCell ⟨q, 11, none⟩ (.int .i64 (j : Int))).cell? ⟨w.heap.size + 1, 3, none⟩ = some (.bool false) := blk_cell qd 3
    have g0 : ((w2.setCell ⟨q, 9, none⟩ (.slice a' (s.calls.length + 1) c')).setCell ⟨q, 11, none⟩ (.int .i64 (j : Int))).frozen? ⟨w.heap.size + 1, 0, none⟩ = false := blk_free qd 0
    have g1 : ((w2.setCell ⟨q, 9, none⟩ (.slice a' (s.calls.length + 1) c')).setCell ⟨q, 11, none⟩ (.int .i64 (j : Int))).frozen? ⟨w.heap.size + 1, 1, none⟩ = false := blk_free qd 1
    have g2 : ((w2.setCell ⟨q, 9, none⟩ (.slice a' (s.calls.length + 1) c')).setCell ⟨q, 11, none⟩ (.int .i64 (j : Int))).frozen? ⟨w.heap.size + 1, 2, none⟩ = false := blk_free qd 2
    have g3 : ((w2.setCell ⟨q, 9, none⟩ (.slice a' (s.calls.length + 1) c')).setCell ⟨q, 11, none⟩ (.int .i64 (j : Int))).frozen? ⟨w.heap.size + 1, 3, none⟩ = false := blk_free qd 3
    have QE := Lib.hid qd
    clear hS hE qd HC0
    go_wp2_with fail
    exact bodyPost_ret (v := askV askNone) (rdo_results (a := askNone) rfl (four_set QE.out)) rfl ⟨rfl, RE.out _ _ _ _⟩
set_option maxHeartbeats 2000000 in
theorem rdo_18 (h : Rm w q lb R s) (hl : s.s.length ≤ 64) (hs : 1 ≤ s.s.length) (hol : s.out.length ≤ 4096) :
    Calls Tryz.prog 76 #[.pointer (some ⟨q, 0, none⟩), insA 18 n x] w fun e w' => e = .returned (askV askNone) ∧ Rs w w' q lb R { s with s := s.s.dropLast, out := s.out ++ [topN s.s 0] } := by
  obtain ⟨hq, hlb, hne, hown⟩ := h.qlt
  have hq1 : ¬ q = w.heap.size := by omega
  have hq2 : ¬ q = w.heap.size + 1 := by omega
  have H := Lib.hid h
  have HL := Lib.hid hl
  obtain ⟨i1, i11, i12, i13, i14⟩ := info_parts (show (Tryz.prog.info? 33).map (fun i => (i.zero, i.size, i.bytes)) = some (some (fl 0), 1, 8) by kernel_rfl)
  have H1 := Lib.hid (And.intro i11 (And.intro i12 (And.intro i13 i14)))
  clear i11 i12 i13 i14
  have HS := Lib.hid hs
  obtain ⟨vc, vA, vS, vC, vT, vR, vB, cl, hR⟩ := h
  obtain ⟨aT, cT, rfl, hcap, -, -⟩ := hR.out
  have k17 : w.cell? ⟨q, 17, none⟩ = some (.slice aT s.out.length cT) := blk_cell hR.blk 17
  have f17 := blk_free hR.blk 17
  have HR := Lib.hid hR
  have RX := Lib.hid (fun m => (hR.quiet (((((Chg.refl w Nothing).alloc _).alloc _).drewN (1 + m)).alloc (.cells #[fl (topN s.s 0)] 33) : Chg w ((((w.alloc (.cells #[.int .i64 18, .int .i64 n, fl x] 92)).alloc (.cells ask0 35)).drewN (1 + m)).alloc (.cells #[fl (topN s.s 0)] 33)) Nothing)).out.whole)
  have HN := Lib.hid (fun m => (show ∀ (jj : Nat) (u : Value), [fl (topN s.s 0)][jj]? = some u → (((((w.alloc (.cells #[.int .i64 18, .int .i64 n, fl x] 92)).alloc (.cells ask0 35)).drewN (1 + m)).alloc (.cells #[fl (topN s.s 0)] 33))).cell? ((⟨w.heap.size + 1 + 1, 0, none⟩ : Addr).add jj) = some u from World.news_of_block (cs := #[fl (topN s.s 0)]) (t := 33) (fr := (0, 0)) (w := ((((w.alloc (.cells #[.int .i64 18, .int .i64 n, fl x] 92)).alloc (.cells ask0 35)).drewN (1 + m)).alloc (.cells #[fl (topN s.s 0)] 33))) rthreeD))
  have HOL := Lib.hid hol
  have K17 := Lib.hid k17
  have hq3 : q < w.heap.size + 1 := by omega
  have hq4 : q < w.heap.size + 1 + 1 := by omega
  have hml : (s.out.length : Int) ≤ (cT : Int) := by omega
  clear hl hR hol hs hown k17 f17
  go_enter Tryz.func76, Tryz.ntmps76
  go_wp2_with fail
  refine beginL (fun w' => w'.cell? ⟨q, 17, none⟩ = some (.slice aT s.out.length cT)) 22 (by kernel_rfl) (((((Chg.refl w Nothing).alloc _).alloc _).drew).cell K17.out id) (fun hHeld => ?_)
  refine takeL 0 2 (v := ?_) rfl (by kernel_rfl) (fun _ _ _ h => h) (by rfl) (by assumption) ?_ ?_
  rotate_left
  · (intro w hSw; (try dsimp only at hSw); go_simp; try with_reducible rfl)
  try simp only [Act.put, List.setIfInBounds_toArray, List.set_cons_zero, List.set_cons_succ]
  refine takeL 1 2 (v := ?_) rfl (by kernel_rfl) (fun _ _ _ h => h) (by rfl) (by assumption) ?_ ?_
  rotate_left
  · (intro w hSw; (try dsimp only at hSw); go_simp; try with_reducible rfl)
  try simp only [Act.put, List.setIfInBounds_toArray, List.set_cons_zero, List.set_cons_succ]
  refine takeL 2 2 (v := ?_) rfl (by kernel_rfl) (fun _ _ _ h => h) (by rfl) (by assumption) ?_ ?_
  rotate_left
  · (intro w hSw; (try dsimp only at hSw); go_simp; try with_reducible rfl)
  try simp only [Act.put, List.setIfInBounds_toArray, List.set_cons_zero, List.set_cons_succ]
  refine takeL 3 2 (v := ?_) rfl (by kernel_rfl) (fun _ _ _ h => h) (by rfl) (by assumption) ?_ ?_
  rotate_left
  · (intro w hSw; (try dsimp only at hSw); go_simp; try with_reducible rfl)
  try simp only [Act.put, List.setIfInBounds_toArray, List.set_cons_zero, List.set_cons_succ]
  refine takeL 4 2 (v := ?_) rfl (by kernel_rfl) (fun _ _ _ h => h) (by rfl) (by assumption) ?_ ?_
  rotate_left
  · (intro w hSw; (try dsimp only at hSw); go_simp; try with_reducible rfl)
  try simp only [Act.put, List.setIfInBounds_toArray, List.set_cons_zero, List.set_cons_succ]
  refine takeL 5 2 (v := ?_) rfl (by kernel_rfl) (fun _ _ _ h => h) (by rfl) (by assumption) ?_ ?_
  rotate_left
  · (intro w hSw; (try dsimp only at hSw); go_simp; try with_reducible rfl)
  try simp only [Act.put, List.setIfInBounds_toArray, List.set_cons_zero, List.set_cons_succ]
  refine takeL 6 2 (v := ?_) rfl (by kernel_rfl) (fun _ _ _ h => h) (by rfl) (by assumption) ?_ ?_
  rotate_left
  · (intro w hSw; (try dsimp only at hSw); go_simp; try with_reducible rfl)
  try simp only [Act.put, List.setIfInBounds_toArray, List.set_cons_zero, List.set_cons_succ]
  refine takeL 7 2 (v := ?_) rfl (by kernel_rfl) (fun _ _ _ h => h) (by rfl) (by assumption) ?_ ?_
  rotate_left
  · (intro w hSw; (try dsimp only at hSw); go_simp; try with_reducible rfl)
  try simp only [Act.put, List.setIfInBounds_toArray, List.set_cons_zero, List.set_cons_succ]
  refine takeL 8 2 (v := ?_) rfl (by kernel_rfl) (fun _ _ _ h => h) (by rfl) (by assumption) ?_ ?_
  rotate_left
  · (intro w hSw; (try dsimp only at hSw); go_simp; try with_reducible rfl)
  try simp only [Act.put, List.setIfInBounds_toArray, List.set_cons_zero, List.set_cons_succ]
  refine takeL 9 2 (v := ?_) rfl (by kernel_rfl) (fun _ _ _ h => h) (by rfl) (by assumption) ?_ ?_
  rotate_left
  · (intro w hSw; (try dsimp only at hSw); go_simp; try with_reducible rfl)
  try simp only [Act.put, List.setIfInBounds_toArray, List.set_cons_zero, List.set_cons_succ]
  refine takeL 10 2 (v := ?_) rfl (by kernel_rfl) (fun _ _ _ h => h) (by rfl) (by assumption) ?_ ?_
  rotate_left
  · (intro w hSw; (try dsimp only at hSw); go_simp; try with_reducible rfl)
  try simp only [Act.put, List.setIfInBounds_toArray, List.set_cons_zero, List.set_cons_succ]
  refine takeL 11 2 (v := ?_) rfl (by kernel_rfl) (fun _ _ _ h => h) (by rfl) (by assumption) ?_ ?_
  rotate_left
  · (intro w hSw; (try dsimp only at hSw); go_simp; try with_reducible rfl)
  try simp only [Act.put, List.setIfInBounds_toArray, List.set_cons_zero, List.set_cons_succ]
  refine takeL 12 2 (v := ?_) rfl (by kernel_rfl) (fun _ _ _ h => h) (by rfl) (by assumption) ?_ ?_
  rotate_left
  · (intro w hSw; (try dsimp only at hSw); go_simp; try with_reducible rfl)
  try simp only [Act.put, List.setIfInBounds_toArray, List.set_cons_zero, List.set_cons_succ]
  refine takeL 13 2 (v := ?_) rfl (by kernel_rfl) (fun _ _ _ h => h) (by rfl) (by assumption) ?_ ?_
  rotate_left
  · (intro w hSw; (try dsimp only at hSw); go_simp; try with_reducible rfl)
  try simp only [Act.put, List.setIfInBounds_toArray, List.set_cons_zero, List.set_cons_succ]
  refine takeL 14 2 (v := ?_) rfl (by kernel_rfl) (fun _ _ _ h => h) (by rfl) (by assumption) ?_ ?_
  rotate_left
  · (intro w hSw; (try dsimp only at hSw); go_simp; try with_reducible rfl)
  try simp only [Act.put, List.setIfInBounds_toArray, List.set_cons_zero, List.set_cons_succ]
  refine takeL 15 2 (v := ?_) rfl (by kernel_rfl) (fun _ _ _ h => h) (by rfl) (by assumption) ?_ ?_
  rotate_left
  · (intro w hSw; (try dsimp only at hSw); go_simp; try with_reducible rfl)
  try simp only [Act.put, List.setIfInBounds_toArray, List.set_cons_zero, List.set_cons_succ]
  refine takeL 16 2 (v := ?_) rfl (by kernel_rfl) (fun _ _ _ h => h) (by rfl) (by assumption) ?_ ?_
  rotate_left
  · (intro w hSw; (try dsimp only at hSw); go_simp; try with_reducible rfl)
  try simp only [Act.put, List.setIfInBounds_toArray, List.set_cons_zero, List.set_cons_succ]
  refine oneL 17 rfl (by kernel_rfl) (by rfl) (fun K hK => ?_)
  go_simp
  go_at_call 104
  with_reducible refine (rtop0 q lb R s _ (H.out.quiet ((((Chg.refl w Nothing).alloc _).alloc _).drew)) HS.out HL.out).mono ?_
  rintro e w1 ⟨rfl, m, rfl⟩
  go_wp2_with fail
  refine hK.out _ _ (((((Chg.refl w Nothing).alloc _).alloc _).drewN (1 + m)).cell K17.out id) (fun hHeld => ?_)
  clear hK K
  try simp only [Act.put, List.setIfInBounds_toArray, List.set_cons_zero, List.set_cons_succ]
  refine oneL 18 rfl (by kernel_rfl) (by rfl) (fun K hK => ?_)
  go_simp
  refine hK.out _ _ ((((((Chg.refl w Nothing).alloc _).alloc _).drewN (1 + m)).alloc _).cell K17.out id) (fun hHeld => ?_)
  clear hK K
  try simp only [Act.put, List.setIfInBounds_toArray, List.set_cons_zero, List.set_cons_succ]
  refine oneL 19 rfl (by kernel_rfl) (by rfl) (fun K hK => ?_)
  refine step_append_grows (by rfl) _ _ _ (by rfl) 33 i1 (fl 0) 1 8 Tryz.underlying27 H1.out.1 H1.out.2.1 H1.out.2.2.1 H1.out.2.2.2 rfl (by omega) aT s.out.length s.out.length (s.out.map fl) (by rfl) (RX.out m).1 (RX.out m).2.1 (RX.out m).2.2 ⟨w.heap.size + 1 + 1, 0, none⟩ 1 1 [fl (topN s.s 0)] (by rfl) (by rfl) (HN.out m) (by simp [Value.oneCell', fl]) (by omega) (by have := HOL.out; unfold maxLen; omega) (by have := HOL.out; omega) ?_
  intro v' w2 hown hgrow
  obtain ⟨⟨a', c', rfl⟩, -⟩ := ownsRow_shape hown
  have hcw : Chg w w2 Nothing := (((((Chg.refl w Nothing).alloc _).alloc _).drewN (1 + m)).alloc (.cells #[fl (topN s.s 0)] 33)).grown hgrow (by simp)
  have y17 := hcw.cell K17.out id
  have g17 := blk_free ((hcw.block q hq id).trans HR.out.blk) 17
  refine hK.out _ _ y17 (fun hHeld => ?_)
  clear hK K
  try simp only [Act.put, List.setIfInBounds_toArray, List.set_cons_zero, List.set_cons_succ]
  refine takeL 20 2 (v := ?_) rfl (by kernel_rfl) (fun _ _ _ h => h) (by rfl) (by assumption) ?_ ?_
  rotate_left
  · (intro w hSw; (try dsimp only at hSw); go_simp; try with_reducible rfl)
  try simp only [Act.put, List.setIfInBounds_toArray, List.set_cons_zero, List.set_cons_succ]
  refine takeL 21 2 (v := ?_) rfl (by kernel_rfl) (fun _ _ _ h => h) (by rfl) (by assumption) ?_ ?_
  rotate_left
  · (intro w hSw; (try dsimp only at hSw); go_simp; try with_reducible rfl)
  try simp only [Act.put, List.setIfInBounds_toArray, List.set_cons_zero, List.set_cons_succ]
  refine lastL rfl (by kernel_rfl) (by kernel_rfl) (fun K hK => ?_)
  go_simp
  refine hK.out _ _ ?_
  clear hK K
  all_goals
    have HR0 := Lib.hid (HR.out.quiet (((Chg.refl w Nothing).alloc (.cells #[.int .i64 18, .int .i64 n, fl x] 92)).alloc (.cells ask0 35)))
    have hc0 : Chg ((w.alloc (.cells #[.int .i64 18, .int .i64 n, fl x] 92)).alloc (.cells ask0 35)) w2 Nothing := (((Chg.refl _ Nothing).drewN (1 + m)).alloc (.cells #[fl (topN s.s 0)] 33)).grown hgrow (by simp)
    have S1 := Lib.hid (HR0.out.outed hc0 (topN s.s 0) (ownsRow_base hown (((Chg.refl ((w.alloc (.cells #[.int .i64 18, .int .i64 n, fl x] 92)).alloc (.cells ask0 35)) Nothing).drewN (1 + m)).alloc (.cells #[fl (topN s.s 0)] 33)).size))
    clear hown hgrow hc0
    go_wp2_with fail
    refine (rdrop1 q lb _ _ _ S1.out.rm HS.out HL.out).mono ?_
    rintro e w3 ⟨rfl, hS2⟩
    have hS := Rs.then HR0.out.rm S1.out hS2
    have HC0 := Lib.hid (Chg.refl ((w.alloc (.cells #[.int .i64 18, .int .i64 n, fl x] 92)).alloc (.cells ask0 35)) Nothing)
    clear hS2 S1
    obtain ⟨qd, hE⟩ := rdo_end H.out HC0.out hS
    have RE := Lib.hid hE
    have q0 : w3.cell? ⟨w.heap.size + 1, 0, none⟩ = some (.int .i64 0) := blk_cell qd 0
    have q1 : w3.cell? ⟨w.heap.size + 1, 1, none⟩ = some (.int .i64 0) := blk_cell qd 1
    have q2 : w3.cell? ⟨w.heap.size + 1, 2, none⟩ = some (.float .f64 0) := blk_cell qd 2
    have q3 : w3.cell? ⟨w.heap.size + 1, 3, none⟩ = some (.bool false) := blk_cell qd 3
    have g0 : w3.frozen? ⟨w.heap.size + 1, 0, none⟩ = false := blk_free qd 0
    have g1 : w3.frozen? ⟨w.heap.size + 1, 1, none⟩ = false := blk_free qd 1
    have g2 : w3.frozen? ⟨w.heap.size + 1, 2, none⟩ = false := blk_free qd 2
    have g3 : w3.frozen? ⟨w.heap.size + 1, 3, none⟩ = false := blk_free qd 3
    have QE := Lib.hid qd
    clear hS hE qd HC0
    go_wp2_with fail
    exact bodyPost_ret (v := askV askNone) (rdo_results (a := askNone) rfl (four_set QE.out)) rfl ⟨rfl, RE.out _ _ _ _⟩
set_option maxHeartbeats 2000000 in
theorem rdo_15_none (h : Rm w q lb R s) (hl : s.s.length ≤ 64) (hc : s.calls = []) (hh : s.how.2 = (0, 0)) :
    Calls Tryz.prog 76 #[.pointer (some ⟨q, 0, none⟩), insA 15 n x] w fun e w' => e = .returned (askV askEnd) ∧ Rs w w' q lb R { s with how := (1, 0, 0) } := by
  obtain ⟨hq, hlb, hne, hown⟩ := h.qlt
  have hq1 : ¬ q = w.heap.size := by omega
  have hq2 : ¬ q = w.heap.size + 1 := by omega
  have H := Lib.hid h
  have HL := Lib.hid hl
  obtain ⟨-, -, -, -, -, -, c14⟩ := h.cellAt
  have f14 := h.free 14
  obtain ⟨vc, vA, vS, vC, vT, vR, vB, cl, hR⟩ := h
  obtain ⟨aC, cC, rfl, hcap, -, -⟩ := hR.cal
  have k9 : w.cell? ⟨q, 9, none⟩ = some (.slice aC s.calls.length cC) := blk_cell hR.blk 9
  rw [hc] at k9
  have S1 := (hR.rm.plain (j := 14) (v := .int .i64 1) (s' := { s with how := (1, s.how.2) }) (fun _ _ _ _ _ _ _ _ => rfl) ⟨rfl, rfl, rfl, rfl, rfl, rfl, rfl, rfl⟩)
  rw [hh] at S1
  obtain ⟨W3, hW3⟩ : ∃ W3, W3 = w.setCell ⟨q, 14, none⟩ (.int .i64 1) := ⟨_, rfl⟩
  rw [← hW3] at S1
  have hz : W3.heap.size = w.heap.size := by rw [hW3]; simp
  have HB := Lib.hid (two_blk (a := (.cells #[.int .i64 15, .int .i64 n, fl x] 92)) (cs := #[.int .i64 4, .int .i64 0, .float .f64 0, .bool false]) (T := 35) hz)
  have HW := Lib.hid hW3
  have RR := Lib.hid (Rs.of H.out (S1.rm.quiet (((Chg.refl W3 Nothing).alloc (.cells #[.int .i64 15, .int .i64 n, fl x] 92)).alloc (.cells #[.int .i64 4, .int .i64 0, .float .f64 0, .bool false] 35))) ((S1.chg.alloc _).alloc _) (fun k hk => hk.imp id (fun h => h.1)))
  clear S1 hW3 hz hR hl hc hh hown
  go_enter Tryz.func76, Tryz.ntmps76
  go_wp2_with fail
  rw [← HW.out]
  exact bodyPost_ret (v := askV askEnd) (rdo_results (a := askEnd) rfl HB.out) rfl ⟨rfl, RR.out⟩
set_option maxHeartbeats 2000000 in
theorem rdo_15_some (h : Rm w q lb R s) (hl : s.s.length ≤ 64) (a : Nat) (hc : s.calls.getLast? = some (a : Int)) (hcl : s.calls.length ≤ 16) :
    Calls Tryz.prog 76 #[.pointer (some ⟨q, 0, none⟩), insA 15 n x] w fun e w' => e = .returned (askV askNone) ∧ Rs w w' q lb R { s with calls := s.calls.dropLast, at_ := a } := by
  obtain ⟨hq, hlb, hne, hown⟩ := h.qlt
  have hq1 : ¬ q = w.heap.size := by omega
  have hq2 : ¬ q = w.heap.size + 1 := by omega
  have H := Lib.hid h
  have HL := Lib.hid hl
  obtain ⟨c11, -⟩ := h.cellAt
  have f11 := h.free 11
  have f9 := h.free 9
  obtain ⟨vc, vA, vS, vC, vT, vR, vB, cl, hR⟩ := h
  obtain ⟨aC, cC, rfl, hcap, hlen, hrow⟩ := hR.cal
  have hne : 0 < s.calls.length := by
    rcases Nat.eq_zero_or_pos s.calls.length with e | e
    · rw [List.eq_nil_of_length_eq_zero e] at hc; cases hc
    · exact e
  rcases hrow with ⟨h0, _⟩ | ⟨b, o, rfl, hb, hcl2⟩
  · omega
  have k9 : w.cell? ⟨q, 9, none⟩ = some (.slice (some ⟨b, o, none⟩) s.calls.length cC) := blk_cell hR.blk 9
  have kx : w.cell? ⟨b, o + (s.calls.length - 1), none⟩ = some (.int .i64 (a : Int)) := hcl2 _ _ (by rw [List.getElem?_map, ← List.getLast?_eq_getElem?, hc]; rfl)
  have hbl := (hown b hb).1
  have hbq := (hown b hb).2.1
  have HR := Lib.hid hR
  have m0 : ((s.calls.length : Int) == 0) = false := beq_eq_false_iff_ne.2 (by omega)
  obtain ⟨M, hM⟩ : ∃ M, s.calls.length = M + 1 := ⟨s.calls.length - 1, by omega⟩
  have HM := Lib.hid hM
  have hM1 : IntKind.i64.wrap ((s.calls.length : Int) - 1) = (M : Int) := (IntWalk.i64_in ((s.calls.length : Int) - 1) (by omega)).trans (by omega)
  have hM2 : s.calls.length - 1 = M := by omega
  have hM3 : (M : Int) < (s.calls.length : Int) := by omega
  have hM4 : M ≤ cC := by omega
  have hM5 : (M : Int) ≤ (cC : Int) := by omega
  rw [hM2] at kx
  have K9 := Lib.hid k9
  have KX := Lib.hid kx
  clear hl hR hc hlen hb hcl2 hown hM hM2
  go_enter Tryz.func76, Tryz.ntmps76
  go_wp2_with fail
  refine beginL (fun w' => w'.cell? ⟨q, 9, none⟩ = some (.slice (some ⟨b, o, none⟩) s.calls.length cC) ∧ w'.cell? ⟨b, o + M, none⟩ = some (.int .i64 (a : Int))) 15 (by kernel_rfl) ⟨((((Chg.refl w Nothing).alloc _).alloc _).drew).cell K9.out id, ((((Chg.refl w Nothing).alloc _).alloc _).drew).cell KX.out id⟩ (fun hHeld => ?_)
  refine takeL 0 2 (v := ?_) rfl (by kernel_rfl) (fun _ _ _ h => h) (by rfl) (by assumption) ?_ ?_
  rotate_left
  · (intro w hSw; (try dsimp only at hSw); go_simp; try with_reducible rfl)
  try simp only [Act.put, List.setIfInBounds_toArray, List.set_cons_zero, List.set_cons_succ]
  refine takeL 1 2 (v := ?_) rfl (by kernel_rfl) (fun _ _ _ h => h) (by rfl) (by assumption) ?_ ?_
  rotate_left
  · (intro w hSw; (try dsimp only at hSw); go_simp; try with_reducible rfl)
  try simp only [Act.put, List.setIfInBounds_toArray, List.set_cons_zero, List.set_cons_succ]
  refine takeL 2 2 (v := ?_) rfl (by kernel_rfl) (fun _ _ _ h => h) (by rfl) (by assumption) ?_ ?_
  rotate_left
  · (intro w hSw; (try dsimp only at hSw); go_simp; try with_reducible rfl)
  try simp only [Act.put, List.setIfInBounds_toArray, List.set_cons_zero, List.set_cons_succ]
  refine takeL 3 2 (v := ?_) rfl (by kernel_rfl) (fun _ _ _ h => h) (by rfl) (by assumption) ?_ ?_
  rotate_left
  · (intro w hSw; (try dsimp only at hSw); go_simp; try with_reducible rfl)
  try simp only [Act.put, List.setIfInBounds_toArray, List.set_cons_zero, List.set_cons_succ]
  refine takeL 4 2 (v := ?_) rfl (by kernel_rfl) (fun _ _ _ h => h) (by rfl) (by assumption) ?_ ?_
  rotate_left
  · (intro w hSw; (try dsimp only at hSw); go_simp; try with_reducible rfl)
  try simp only [Act.put, List.setIfInBounds_toArray, List.set_cons_zero, List.set_cons_succ]
  refine takeL 5 2 (v := ?_) rfl (by kernel_rfl) (fun _ _ _ h => h) (by rfl) (by assumption) ?_ ?_
  rotate_left
  · (intro w hSw; (try dsimp only at hSw); go_simp; try with_reducible rfl)
  try simp only [Act.put, List.setIfInBounds_toArray, List.set_cons_zero, List.set_cons_succ]
  refine takeL 6 2 (v := ?_) rfl (by kernel_rfl) (fun _ _ _ h => h) (by rfl) (by assumption) ?_ ?_
  rotate_left
  · (intro w hSw; (try dsimp only at hSw); go_simp; try with_reducible rfl)
  try simp only [Act.put, List.setIfInBounds_toArray, List.set_cons_zero, List.set_cons_succ]
  refine takeL 7 2 (v := ?_) rfl (by kernel_rfl) (fun _ _ _ h => h) (by rfl) (by assumption) ?_ ?_
  rotate_left
  · (intro w hSw; (try dsimp only at hSw); go_simp; try with_reducible rfl)
  try simp only [Act.put, List.setIfInBounds_toArray, List.set_cons_zero, List.set_cons_succ]
  refine takeL 8 2 (v := ?_) rfl (by kernel_rfl) (fun _ _ _ h => h) (by rfl) (by assumption) ?_ ?_
  rotate_left
  · (intro w hSw; (try dsimp only at hSw); go_simp; try with_reducible rfl)
  try simp only [Act.put, List.setIfInBounds_toArray, List.set_cons_zero, List.set_cons_succ]
  refine takeL 9 2 (v := ?_) rfl (by kernel_rfl) (fun _ _ _ h => h) (by rfl) (by assumption) ?_ ?_
  rotate_left
  · (intro w hSw; (try dsimp only at hSw); go_simp; try with_reducible rfl)
  try simp only [Act.put, List.setIfInBounds_toArray, List.set_cons_zero, List.set_cons_succ]
  refine takeL 10 2 (v := ?_) rfl (by kernel_rfl) (fun _ _ _ h => h) (by rfl) (by assumption) ?_ ?_
  rotate_left
  · (intro w hSw; (try dsimp only at hSw); go_simp; try with_reducible rfl)
  try simp only [Act.put, List.setIfInBounds_toArray, List.set_cons_zero, List.set_cons_succ]
  refine takeL 11 2 (v := ?_) rfl (by kernel_rfl) (fun _ _ _ h => h) (by rfl) (by assumption) ?_ ?_
  rotate_left
  · (intro w hSw; (try dsimp only at hSw); go_simp; try with_reducible rfl)
  try simp only [Act.put, List.setIfInBounds_toArray, List.set_cons_zero, List.set_cons_succ]
  refine takeL 12 2 (v := ?_) rfl (by kernel_rfl) (fun _ _ _ h => h) (by rfl) (by assumption) ?_ ?_
  rotate_left
  · (intro w hSw; (try dsimp only at hSw); go_simp; try with_reducible rfl)
  try simp only [Act.put, List.setIfInBounds_toArray, List.set_cons_zero, List.set_cons_succ]
  refine takeL 13 2 (v := ?_) rfl (by kernel_rfl) (fun _ _ _ h => h) (by rfl) (by assumption) ?_ ?_
  rotate_left
  · (intro w hSw; (try dsimp only at hSw); go_simp; try with_reducible rfl)
  try simp only [Act.put, List.setIfInBounds_toArray, List.set_cons_zero, List.set_cons_succ]
  refine takeL 14 2 (v := ?_) rfl (by kernel_rfl) (fun _ _ _ h => h) (by rfl) (by assumption) ?_ ?_
  rotate_left
  · (intro w hSw; (try dsimp only at hSw); go_simp; try with_reducible rfl)
  try simp only [Act.put, List.setIfInBounds_toArray, List.set_cons_zero, List.set_cons_succ]
  refine lastL rfl (by kernel_rfl) (by kernel_rfl) (fun K hK => ?_)
  go_simp
  refine hK.out _ _ ?_
  clear hK K
  have A1 := Lib.hid (HR.out.plain (j := 11) (v := .int .i64 (a : Int)) (s' := { s with at_ := a }) rfl ⟨rfl, rfl, rfl, rfl, rfl, rfl, rfl, rfl⟩)
  have C1 := Lib.hid (((((Chg.refl (w.setCell ⟨q, 11, none⟩ (.int .i64 (a : Int))) Nothing).alloc (.cells #[.int .i64 15, .int .i64 n, fl x] 92)).alloc (.cells ask0 35)).drew.drew).cell (blk_cell A1.out.blk 9) id)
  go_wp2_with fail
  refine beginL (fun w' => w'.cell? ⟨q, 9, none⟩ = some (.slice (some ⟨b, o, none⟩) s.calls.length cC)) 14 (by kernel_rfl) C1.out (fun hHeld => ?_)
  refine takeL 0 2 (v := ?_) rfl (by kernel_rfl) (fun _ _ _ h => h) (by rfl) (by assumption) ?_ ?_
  rotate_left
  · (intro w hSw; (try dsimp only at hSw); go_simp; try with_reducible rfl)
  try simp only [Act.put, List.setIfInBounds_toArray, List.set_cons_zero, List.set_cons_succ]
  refine takeL 1 2 (v := ?_) rfl (by kernel_rfl) (fun _ _ _ h => h) (by rfl) (by assumption) ?_ ?_
  rotate_left
  · (intro w hSw; (try dsimp only at hSw); go_simp; try with_reducible rfl)
  try simp only [Act.put, List.setIfInBounds_toArray, List.set_cons_zero, List.set_cons_succ]
  refine takeL 2 2 (v := ?_) rfl (by kernel_rfl) (fun _ _ _ h => h) (by rfl) (by assumption) ?_ ?_
  rotate_left
  · (intro w hSw; (try dsimp only at hSw); go_simp; try with_reducible rfl)
  try simp only [Act.put, List.setIfInBounds_toArray, List.set_cons_zero, List.set_cons_succ]
  refine takeL 3 2 (v := ?_) rfl (by kernel_rfl) (fun _ _ _ h => h) (by rfl) (by assumption) ?_ ?_
  rotate_left
  · (intro w hSw; (try dsimp only at hSw); go_simp; try with_reducible rfl)
  try simp only [Act.put, List.setIfInBounds_toArray, List.set_cons_zero, List.set_cons_succ]
  refine takeL 4 2 (v := ?_) rfl (by kernel_rfl) (fun _ _ _ h => h) (by rfl) (by assumption) ?_ ?_
  rotate_left
  · (intro w hSw; (try dsimp only at hSw); go_simp; try with_reducible rfl)
  try simp only [Act.put, List.setIfInBounds_toArray, List.set_cons_zero, List.set_cons_succ]
  refine takeL 5 2 (v := ?_) rfl (by kernel_rfl) (fun _ _ _ h => h) (by rfl) (by assumption) ?_ ?_
  rotate_left
  · (intro w hSw; (try dsimp only at hSw); go_simp; try with_reducible rfl)
  try simp only [Act.put, List.setIfInBounds_toArray, List.set_cons_zero, List.set_cons_succ]
  refine takeL 6 2 (v := ?_) rfl (by kernel_rfl) (fun _ _ _ h => h) (by rfl) (by assumption) ?_ ?_
  rotate_left
  · (intro w hSw; (try dsimp only at hSw); go_simp; try with_reducible rfl)
  try simp only [Act.put, List.setIfInBounds_toArray, List.set_cons_zero, List.set_cons_succ]
  refine takeL 7 2 (v := ?_) rfl (by kernel_rfl) (fun _ _ _ h => h) (by rfl) (by assumption) ?_ ?_
  rotate_left
  · (intro w hSw; (try dsimp only at hSw); go_simp; try with_reducible rfl)
  try simp only [Act.put, List.setIfInBounds_toArray, List.set_cons_zero, List.set_cons_succ]
  refine takeL 8 2 (v := ?_) rfl (by kernel_rfl) (fun _ _ _ h => h) (by rfl) (by assumption) ?_ ?_
  rotate_left
  · (intro w hSw; (try dsimp only at hSw); go_simp; try with_reducible rfl)
  try simp only [Act.put, List.setIfInBounds_toArray, List.set_cons_zero, List.set_cons_succ]
  refine takeL 9 2 (v := ?_) rfl (by kernel_rfl) (fun _ _ _ h => h) (by rfl) (by assumption) ?_ ?_
  rotate_left
  · (intro w hSw; (try dsimp only at hSw); go_simp; try with_reducible rfl)
  try simp only [Act.put, List.setIfInBounds_toArray, List.set_cons_zero, List.set_cons_succ]
  refine takeL 10 2 (v := ?_) rfl (by kernel_rfl) (fun _ _ _ h => h) (by rfl) (by assumption) ?_ ?_
  rotate_left
  · (intro w hSw; (try dsimp only at hSw); go_simp; try with_reducible rfl)
  try simp only [Act.put, List.setIfInBounds_toArray, List.set_cons_zero, List.set_cons_succ]
  refine takeL 11 2 (v := ?_) rfl (by kernel_rfl) (fun _ _ _ h => h) (by rfl) (by assumption) ?_ ?_
  rotate_left
  · (intro w hSw; (try dsimp only at hSw); go_simp; try with_reducible rfl)
  try simp only [Act.put, List.setIfInBounds_toArray, List.set_cons_zero, List.set_cons_succ]
  refine takeL 12 2 (v := ?_) rfl (by kernel_rfl) (fun _ _ _ h => h) (by rfl) (by assumption) ?_ ?_
  rotate_left
  · (intro w hSw; (try dsimp only at hSw); go_simp; try with_reducible rfl)
  try simp only [Act.put, List.setIfInBounds_toArray, List.set_cons_zero, List.set_cons_succ]
  refine takeL 13 2 (v := ?_) rfl (by kernel_rfl) (fun _ _ _ h => h) (by rfl) (by assumption) ?_ ?_
  rotate_left
  · (intro w hSw; (try dsimp only at hSw); go_simp; try with_reducible rfl)
  try simp only [Act.put, List.setIfInBounds_toArray, List.set_cons_zero, List.set_cons_succ]
  refine lastL rfl (by kernel_rfl) (by kernel_rfl) (fun K hK => ?_)
  go_simp
  refine hK.out _ _ ?_
  clear hK K
  have P1 := A1.out.popped
  have e1 : s.calls.length - 1 = M := by have := HM.out; omega
  rw [e1] at P1
  have S2 := Lib.hid (Rs.of H.out P1.rm (((Chg.refl w (fun k => k = q ∨ k = lb)).setCell (.inr (.inl rfl)) _).trans P1.chg (fun k _ hk => hk)) (fun k hk => hk.imp id (fun h => by have := h.1; simpa [World.setCell] using this)))
  have RR := Lib.hid (Rs.of H.out (S2.out.rm.quiet ((((Chg.refl _ Nothing).alloc (.cells #[.int .i64 15, .int .i64 n, fl x] 92)).alloc (.cells #[.int .i64 0, .int .i64 0, .float .f64 0, .bool false] 35)).drew.drew)) (((S2.out.chg.alloc _).alloc _).drew.drew) (fun k hk => hk.imp id (fun h => h.1)))
  have HB := Lib.hid (two_blk (w := w) (X := (w.setCell ⟨q, 11, none⟩ (.int .i64 (a : Int))).setCell ⟨q, 9, none⟩ (.slice (some ⟨b, o, none⟩) M cC)) (a := (.cells #[.int .i64 15, .int .i64 n, fl x] 92)) (cs := #[.int .i64 0, .int .i64 0, .float .f64 0, .bool false]) (T := 35) (by simp [World.setCell]))
  clear P1 e1
  go_wp2_with fail
  exact bodyPost_ret (v := askV askNone) (rdo_results (a := askNone) rfl HB.out) rfl ⟨rfl, RR.out⟩
end
end Go.Proofs.YthgllaomafhdkaaGreat
