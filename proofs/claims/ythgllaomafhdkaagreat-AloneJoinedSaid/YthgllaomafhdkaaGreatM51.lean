/- The document's machine: its small methods. -/
import Derived.Test.YthgllaomafhdkaaGreatM50
import Derived.Deep.RegionLawGrows
import Derived.Deep.Upon
namespace Go.Proofs.YthgllaomafhdkaaGreat
open Go Go.RowKit
set_option maxRecDepth 100000
set_option maxHeartbeats 1000000
set_option linter.unusedVariables false
set_option linter.unusedSimpArgs false

theorem rfails_results {tmps : Array Value} {W : World} {r0 : Nat} {a : AskD} {T : TypeId} {fr : Nat × Nat} (h : tmps.getD 4 undef = .pointer (some ⟨r0, 0, none⟩)) (hb : W.heap[r0]? = some (.cells #[.int .i64 a.kind, .int .i64 a.cell, fl a.x, .bool a.first] T fr)) :
    (results Tryz.f74 tmps).run Tryz.prog W = .ok (askV a) W := by
  have h' : tmps[4]?.getD undef = .pointer (some ⟨r0, 0, none⟩) := by simpa using h
  have hl := run_loadVar_row (P := Tryz.prog) W r0 T 35 #[.int .i64 a.kind, .int .i64 a.cell, fl a.x, .bool a.first] fr _ hb Tryz.underlying35 rfl (by kernel_rfl)
  have k0 : W.cell? ⟨r0, 0, none⟩ = some (.int .i64 a.kind) := blk_cell hb 0
  have k1 : W.cell? ⟨r0, 1, none⟩ = some (.int .i64 a.cell) := blk_cell hb 1
  have k2 : W.cell? ⟨r0, 2, none⟩ = some (fl a.x) := blk_cell hb 2
  have k3 : W.cell? ⟨r0, 3, none⟩ = some (.bool a.first) := blk_cell hb 3
  simp [results, Tryz.results74, h', asAddr, hl, k0, k1, k2, k3, go_sem, askV]
theorem rread_results {tmps : Array Value} {W : World} {r0 : Nat} {a : AskD} {T : TypeId} {fr : Nat × Nat} (h : tmps.getD 2 undef = .pointer (some ⟨r0, 0, none⟩)) (hb : W.heap[r0]? = some (.cells #[.int .i64 a.kind, .int .i64 a.cell, fl a.x, .bool a.first] T fr)) :
    (results Tryz.f108 tmps).run Tryz.prog W = .ok (askV a) W := by
  have h' : tmps[2]?.getD undef = .pointer (some ⟨r0, 0, none⟩) := by simpa using h
  have hl := run_loadVar_row (P := Tryz.prog) W r0 T 35 #[.int .i64 a.kind, .int .i64 a.cell, fl a.x, .bool a.first] fr _ hb Tryz.underlying35 rfl (by kernel_rfl)
  have k0 : W.cell? ⟨r0, 0, none⟩ = some (.int .i64 a.kind) := blk_cell hb 0
  have k1 : W.cell? ⟨r0, 1, none⟩ = some (.int .i64 a.cell) := blk_cell hb 1
  have k2 : W.cell? ⟨r0, 2, none⟩ = some (fl a.x) := blk_cell hb 2
  have k3 : W.cell? ⟨r0, 3, none⟩ = some (.bool a.first) := blk_cell hb 3
  simp [results, Tryz.results108, h', asAddr, hl, k0, k1, k2, k3, go_sem, askV]
theorem rwrite_results {tmps : Array Value} {W : World} {r0 : Nat} {a : AskD} {T : TypeId} {fr : Nat × Nat} (h : tmps.getD 2 undef = .pointer (some ⟨r0, 0, none⟩)) (hb : W.heap[r0]? = some (.cells #[.int .i64 a.kind, .int .i64 a.cell, fl a.x, .bool a.first] T fr)) :
    (results Tryz.f109 tmps).run Tryz.prog W = .ok (askV a) W := by
  have h' : tmps[2]?.getD undef = .pointer (some ⟨r0, 0, none⟩) := by simpa using h
  have hl := run_loadVar_row (P := Tryz.prog) W r0 T 35 #[.int .i64 a.kind, .int .i64 a.cell, fl a.x, .bool a.first] fr _ hb Tryz.underlying35 rfl (by kernel_rfl)
  have k0 : W.cell? ⟨r0, 0, none⟩ = some (.int .i64 a.kind) := blk_cell hb 0
  have k1 : W.cell? ⟨r0, 1, none⟩ = some (.int .i64 a.cell) := blk_cell hb 1
  have k2 : W.cell? ⟨r0, 2, none⟩ = some (fl a.x) := blk_cell hb 2
  have k3 : W.cell? ⟨r0, 3, none⟩ = some (.bool a.first) := blk_cell hb 3
  simp [results, Tryz.results109, h', asAddr, hl, k0, k1, k2, k3, go_sem, askV]
theorem rdo_results {tmps : Array Value} {W : World} {r0 : Nat} {a : AskD} {T : TypeId} {fr : Nat × Nat} (h : tmps.getD 4 undef = .pointer (some ⟨r0, 0, none⟩)) (hb : W.heap[r0]? = some (.cells #[.int .i64 a.kind, .int .i64 a.cell, fl a.x, .bool a.first] T fr)) :
    (results Tryz.f76 tmps).run Tryz.prog W = .ok (askV a) W := by
  have h' : tmps[4]?.getD undef = .pointer (some ⟨r0, 0, none⟩) := by simpa using h
  have hl := run_loadVar_row (P := Tryz.prog) W r0 T 35 #[.int .i64 a.kind, .int .i64 a.cell, fl a.x, .bool a.first] fr _ hb Tryz.underlying35 rfl (by kernel_rfl)
  have k0 : W.cell? ⟨r0, 0, none⟩ = some (.int .i64 a.kind) := blk_cell hb 0
  have k1 : W.cell? ⟨r0, 1, none⟩ = some (.int .i64 a.cell) := blk_cell hb 1
  have k2 : W.cell? ⟨r0, 2, none⟩ = some (fl a.x) := blk_cell hb 2
  have k3 : W.cell? ⟨r0, 3, none⟩ = some (.bool a.first) := blk_cell hb 3
  simp [results, Tryz.results76, h', asAddr, hl, k0, k1, k2, k3, go_sem, askV]
theorem rstep_results {tmps : Array Value} {W : World} {r0 : Nat} {a : AskD} {T : TypeId} {fr : Nat × Nat} (h : tmps.getD 2 undef = .pointer (some ⟨r0, 0, none⟩)) (hb : W.heap[r0]? = some (.cells #[.int .i64 a.kind, .int .i64 a.cell, fl a.x, .bool a.first] T fr)) :
    (results Tryz.f33 tmps).run Tryz.prog W = .ok (askV a) W := by
  have h' : tmps[2]?.getD undef = .pointer (some ⟨r0, 0, none⟩) := by simpa using h
  have hl := run_loadVar_row (P := Tryz.prog) W r0 T 35 #[.int .i64 a.kind, .int .i64 a.cell, fl a.x, .bool a.first] fr _ hb Tryz.underlying35 rfl (by kernel_rfl)
  have k0 : W.cell? ⟨r0, 0, none⟩ = some (.int .i64 a.kind) := blk_cell hb 0
  have k1 : W.cell? ⟨r0, 1, none⟩ = some (.int .i64 a.cell) := blk_cell hb 1
  have k2 : W.cell? ⟨r0, 2, none⟩ = some (fl a.x) := blk_cell hb 2
  have k3 : W.cell? ⟨r0, 3, none⟩ = some (.bool a.first) := blk_cell hb 3
  simp [results, Tryz.results33, h', asAddr, hl, k0, k1, k2, k3, go_sem, askV]

section
variable {w w' : World} {q lb : Nat} {R : Nat → Prop} {s : Mc}
/-- A number on its stack, in memory. -/
theorem RmAt.numAt {vc vA vS vC vT vR vB : Value} {cl n : Nat} (h : RmAt w q lb R s vc vA vS vC vT vR vB cl) (hn : n < s.s.length) : ∃ b o cS, vS = .slice (some ⟨b, o, none⟩) s.s.length cS ∧ s.s.length ≤ cS ∧ R b ∧ w.cell? ⟨q, 8, none⟩ = some (.slice (some ⟨b, o, none⟩) s.s.length cS) ∧ w.cell? ⟨b, o + (s.s.length - 1 - n), none⟩ = some (fl (topN s.s n)) ∧ ∀ j u, (s.s.map fl)[j]? = some u → w.cell? ⟨b, o + j, none⟩ = some u := by
  have k8 := blk_cell h.blk 8
  obtain ⟨aS, cS, rfl, hcap, hlen, hrow⟩ := h.num
  rcases hrow with ⟨h0, _⟩ | ⟨b, o, rfl, hb, hc⟩
  · omega
  refine ⟨b, o, cS, rfl, hcap, hb, k8, hc _ _ ?_, hc⟩
  have : s.s.length - 1 - n < s.s.length := by omega
  unfold topN
  rw [List.getElem?_map, List.getD_eq_getElem?_getD, List.getElem?_eq_getElem this]
  rfl
end
theorem rtop_any (q lb : Nat) (R : Nat → Prop) (s : Mc) (n : Nat) (w : World) (h : Rm w q lb R s) (hn : n < s.s.length) (hl : s.s.length ≤ 64) :
    Calls Tryz.prog 104 #[.pointer (some ⟨q, 0, none⟩), .int .i64 (n : Int)] w fun e w' => e = .returned (fl (topN s.s n)) ∧ ∃ m, w' = w.drewN m := by
  obtain ⟨vc, vA, vS, vC, vT, vR, vB, cl, hR⟩ := h
  obtain ⟨b, o, cS, rfl, hcap, hb, k8, kx, _⟩ := hR.numAt hn
  clear hR
  generalize topN s.s n = x at kx ⊢
  generalize s.s.length = N at *
  go_enter Tryz.func104, Tryz.ntmps104
  go_wp2_with fail
  go_quiet (fail)
  go_wp2_with fail
  go_ret
  exact ⟨rfl, _, rfl⟩
theorem rfails_any (q lb : Nat) (R : Nat → Prop) (s : Mc) (n : Int) (w : World) (h : Rm w q lb R s) :
    Calls Tryz.prog 74 #[.pointer (some ⟨q, 0, none⟩), .int .i64 n] w fun e w' => e = .returned (askV askEnd) ∧ Rs w w' q lb R (s.fails n) := by
  have H := Lib.hid h
  obtain ⟨vc, vA, vS, vC, vT, vR, vB, cl, hR⟩ := h
  have hq := hR.qlt.1
  have hqn : ¬ q = w.heap.size := by omega
  have hqn1 : ¬ q = w.heap.size + 1 := by omega
  have c14 : w.cell? ⟨q, 14, none⟩ = some (.int .i64 s.how.1) := blk_cell hR.blk 14
  have c15 : w.cell? ⟨q, 15, none⟩ = some (.int .i64 s.how.2.1) := blk_cell hR.blk 15
  have c16 : w.cell? ⟨q, 16, none⟩ = some (.int .i64 s.how.2.2) := blk_cell hR.blk 16
  have f14 : w.frozen? ⟨q, 14, none⟩ = false := blk_free hR.blk 14
  have f15 : w.frozen? ⟨q, 15, none⟩ = false := blk_free hR.blk 15
  have f16 : w.frozen? ⟨q, 16, none⟩ = false := blk_free hR.blk 16
  have A1 := hR.plain (j := 14) (v := .int .i64 3) (s' := { s with how := (3, s.how.2) }) rfl ⟨rfl, rfl, rfl, rfl, rfl, rfl, rfl, rfl⟩
  have A2 := A1.plain (j := 15) (v := .int .i64 0) (s' := { s with how := (3, 0, s.how.2.2) }) rfl ⟨rfl, rfl, rfl, rfl, rfl, rfl, rfl, rfl⟩
  have A3 := A2.plain (j := 16) (v := .int .i64 n) (s' := { s with how := (3, 0, n) }) rfl ⟨rfl, rfl, rfl, rfl, rfl, rfl, rfl, rfl⟩
  have C3 : Chg w (((w.setCell ⟨q, 14, none⟩ (.int .i64 3)).setCell ⟨q, 15, none⟩ (.int .i64 0)).setCell ⟨q, 16, none⟩ (.int .i64 n)) (fun k => k = q ∨ k = lb) := (((Chg.refl w _).setCell (.inr (.inl rfl)) _).setCell (.inr (.inl rfl)) _).setCell (.inr (.inl rfl)) _
  obtain ⟨W3, hW3⟩ : ∃ W3, W3 = ((w.setCell ⟨q, 14, none⟩ (.int .i64 3)).setCell ⟨q, 15, none⟩ (.int .i64 0)).setCell ⟨q, 16, none⟩ (.int .i64 n) := ⟨_, rfl⟩
  rw [← hW3] at A3 C3
  have hz : W3.heap.size = w.heap.size := by rw [hW3]; simp
  have hb := heap_alloc_new W3 (.cells #[.int .i64 4, .int .i64 0, .float .f64 0, .bool false] 35)
  rw [hz] at hb
  have HB := Lib.hid hb
  have HW := Lib.hid hW3
  have RR := Lib.hid (Rs.of H.out ((show Rm W3 q lb R (s.fails n) from ⟨_, _, _, _, _, _, _, _, A3⟩).quiet ((Chg.refl W3 Nothing).alloc (.cells #[.int .i64 4, .int .i64 0, .float .f64 0, .bool false] 35))) (C3.alloc _) (fun k hk => .inl hk))
  clear A1 A2 A3 C3 hW3 hz hb hR
  go_enter Tryz.func74, Tryz.ntmps74
  go_wp2
  rw [← HW.out]
  exact bodyPost_ret (v := askV askEnd) (rfails_results (a := askEnd) rfl HB.out) rfl ⟨rfl, RR.out⟩
/-- append of nothing, as a step of a region that draws. -/
theorem step_append_none {P : Program} {w : World} {ops : Array Oper} {o : Oper} {a : Act} {K : Act → World → Prop} {Q : Exit → Act → World → Prop} {E : Prop} (hgd : o.guard = none) (s x : Operand) (t : TypeId)
    (ho : o.op = .call { callee := .builtin .append, args := #[s, x], argTypes := #[t, t] }) (e : TypeId) (i : TypeInfo) (ht : P.underlying t = some (.slice e)) (hi : P.info? e = some i)
    (ao : Option Addr) (n cap : Nat) (hle : n ≤ cap) (hs : a.eval s = .slice ao n cap) (hx : a.eval x = .slice none 0 0) (h : K (a.put o.dst (.slice ao n cap)) w) :
    if Region.wanted o (yielded ops a.tmps) = true then Oper.wp P o a w K Q else E := by
  have hw : Region.wanted o (yielded ops a.tmps) = true := by simp [Region.wanted, hgd]
  rw [if_pos hw]
  have hr := run_append_nothing (P := P) w t t o.type e i ht hi ao n cap hle (.slice none 0 0) (Src.ofNil w ht 0)
  unfold Oper.wp execOp
  simp only [ho, resolve, invoke, builtin, Sem.run_bind, Sem.run_pure, Result.andThen_ok, List.map_toArray, List.map_cons, List.map_nil, hs, hx, hr]
  exact h
theorem RRow.reslice {w : World} {R : Nat → Prop} {a : Option Addr} {n c k size : Nat} {xs : List Value} (h : RRow w R (.slice a n c) n size xs) (hk : k ≤ n) : RRow w R (.slice a k k) k size (xs.take (k * size)) := by
  obtain ⟨a', c', hv, h1, h2, h3⟩ := h
  injection hv with e1 e2 e3
  subst e1 e3
  refine ⟨a, k, rfl, Nat.le_refl _, ?_, ?_⟩
  · rw [List.length_take, h2]; exact Nat.min_eq_left (Nat.mul_le_mul_right _ hk)
  · rcases h3 with ⟨h0, h4⟩ | ⟨b, o, rfl, hb, hc⟩
    · exact .inl ⟨by omega, fun _ => by omega⟩
    · refine .inr ⟨b, o, rfl, hb, fun j u hu => hc j u ?_⟩
      rw [List.getElem?_take] at hu
      split at hu
      · exact hu
      · cases hu
theorem RRow.olds {w : World} {R : Nat → Prop} {a : Option Addr} {n c size : Nat} {xs : List Value} (h : RRow w R (.slice a n c) n size xs) (hcn : c = n) : (a = none → n = 0 ∧ c = 0) ∧ xs.length = n * size ∧ ∀ b, a = some b → ∀ j u, xs[j]? = some u → w.cell? (b.add j) = some u := by
  obtain ⟨a', c', hv, h1, h2, h3⟩ := h
  injection hv with e1 e2 e3
  subst e1 e3
  rcases h3 with ⟨h0, h4⟩ | ⟨b, o, rfl, hb, hc⟩
  · refine ⟨fun _ => ⟨h0, by omega⟩, h2, fun b hb j u hu => ?_⟩
    have : xs = [] := List.eq_nil_of_length_eq_zero (by rw [h2, h0, Nat.zero_mul])
    rw [this] at hu
    simp at hu
  · exact ⟨(fun h => by cases h), h2, fun b' e j u hu => by injection e with e; subst e; rw [Addr.add_lit]; exact hc j u hu⟩
theorem RRow.drew {w : World} {R : Nat → Prop} {v : Value} {n size : Nat} {xs : List Value} (h : RRow w R v n size xs) : RRow w.drew R v n size xs := h.move (fun b hb => ⟨hb, rfl⟩)
/-- What is taken, and laid. -/
def Mc.trade (s : Mc) (k : Nat) (l : List Nat) : Mc := { s with s := s.s.take k ++ l }
theorem rtrade_none (q lb : Nat) (R : Nat → Prop) (s : Mc) (k n : Nat) (w : World) (h : Rm w q lb R s) (hn : s.s.length = k + n) (hl : s.s.length ≤ 64) :
    Calls Tryz.prog 77 #[.pointer (some ⟨q, 0, none⟩), .int .i64 (n : Int), .slice none 0 0] w fun e w' => e = .returned (.tuple #[]) ∧ Rs w w' q lb R (s.trade k []) := by
  obtain ⟨i1, i11, i12, i13, i14⟩ := info_parts (show (Tryz.prog.info? 33).map (fun i => (i.zero, i.size, i.bytes)) = some (some (fl 0), 1, 8) by kernel_rfl)
  have H := Lib.hid h
  obtain ⟨vc, vA, vS, vC, vT, vR, vB, cl, hR⟩ := h
  have f8 := blk_free hR.blk 8
  have hcr := hR.num
  obtain ⟨aS, cS, rfl, hcap, -, -⟩ := hR.num
  have k8 : w.cell? ⟨q, 8, none⟩ = some (.slice aS s.s.length cS) := blk_cell hR.blk 8
  have hw : IntKind.i64.wrap ((s.s.length : Int) - (n : Int)) = (k : Int) := by rw [show (s.s.length : Int) - (n : Int) = (k : Int) by omega]; exact IntWalk.i64_in _ (by omega)
  have RR := Lib.hid (fun (m : Nat) => show Rs w ((w.drewN m).setCell ⟨q, 8, none⟩ (.slice aS k k)) q lb R (s.trade k []) from by
    have hr := hR.rowsC ((Chg.refl w Nothing).drewN m) (R' := R) (fun _ h => h)
    have hm := hR.store (s' := s.trade k []) (j := 8) (v := .slice aS k k) (R' := R) ((Chg.refl w Nothing).drewN m) rfl rfl ⟨hr.code, hr.arg, by
      have h2 := hr.num.reslice (k := k) (by omega)
      have e : (s.trade k []).s.length = k := by show (s.s.take k ++ []).length = k; simp; omega
      rw [e]
      have e2 : (s.trade k []).s.map fl = (s.s.map fl).take (k * 1) := by show (s.s.take k ++ []).map fl = _; rw [List.append_nil, Nat.mul_one, List.map_take]
      rw [e2]; exact h2, hr.cal, hr.out, hr.reads, hr.buf⟩ (fun k hk => .inl hk)
    exact Rs.of H.out ⟨_, _, _, _, _, _, _, _, hm⟩ ((((Chg.refl w Nothing).drewN m).mono (fun _ _ h => h.elim)).setCell (.inr (.inl rfl)) _) (fun k hk => .inl hk))
  have hkc : k ≤ cS := by omega
  have hk0 : (0 : Int) ≤ (k : Int) := by omega
  have HI := Lib.hid i11
  have HN := Lib.hid (And.intro hn hl)
  clear hR hcr hn i11 i12 i13 i14
  generalize s.s.length = N at *
  go_enter Tryz.func77, Tryz.ntmps77
  go_wp2_with fail
  go_region_law (refine step_append_none (by rfl) _ _ _ (by rfl) 33 _ Tryz.underlying27 HI.out aS k k (Nat.le_refl _) (by rfl) (by rfl) ?_)
  all_goals
    go_wp2_with fail
    go_end0
    exact ⟨rfl, RR.out 1⟩
theorem rtrade_more (q lb : Nat) (R : Nat → Prop) (s : Mc) (k n m lc : Nat) (l : List Nat) (ad : Addr) (w : World) (h : Rm w q lb R s) (hn : s.s.length = k + n) (hl : s.s.length ≤ 64) (hm : l.length = m) (hm0 : 0 < m) (hm2 : m ≤ 2)
    (hc : ∀ j u, (l.map fl)[j]? = some u → w.cell? (ad.add j) = some u) :
    Calls Tryz.prog 77 #[.pointer (some ⟨q, 0, none⟩), .int .i64 (n : Int), .slice (some ad) m lc] w fun e w' => e = .returned (.tuple #[]) ∧ Rs w w' q lb R (s.trade k l) := by
  obtain ⟨i1, i11, i12, i13, i14⟩ := info_parts (show (Tryz.prog.info? 33).map (fun i => (i.zero, i.size, i.bytes)) = some (some (fl 0), 1, 8) by kernel_rfl)
  have H := Lib.hid h
  obtain ⟨vc, vA, vS, vC, vT, vR, vB, cl, hR⟩ := h
  have hq := hR.qlt.1
  have HR := Lib.hid hR
  have f8 := blk_free hR.blk 8
  have hcr := hR.num
  obtain ⟨aS, cS, rfl, hcap, -, -⟩ := hR.num
  have k8 : w.cell? ⟨q, 8, none⟩ = some (.slice aS s.s.length cS) := blk_cell hR.blk 8
  have hw : IntKind.i64.wrap ((s.s.length : Int) - (n : Int)) = (k : Int) := by rw [show (s.s.length : Int) - (n : Int) = (k : Int) by omega]; exact IntWalk.i64_in _ (by omega)
  have RO := Lib.hid ((hcr.reslice (k := k) (by omega)).olds rfl)
  have hkc : k ≤ cS := by omega
  have hk0 : (0 : Int) ≤ (k : Int) := by omega
  have H1 := Lib.hid (And.intro i11 (And.intro i12 (And.intro i13 i14)))
  have HN := Lib.hid (And.intro hn (And.intro hl (And.intro hm (And.intro hm0 (And.intro hm2 hc)))))
  clear hR hcr hn hm hm0 hm2 hc i11 i12 i13 i14
  go_enter Tryz.func77, Tryz.ntmps77
  go_wp2_with fail
  go_region_law (refine step_append_grows (by rfl) _ _ _ (by rfl) 33 i1 (fl 0) 1 8 Tryz.underlying27 H1.out.1 H1.out.2.1 H1.out.2.2.1 H1.out.2.2.2 rfl (by omega) aS k k ((s.s.map fl).take (k * 1)) (by rfl) RO.out.1 RO.out.2.1 RO.out.2.2 ad m lc (l.map fl) (by rfl) (by have := HN.out.2.2.1; simp; omega) HN.out.2.2.2.2.2 (fls_one l) (by have := HN.out.2.2.2.1; omega) (by have := HN.out; unfold maxLen; omega) (by have := HN.out; omega) ?_; intro v' w2 hown hgrow; obtain ⟨⟨a', c', rfl⟩, -⟩ := ownsRow_shape hown; have y1 : w2.cell? ⟨q, 8, none⟩ = some (.slice aS s.s.length cS) := (World.cell?_of_block (w := w) (hgrow.block q hq (by simp))).trans k8; have y2 : w2.frozen? ⟨q, 8, none⟩ = false := blk_free ((hgrow.block q hq (by simp)).trans HR.out.blk) 8)
  all_goals
    have hc2 : Chg w w2 Nothing := (Chg.refl w Nothing).drew.grown hgrow (by simp)
    have hr := HR.out.rowsC hc2 (R' := fun b => R b ∨ (Value.slice a' (k + m) c').ownBlock = some b) (fun _ h => .inl h)
    have e1 : (s.trade k l).s.length = k + m := by show (s.s.take k ++ l).length = k + m; have := HN.out.1; have := HN.out.2.2.1; simp; omega
    have e2 : (s.trade k l).s.map fl = (s.s.map fl).take (k * 1) ++ l.map fl := by show (s.s.take k ++ l).map fl = _; rw [List.map_append, Nat.mul_one, List.map_take]
    have hm := HR.out.store (s' := s.trade k l) (j := 8) (v := .slice a' (k + m) c') (R' := fun b => R b ∨ (Value.slice a' (k + m) c').ownBlock = some b) hc2 rfl rfl ⟨hr.code, hr.arg, by rw [e1, e2]; exact RRow.owned hown (fun b hb => .inr hb), hr.cal, hr.out, hr.reads, hr.buf⟩ (fun b hb => hb.imp id (fun h => hown.lt b h))
    have RR := Lib.hid (show Rs w (w2.setCell ⟨q, 8, none⟩ (.slice a' (k + m) c')) q lb R (s.trade k l) from Rs.of H.out ⟨_, _, _, _, _, _, _, _, hm⟩ ((hc2.mono (fun _ _ h => h.elim)).setCell (.inr (.inl rfl)) _) (fun b hb => hb.imp id (fun h => (hown.lt b h).1)))
    clear hc2 hr e1 e2 hm hown hgrow y1 y2
    go_wp2_with fail
    go_end0
    exact ⟨rfl, RR.out⟩
theorem reffect_any (k : Nat) (w : World) (h1 : 1 ≤ k) (h2 : k ≤ 20) :
    Calls Tryz.prog 103 #[.int .i64 (k : Int)] w fun e w' => e = .returned (.tuple #[.int .i64 (takesOf k), .int .i64 (laysOf k), .int .i64 0]) ∧ Chg w w' Nothing := by
  obtain ⟨ws, f0, f1, f2, f3, f4⟩ := rows_at h1 h2
  have b1 : decide ((k : Int) < 1) = false := decide_eq_false (by omega)
  have b2 : decide (20 < (k : Int)) = false := decide_eq_false (by omega)
  have b21 : (k : Int) < 21 := by omega
  clear h1 h2
  generalize loOf k = LO at *
  generalize hiOf k = HI at *
  generalize takesOf k = TK at *
  generalize laysOf k = LY at *
  go_enter Tryz.func103, Tryz.ntmps103
  go_wp2_with fail
  refine (rrows_any _).mono ?_
  rintro e w1 ⟨g, rfl, hc, hg, hcell⟩
  have e0 := hcell _ _ f0
  have e1 := hcell _ _ f1
  have e2 := hcell _ _ f2
  have e3 := hcell _ _ f3
  have e4 := hcell _ _ f4
  have HC := Lib.hid hc
  clear hc hcell f0 f1 f2 f3 f4 hg
  go_wp2_with fail
  go_quiet (fail)
  go_wp2_with fail
  go_ret3
  exact ⟨rfl, (HC.out.alloc _).drewN _⟩
theorem getN_of {l : List (Int × Nat)} {c : Int} {i x : Nat} (h : Kn l c i) (hx : l[i]? = some (c, x)) : getN l c = some x := by
  unfold getN
  rw [h.pos]
  simp [List.getD_eq_getElem?_getD, hx]
theorem getN_un {l : List (Int × Nat)} {c : Int} (h : Un l c) : getN l c = none := by
  unfold getN
  rw [h.pos]
  rfl
theorem rwrote_any (q lb : Nat) (R : Nat → Prop) (s : Mc) (c : Int) (w : World) (h : Rm w q lb R s) (hl : s.buf.length ≤ 4096) :
    Calls Tryz.prog 137 #[.pointer (some ⟨q, 0, none⟩), .int .i64 c] w fun e w' => e = .returned (.tuple #[fl ((getN s.buf c).getD 0), .bool (getN s.buf c).isSome]) ∧ Chg w w' Nothing := by
  obtain ⟨vc, vA, vS, vC, vT, vR, vB, cl, hR⟩ := h
  obtain ⟨aB, cB, rfl, -, hs⟩ := hR.buf.sees
  have k19 : w.cell? ⟨q, 19, none⟩ = some (.slice aB s.buf.length cB) := blk_cell hR.blk 19
  have HS := Lib.hid hs
  clear hR hs
  generalize s.buf = l at *
  go_enter Tryz.func137, Tryz.ntmps137
  go_wp2_with fail
  go_loopg [13] l.length (fun k i wr => ∃ n : Nat, n + k = l.length ∧ i = .int .i64 (n : Nat) ∧ (∀ (j : Nat) (t : Int × Nat), j < n → l[j]? = some t → t.1 ≠ c) ∧ Chg w wr Nothing)
  case atStart => exact ⟨0, by simp, rfl, fun j _ hj => absurd hj (Nat.not_lt_zero j), Chg.refl _ _⟩
  case round =>
    obtain ⟨n, hn, rfl, hno, hc⟩ := hrel
    have HO := Lib.hid hno
    have HC := Lib.hid hc
    clear hno hc k19
    by_cases hlt : n < l.length
    · have hd : decide (n < l.length) = true := by simpa using hlt
      obtain ⟨ci, x, hx⟩ : ∃ ci x, l[n]? = some (ci, x) := ⟨_, _, List.getElem?_eq_getElem hlt⟩
      obtain ⟨h1, h2⟩ := tchV_at l n _ hx
      have HX := Lib.hid hx
      rcases HS.out with h | ⟨b, o, rfl, hcl⟩
      · rw [h] at h1; simp at h1
      have x1 := HC.out.cell (hcl _ _ h1) id
      have x2 := HC.out.cell (hcl _ _ h2) id
      rw [← Nat.add_assoc] at x2
      dsimp only at x1 x2
      clear h1 h2 hcl hx
      by_cases e : ci = c
      · subst e
        have hq : (ci == ci) = true := by simp
        have GN := Lib.hid (show getN l ci = some x from getN_of ⟨⟨x, HX.out⟩, fun j hj t ht => HO.out j t hj ht⟩ HX.out)
        go_wp2_with fail
        go_ret2
        rw [GN.out]
        exact ⟨rfl, HC.out.alloc _⟩
      · have hq : (ci == c) = false := beq_eq_false_iff_ne.2 e
        have NO := Lib.hid (show ∀ (j : Nat) (t : Int × Nat), j < n + 1 → l[j]? = some t → t.1 ≠ c from fun j t hj ht => by
          by_cases ej : j = n
          · subst ej; rw [HX.out] at ht; injection ht with ht; subst ht; exact e
          · exact HO.out j t (by omega) ht)
        have NC := Lib.hid HC.out.alloc
        clear e
        go_wp2_with fail
        go_roundg (gk - 1)
        case measure => omega
        case rel => exact ⟨n + 1, by omega, by go_num, NO.out, NC.out _⟩
    · have hd : decide (n < l.length) = false := by simpa using hlt
      have GN := Lib.hid (show getN l c = none from getN_un (fun t ht => by
        obtain ⟨j, hj⟩ := List.mem_iff_getElem?.1 ht
        exact HO.out j t (by have := (List.getElem?_eq_some_iff.1 hj).1; omega) hj))
      go_wp2_with fail
      go_ret2
      rw [GN.out]
      exact ⟨rfl, HC.out⟩
theorem roomOk_eq (s : Mc) (x : Ins) : roomOk s x = (decide (needOf x ≤ s.s.length) && decide ((s.s.length : Int) - takesOf x.1 + laysOf x.1 ≤ 64) && !(x.1 == 14 && s.calls.length == 16)) := rfl
set_option maxHeartbeats 2000000 in
theorem rroom_any (q lb : Nat) (R : Nat → Prop) (s : Mc) (k : Nat) (n : Int) (x : Nat) (w : World) (h : Rm w q lb R s) (h1 : 1 ≤ k) (h2 : k ≤ 20) (h5 : k = 5 → 0 ≤ n ∧ n ≤ 63) (hl : s.s.length ≤ 64) (hcl : s.calls.length ≤ 16) :
    Calls Tryz.prog 75 #[.pointer (some ⟨q, 0, none⟩), .agg #[.int .i64 (k : Int), .int .i64 n, fl x]] w fun e w' => e = .returned (.bool (roomOk s ((k : Int), n, x))) ∧ Chg w w' Nothing := by
  obtain ⟨t1, t2, t3, t4⟩ := takes_bd (op := (k : Int)) (by omega) (by omega)
  obtain ⟨vc, vA, vS, vC, vT, vR, vB, cl, hR⟩ := h
  obtain ⟨aS, cS, rfl, -, -, -⟩ := hR.num
  obtain ⟨aC, cC, rfl, -, -, -⟩ := hR.cal
  have k8 : w.cell? ⟨q, 8, none⟩ = some (.slice aS s.s.length cS) := blk_cell hR.blk 8
  have k9 : w.cell? ⟨q, 9, none⟩ = some (.slice aC s.calls.length cC) := blk_cell hR.blk 9
  have HK := Lib.hid (And.intro h1 h2)
  have HB := Lib.hid (roomOk_eq s ((k : Int), n, x))
  dsimp only at HB
  clear hR
  obtain ⟨TK, hTK⟩ : ∃ TK, takesOf k = TK := ⟨_, rfl⟩
  obtain ⟨LY, hLY⟩ : ∃ LY, laysOf k = LY := ⟨_, rfl⟩
  rw [hTK] at t1 t2
  rw [hLY] at t3 t4
  rw [hTK, hLY] at HB
  have HTL := Lib.hid (And.intro hTK hLY)
  generalize s.s.length = N at *
  generalize s.calls.length = M at *
  by_cases e5 : k = 5
  · have hn := h5 e5
    have hn0 := hn.1
    have hn1 := hn.2
    have e6 : needOf ((k : Int), n, x) = n + 1 := if_pos (by show (k : Int) = 5; omega)
    have p5 : ((k : Int) == 5) = true := by rw [e5]; rfl
    have p14 : ((k : Int) == 14) = false := by rw [e5]; rfl
    rw [e6, p14, Bool.false_and, Bool.not_false, Bool.and_true] at HB
    clear hTK hLY h1 h2 h5 hn e6 e5
    by_cases a : n + 1 ≤ (N : Int)
    · have q1 : decide (n + 1 ≤ (N : Int)) = true := decide_eq_true a
      rw [q1, Bool.true_and] at HB
      clear a
      go_enter Tryz.func75, Tryz.ntmps75
      go_wp2_with fail
      with_reducible refine (reffect_any k _ HK.out.1 HK.out.2).mono ?_
      rintro e w1 ⟨rfl, cc1⟩
      have C1 := Lib.hid (((Chg.refl w Nothing).alloc (.cells #[.int .i64 (k : Int), .int .i64 n, fl x] 92)).trans cc1 (fun _ _ h => h))
      have hbx := (cc1.block w.heap.size (by simp) id).trans (heap_alloc_new w (.cells #[.int .i64 (k : Int), .int .i64 n, fl x] 92))
      have d0 : w1.cell? ⟨w.heap.size, 0, none⟩ = some (.int .i64 (k : Int)) := blk_cell hbx 0
      have d1 : w1.cell? ⟨w.heap.size, 1, none⟩ = some (.int .i64 n) := blk_cell hbx 1
      have y8 := C1.out.cell k8 id
      have y9 := C1.out.cell k9 id
      clear cc1 hbx k8 k9
      rw [HTL.out.1, HTL.out.2]
      go_wp2_with fail
      go_ret
      exact ⟨by rw [HB.out]; rfl, C1.out⟩
    · have q1 : decide (n + 1 ≤ (N : Int)) = false := decide_eq_false a
      rw [q1, Bool.false_and] at HB
      clear a
      go_enter Tryz.func75, Tryz.ntmps75
      go_wp2_with fail
      with_reducible refine (reffect_any k _ HK.out.1 HK.out.2).mono ?_
      rintro e w1 ⟨rfl, cc1⟩
      have C1 := Lib.hid (((Chg.refl w Nothing).alloc (.cells #[.int .i64 (k : Int), .int .i64 n, fl x] 92)).trans cc1 (fun _ _ h => h))
      have hbx := (cc1.block w.heap.size (by simp) id).trans (heap_alloc_new w (.cells #[.int .i64 (k : Int), .int .i64 n, fl x] 92))
      have d0 : w1.cell? ⟨w.heap.size, 0, none⟩ = some (.int .i64 (k : Int)) := blk_cell hbx 0
      have d1 : w1.cell? ⟨w.heap.size, 1, none⟩ = some (.int .i64 n) := blk_cell hbx 1
      have y8 := C1.out.cell k8 id
      have y9 := C1.out.cell k9 id
      clear cc1 hbx k8 k9
      rw [HTL.out.1, HTL.out.2]
      go_wp2_with fail
      go_ret
      exact ⟨by rw [HB.out]; rfl, C1.out⟩
  · have e6 : needOf ((k : Int), n, x) = TK := by rw [← hTK]; exact if_neg (by show ¬ (k : Int) = 5; omega)
    have p5 : ((k : Int) == 5) = false := beq_eq_false_iff_ne.2 (by omega)
    rw [e6] at HB
    clear hTK hLY h1 h2 h5 e6 e5
    by_cases a : TK ≤ (N : Int)
    · have q1 : decide (TK ≤ (N : Int)) = true := decide_eq_true a
      rw [q1, Bool.true_and] at HB
      clear a
      by_cases c : (k : Int) = 14
      · have p14 : ((k : Int) == 14) = true := by rw [c]; rfl
        rw [p14, Bool.true_and] at HB
        clear c
        by_cases d : M = 16
        · have p16 : ((M : Int) == 16) = true := by rw [d]; rfl
          have p17 : (M == 16) = true := by rw [d]; rfl
          rw [p17, Bool.not_true, Bool.and_false] at HB
          clear d p17
          go_enter Tryz.func75, Tryz.ntmps75
          go_wp2_with fail
          with_reducible refine (reffect_any k _ HK.out.1 HK.out.2).mono ?_
          rintro e w1 ⟨rfl, cc1⟩
          have C1 := Lib.hid (((Chg.refl w Nothing).alloc (.cells #[.int .i64 (k : Int), .int .i64 n, fl x] 92)).trans cc1 (fun _ _ h => h))
          have hbx := (cc1.block w.heap.size (by simp) id).trans (heap_alloc_new w (.cells #[.int .i64 (k : Int), .int .i64 n, fl x] 92))
          have d0 : w1.cell? ⟨w.heap.size, 0, none⟩ = some (.int .i64 (k : Int)) := blk_cell hbx 0
          have d1 : w1.cell? ⟨w.heap.size, 1, none⟩ = some (.int .i64 n) := blk_cell hbx 1
          have y8 := C1.out.cell k8 id
          have y9 := C1.out.cell k9 id
          clear cc1 hbx k8 k9
          rw [HTL.out.1, HTL.out.2]
          go_wp2_with fail
          go_ret
          exact ⟨by rw [HB.out]; rfl, C1.out⟩
        · have p16 : ((M : Int) == 16) = false := beq_eq_false_iff_ne.2 (by omega)
          have p17 : (M == 16) = false := beq_eq_false_iff_ne.2 d
          rw [p17, Bool.not_false, Bool.and_true] at HB
          clear d p17
          go_enter Tryz.func75, Tryz.ntmps75
          go_wp2_with fail
          with_reducible refine (reffect_any k _ HK.out.1 HK.out.2).mono ?_
          rintro e w1 ⟨rfl, cc1⟩
          have C1 := Lib.hid (((Chg.refl w Nothing).alloc (.cells #[.int .i64 (k : Int), .int .i64 n, fl x] 92)).trans cc1 (fun _ _ h => h))
          have hbx := (cc1.block w.heap.size (by simp) id).trans (heap_alloc_new w (.cells #[.int .i64 (k : Int), .int .i64 n, fl x] 92))
          have d0 : w1.cell? ⟨w.heap.size, 0, none⟩ = some (.int .i64 (k : Int)) := blk_cell hbx 0
          have d1 : w1.cell? ⟨w.heap.size, 1, none⟩ = some (.int .i64 n) := blk_cell hbx 1
          have y8 := C1.out.cell k8 id
          have y9 := C1.out.cell k9 id
          clear cc1 hbx k8 k9
          rw [HTL.out.1, HTL.out.2]
          go_wp2_with fail
          go_ret
          exact ⟨by rw [HB.out]; rfl, C1.out⟩
      · have p14 : ((k : Int) == 14) = false := beq_eq_false_iff_ne.2 c
        rw [p14, Bool.false_and, Bool.not_false, Bool.and_true] at HB
        clear c
        go_enter Tryz.func75, Tryz.ntmps75
        go_wp2_with fail
        with_reducible refine (reffect_any k _ HK.out.1 HK.out.2).mono ?_
        rintro e w1 ⟨rfl, cc1⟩
        have C1 := Lib.hid (((Chg.refl w Nothing).alloc (.cells #[.int .i64 (k : Int), .int .i64 n, fl x] 92)).trans cc1 (fun _ _ h => h))
        have hbx := (cc1.block w.heap.size (by simp) id).trans (heap_alloc_new w (.cells #[.int .i64 (k : Int), .int .i64 n, fl x] 92))
        have d0 : w1.cell? ⟨w.heap.size, 0, none⟩ = some (.int .i64 (k : Int)) := blk_cell hbx 0
        have d1 : w1.cell? ⟨w.heap.size, 1, none⟩ = some (.int .i64 n) := blk_cell hbx 1
        have y8 := C1.out.cell k8 id
        have y9 := C1.out.cell k9 id
        clear cc1 hbx k8 k9
        rw [HTL.out.1, HTL.out.2]
        go_wp2_with fail
        go_ret
        exact ⟨by rw [HB.out]; rfl, C1.out⟩
    · have q1 : decide (TK ≤ (N : Int)) = false := decide_eq_false a
      rw [q1, Bool.false_and, Bool.false_and] at HB
      clear a
      by_cases c : (k : Int) = 14
      · have p14 : ((k : Int) == 14) = true := by rw [c]; rfl
        clear c
        by_cases d : M = 16
        · have p16 : ((M : Int) == 16) = true := by rw [d]; rfl
          clear d
          go_enter Tryz.func75, Tryz.ntmps75
          go_wp2_with fail
          with_reducible refine (reffect_any k _ HK.out.1 HK.out.2).mono ?_
          rintro e w1 ⟨rfl, cc1⟩
          have C1 := Lib.hid (((Chg.refl w Nothing).alloc (.cells #[.int .i64 (k : Int), .int .i64 n, fl x] 92)).trans cc1 (fun _ _ h => h))
          have hbx := (cc1.block w.heap.size (by simp) id).trans (heap_alloc_new w (.cells #[.int .i64 (k : Int), .int .i64 n, fl x] 92))
          have d0 : w1.cell? ⟨w.heap.size, 0, none⟩ = some (.int .i64 (k : Int)) := blk_cell hbx 0
          have d1 : w1.cell? ⟨w.heap.size, 1, none⟩ = some (.int .i64 n) := blk_cell hbx 1
          have y8 := C1.out.cell k8 id
          have y9 := C1.out.cell k9 id
          clear cc1 hbx k8 k9
          rw [HTL.out.1, HTL.out.2]
          go_wp2_with fail
          go_ret
          exact ⟨by rw [HB.out]; rfl, C1.out⟩
        · have p16 : ((M : Int) == 16) = false := beq_eq_false_iff_ne.2 (by omega)
          clear d
          go_enter Tryz.func75, Tryz.ntmps75
          go_wp2_with fail
          with_reducible refine (reffect_any k _ HK.out.1 HK.out.2).mono ?_
          rintro e w1 ⟨rfl, cc1⟩
          have C1 := Lib.hid (((Chg.refl w Nothing).alloc (.cells #[.int .i64 (k : Int), .int .i64 n, fl x] 92)).trans cc1 (fun _ _ h => h))
          have hbx := (cc1.block w.heap.size (by simp) id).trans (heap_alloc_new w (.cells #[.int .i64 (k : Int), .int .i64 n, fl x] 92))
          have d0 : w1.cell? ⟨w.heap.size, 0, none⟩ = some (.int .i64 (k : Int)) := blk_cell hbx 0
          have d1 : w1.cell? ⟨w.heap.size, 1, none⟩ = some (.int .i64 n) := blk_cell hbx 1
          have y8 := C1.out.cell k8 id
          have y9 := C1.out.cell k9 id
          clear cc1 hbx k8 k9
          rw [HTL.out.1, HTL.out.2]
          go_wp2_with fail
          go_ret
          exact ⟨by rw [HB.out]; rfl, C1.out⟩
      · have p14 : ((k : Int) == 14) = false := beq_eq_false_iff_ne.2 c
        clear c
        go_enter Tryz.func75, Tryz.ntmps75
        go_wp2_with fail
        with_reducible refine (reffect_any k _ HK.out.1 HK.out.2).mono ?_
        rintro e w1 ⟨rfl, cc1⟩
        have C1 := Lib.hid (((Chg.refl w Nothing).alloc (.cells #[.int .i64 (k : Int), .int .i64 n, fl x] 92)).trans cc1 (fun _ _ h => h))
        have hbx := (cc1.block w.heap.size (by simp) id).trans (heap_alloc_new w (.cells #[.int .i64 (k : Int), .int .i64 n, fl x] 92))
        have d0 : w1.cell? ⟨w.heap.size, 0, none⟩ = some (.int .i64 (k : Int)) := blk_cell hbx 0
        have d1 : w1.cell? ⟨w.heap.size, 1, none⟩ = some (.int .i64 n) := blk_cell hbx 1
        have y8 := C1.out.cell k8 id
        have y9 := C1.out.cell k9 id
        clear cc1 hbx k8 k9
        rw [HTL.out.1, HTL.out.2]
        go_wp2_with fail
        go_ret
        exact ⟨by rw [HB.out]; rfl, C1.out⟩
end Go.Proofs.YthgllaomafhdkaaGreat
