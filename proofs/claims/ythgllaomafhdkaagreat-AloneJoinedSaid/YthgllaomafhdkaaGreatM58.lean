/- The document's machine: do, whole. -/
import Derived.Test.YthgllaomafhdkaaGreatM54
import Derived.Test.YthgllaomafhdkaaGreatM57
import Derived.Test.YthgllaomafhdkaaGreatK9
namespace Go.Proofs.YthgllaomafhdkaaGreat
open Go Go.RowKit
set_option maxRecDepth 100000
set_option maxHeartbeats 1000000
set_option linter.unusedVariables false
set_option linter.unusedSimpArgs false

section
variable (q lb : Nat) (R : Nat → Prop) (s : Mc) (n : Int) (x : Nat) (w : World)
theorem rdo_16 (a : AskD) (s' : Mc) (h : Rm w q lb R s) (hd : ∀ W, Rm W q lb R s → Calls Tryz.prog 108 #[.pointer (some ⟨q, 0, none⟩)] W fun e w' => e = .returned (askV a) ∧ Rs W w' q lb R s') :
    Calls Tryz.prog 76 #[.pointer (some ⟨q, 0, none⟩), insA 16 n x] w fun e w' => e = .returned (askV a) ∧ Rs w w' q lb R s' := by
  obtain ⟨kind, cell, ax, first⟩ := a
  obtain ⟨hq, hlb, hne, hown⟩ := h.qlt
  have H := Lib.hid h
  have HD := Lib.hid hd
  clear h hd hown
  go_enter Tryz.func76, Tryz.ntmps76
  go_wp2_with fail
  with_reducible refine (HD.out _ (H.out.quiet (((Chg.refl w Nothing).alloc _).alloc _))).mono ?_
  rintro e w3 ⟨he, hS⟩
  obtain rfl : e = .returned (.agg #[.int .i64 kind, .int .i64 cell, fl ax, .bool first]) := he
  have HC0 := Lib.hid (Chg.refl ((w.alloc (.cells #[.int .i64 16, .int .i64 n, fl x] 92)).alloc (.cells ask0 35)) Nothing)
  obtain ⟨qd, hE⟩ := rdo_end H.out HC0.out hS
  have RE := Lib.hid hE
  have q0 : w3.cell? ⟨w.heap.size + 1, 0, none⟩ = some (.int .i64 0) := blk_cell qd 0
  have q1 : w3.cell? ⟨w.heap.size + 1, 1, none⟩ = some (.int .i64 0) := blk_cell qd 1
  have q2 : w3.cell? ⟨w.heap.size + 1, 2, none⟩ = some (.float .f64 0) := blk_cell qd 2
  have q3 : w3.cell? ⟨w.heap.size + 1, 3, none⟩ = some (.bool false) := blk_cell qd 3
  have g0 : w3.frozen? ⟨w.heap.size + 1, 0, none⟩ = false := blk_free qd 0
  have g1 : w3.frozen? ⟨w.heap.size + 1, 1, none⟩ = false := blk_free qd 1
  have g2 : w3.frozen? ⟨w.heap.size + 1, 2, none⟩ = false := blk_free qd 2
  have g3 : w3.frozen? ⟨w.heap.size + 1, 3, none⟩ = false := blk_free qd 3
  have QE := Lib.hid qd
  clear hS hE qd HC0
  go_wp2_with fail
  exact bodyPost_ret (v := askV ⟨kind, cell, ax, first⟩) (rdo_results (a := ⟨kind, cell, ax, first⟩) rfl (four_set QE.out)) rfl ⟨rfl, RE.out _ _ _ _⟩
theorem rdo_17 (a : AskD) (s' : Mc) (h : Rm w q lb R s) (hd : ∀ W, Rm W q lb R s → Calls Tryz.prog 109 #[.pointer (some ⟨q, 0, none⟩)] W fun e w' => e = .returned (askV a) ∧ Rs W w' q lb R s') :
    Calls Tryz.prog 76 #[.pointer (some ⟨q, 0, none⟩), insA 17 n x] w fun e w' => e = .returned (askV a) ∧ Rs w w' q lb R s' := by
  obtain ⟨kind, cell, ax, first⟩ := a
  obtain ⟨hq, hlb, hne, hown⟩ := h.qlt
  have H := Lib.hid h
  have HD := Lib.hid hd
  clear h hd hown
  go_enter Tryz.func76, Tryz.ntmps76
  go_wp2_with fail
  with_reducible refine (HD.out _ (H.out.quiet (((Chg.refl w Nothing).alloc _).alloc _))).mono ?_
  rintro e w3 ⟨he, hS⟩
  obtain rfl : e = .returned (.agg #[.int .i64 kind, .int .i64 cell, fl ax, .bool first]) := he
  have HC0 := Lib.hid (Chg.refl ((w.alloc (.cells #[.int .i64 17, .int .i64 n, fl x] 92)).alloc (.cells ask0 35)) Nothing)
  obtain ⟨qd, hE⟩ := rdo_end H.out HC0.out hS
  have RE := Lib.hid hE
  have q0 : w3.cell? ⟨w.heap.size + 1, 0, none⟩ = some (.int .i64 0) := blk_cell qd 0
  have q1 : w3.cell? ⟨w.heap.size + 1, 1, none⟩ = some (.int .i64 0) := blk_cell qd 1
  have q2 : w3.cell? ⟨w.heap.size + 1, 2, none⟩ = some (.float .f64 0) := blk_cell qd 2
  have q3 : w3.cell? ⟨w.heap.size + 1, 3, none⟩ = some (.bool false) := blk_cell qd 3
  have g0 : w3.frozen? ⟨w.heap.size + 1, 0, none⟩ = false := blk_free qd 0
  have g1 : w3.frozen? ⟨w.heap.size + 1, 1, none⟩ = false := blk_free qd 1
  have g2 : w3.frozen? ⟨w.heap.size + 1, 2, none⟩ = false := blk_free qd 2
  have g3 : w3.frozen? ⟨w.heap.size + 1, 3, none⟩ = false := blk_free qd 3
  have QE := Lib.hid qd
  clear hS hE qd HC0
  go_wp2_with fail
  exact bodyPost_ret (v := askV ⟨kind, cell, ax, first⟩) (rdo_results (a := ⟨kind, cell, ax, first⟩) rfl (four_set QE.out)) rfl ⟨rfl, RE.out _ _ _ _⟩
/-- What do answers. -/
abbrev DoR (q lb : Nat) (R : Nat → Prop) (s : Mc) (x : Ins) (w : World) : Prop := Calls Tryz.prog 76 #[.pointer (some ⟨q, 0, none⟩), insA x.1 x.2.1 x.2.2] w fun e w' => e = .returned (askV (doP s x).2) ∧ Rs w w' q lb R (doP s x).1
theorem DoR.of {q lb : Nat} {R : Nat → Prop} {s s' : Mc} {x : Ins} {w : World} {a : AskD} (e : doP s x = (s', a)) (h : Calls Tryz.prog 76 #[.pointer (some ⟨q, 0, none⟩), insA x.1 x.2.1 x.2.2] w fun e w' => e = .returned (askV a) ∧ Rs w w' q lb R s') : DoR q lb R s x w := by
  unfold DoR
  rw [e]
  exact h
theorem rdo_read (h : Rm w q lb R s) (hl : s.s.length ≤ 64) (hn : 1 ≤ s.s.length) (hbl : s.buf.length ≤ 32) (hrl : s.reads.length ≤ 4096) : DoR q lb R s (16, n, x) w := by
  have hd : doP s (16, n, x) = readP s := rfl
  by_cases hi : idxE (topN s.s 0) s.cells = 0
  · cases hb : getN s.buf (idxI (topN s.s 0) s.cells) with
    | none => exact DoR.of (by rw [hd]; unfold readP; rw [if_pos hi]; simp only [hb]) (rdo_16 q lb R s n x w _ _ h (fun W hW => rread_none q lb R s W _ hW hl hn (by omega) hi rfl hb))
    | some y => exact DoR.of (by rw [hd]; unfold readP; rw [if_pos hi]; simp only [hb]) (rdo_16 q lb R s n x w _ _ h (fun W hW => rread_some q lb R s W _ y hW hl hn (by omega) hrl hi rfl hb))
  · exact DoR.of (by rw [hd]; unfold readP; rw [if_neg hi]) (rdo_16 q lb R s n x w _ _ h (fun W hW => rread_bad q lb R s W hW hl hn hi))
theorem rdo_write (h : Rm w q lb R s) (hl : s.s.length ≤ 64) (hn : 2 ≤ s.s.length) (hbl : s.buf.length ≤ 32) (hnd : (s.buf.map (·.1)).Nodup) : DoR q lb R s (17, n, x) w := by
  have hd : doP s (17, n, x) = writeP s := rfl
  by_cases ht : s.tag = 2
  · by_cases hi : idxE (topN s.s 0) s.cells = 0
    · cases hb : getN s.buf (idxI (topN s.s 0) s.cells) with
      | none =>
        by_cases hf : (s.buf.length : Int) = s.writes
        · exact DoR.of (by rw [hd]; unfold writeP; rw [if_pos ht, if_pos hi]; simp only [hb]; rw [if_pos hf]) (rdo_17 q lb R s n x w _ _ h (fun W hW => rwrite_full q lb R s W hW hl hn ht (by omega) hi _ rfl hb hf))
        · exact DoR.of (by rw [hd]; unfold writeP; rw [if_pos ht, if_pos hi]; simp only [hb]; rw [if_neg hf, putN_un (getN_none hb)]) (rdo_17 q lb R s n x w _ _ h (fun W hW => rwrite_new q lb R s W hW hl hn ht (by omega) hi _ rfl _ rfl hb hf))
      | some y => exact DoR.of (by rw [hd]; unfold writeP; rw [if_pos ht, if_pos hi]; simp only [hb]) (rdo_17 q lb R s n x w _ _ h (fun W hW => rwrite_old q lb R s W hW hl hn ht (by omega) hi _ rfl _ y rfl hb hnd))
    · exact DoR.of (by rw [hd]; unfold writeP; rw [if_pos ht, if_neg hi]) (rdo_17 q lb R s n x w _ _ h (fun W hW => rwrite_bad q lb R s W hW hl hn ht hi))
  · exact DoR.of (by rw [hd]; unfold writeP; rw [if_neg ht]) (rdo_17 q lb R s n x w _ _ h (fun W hW => rwrite_tag q lb R s W hW ht))
/-- What the document's machine wants besides. -/
structure Mc.Rok (s : Mc) : Prop where
  len : s.s.length ≤ 64
  calls : s.calls.length ≤ 16
  buf : s.buf.length ≤ 32
  nd : (s.buf.map (·.1)).Nodup
  how : s.how.1 = 0 → s.how.2 = (0, 0)
  cell : s.waits = true → 0 ≤ s.cell
theorem rdo_any (op len : Int) (h : Rm w q lb R s) (hk : s.Rok) (hm : MayF op n len) (hr : roomOk s (op, n, x) = true) (hnum : ∀ y ∈ s.s, Num y) (hout : s.out.length < 4096) (hrd : s.reads.length < 4096) (hca : ∀ a ∈ s.calls, 0 ≤ a) (hh : s.how.1 = 0) : DoR q lb R s (op, n, x) w := by
  obtain ⟨h1, h20, h5, h6, h11⟩ := hm
  obtain ⟨g1, g2, g3⟩ := room_facts hr
  simp only at g1 g2 g3
  obtain ⟨hl, hcl, hbl, hnd, hho, -⟩ := hk
  have hho := hho hh
  clear hr
  rcases (by omega : op = 1 ∨ 2 ≤ op) with rfl | h1
  · have g1 : 0 ≤ (s.s.length : Int) := g1
    exact DoR.of rfl (rdo_1 q lb R s n x w h hl)
  rcases (by omega : op = 2 ∨ 3 ≤ op) with rfl | h1
  · have g1 : 1 ≤ (s.s.length : Int) := g1
    exact DoR.of rfl (rdo_2 q lb R s n x w h hl (by omega))
  rcases (by omega : op = 3 ∨ 4 ≤ op) with rfl | h1
  · have g1 : 1 ≤ (s.s.length : Int) := g1
    exact DoR.of rfl (rdo_3 q lb R s n x w h hl (by omega))
  rcases (by omega : op = 4 ∨ 5 ≤ op) with rfl | h1
  · have g1 : 2 ≤ (s.s.length : Int) := g1
    exact DoR.of rfl (rdo_4 q lb R s n x w h hl (by omega))
  rcases (by omega : op = 5 ∨ 6 ≤ op) with rfl | h1
  · have g1 : n + 1 ≤ (s.s.length : Int) := g1
    have hk := h5 rfl
    obtain ⟨k, rfl⟩ := Int.eq_ofNat_of_zero_le hk.1
    exact DoR.of rfl (rdo_5 q lb R s x w h hl k (by omega))
  rcases (by omega : op = 6 ∨ 7 ≤ op) with rfl | h1
  · have g1 : 0 ≤ (s.s.length : Int) := g1
    have hk := h6 (by decide)
    obtain ⟨k, rfl⟩ := Int.eq_ofNat_of_zero_le hk.1
    exact DoR.of rfl (rdo_6 q lb R s x w h hl k (by omega))
  rcases (by omega : op = 7 ∨ 8 ≤ op) with rfl | h1
  · have g1 : 0 ≤ (s.s.length : Int) := g1
    have hk := h6 (by decide)
    obtain ⟨k, rfl⟩ := Int.eq_ofNat_of_zero_le hk.1
    exact DoR.of rfl (rdo_7 q lb R s x w h hl k (by omega))
  rcases (by omega : op = 8 ∨ 9 ≤ op) with rfl | h1
  · have g1 : 1 ≤ (s.s.length : Int) := g1
    have hk := h6 (by decide)
    obtain ⟨k, rfl⟩ := Int.eq_ofNat_of_zero_le hk.1
    exact DoR.of rfl (rdo_8 q lb R s x w h hl k (by omega) (by omega))
  rcases (by omega : op = 9 ∨ 10 ≤ op) with rfl | h1
  · have g1 : 1 ≤ (s.s.length : Int) := g1
    exact DoR.of rfl (rdo_9 q lb R s n x w h hl (by omega) hnum)
  rcases (by omega : op = 10 ∨ 11 ≤ op) with rfl | h1
  · have g1 : 2 ≤ (s.s.length : Int) := g1
    exact DoR.of rfl (rdo_10 q lb R s n x w h hl (by omega))
  rcases (by omega : op = 11 ∨ 12 ≤ op) with rfl | h1
  · have g1 : 0 ≤ (s.s.length : Int) := g1
    have hk := h11 (by decide)
    obtain ⟨k, rfl⟩ := Int.eq_ofNat_of_zero_le hk.1
    exact DoR.of rfl (rdo_11 q lb R s x w h hl k)
  rcases (by omega : op = 12 ∨ 13 ≤ op) with rfl | h1
  · have g1 : 1 ≤ (s.s.length : Int) := g1
    have hk := h11 (by decide)
    obtain ⟨k, rfl⟩ := Int.eq_ofNat_of_zero_le hk.1
    cases hb : trueB (topN s.s 0) with
    | true => exact DoR.of (by show (_, _) = (_, _); rw [if_pos hb] <;> rfl) (rdo_12_true q lb R s x w h hl k (by omega) hb)
    | false => exact DoR.of (by show (_, _) = (_, _); rw [if_neg (by rw [hb]; decide)] <;> rfl) (rdo_12_false q lb R s x w h hl k (by omega) hb)
  rcases (by omega : op = 13 ∨ 14 ≤ op) with rfl | h1
  · have g1 : 1 ≤ (s.s.length : Int) := g1
    have hk := h11 (by decide)
    obtain ⟨k, rfl⟩ := Int.eq_ofNat_of_zero_le hk.1
    cases hb : trueB (topN s.s 0) with
    | true => exact DoR.of (by show (_, _) = (_, _); rw [if_pos hb] <;> rfl) (rdo_13_true q lb R s x w h hl k (by omega) hb)
    | false => exact DoR.of (by show (_, _) = (_, _); rw [if_neg (by rw [hb]; decide)] <;> rfl) (rdo_13_false q lb R s x w h hl k (by omega) hb)
  rcases (by omega : op = 14 ∨ 15 ≤ op) with rfl | h1
  · have g1 : 0 ≤ (s.s.length : Int) := g1
    have hk := h11 (by decide)
    obtain ⟨k, rfl⟩ := Int.eq_ofNat_of_zero_le hk.1
    exact DoR.of rfl (rdo_14 q lb R s x w h hl k hcl)
  rcases (by omega : op = 15 ∨ 16 ≤ op) with rfl | h1
  · have g1 : 0 ≤ (s.s.length : Int) := g1
    cases hg : s.calls.getLast? with
    | none => exact DoR.of (by show (match s.calls.getLast? with | none => _ | some a => _) = _; rw [hg]) (rdo_15_none q lb R s n x w h hl (by simpa using hg) hho)
    | some a =>
      obtain ⟨k, rfl⟩ := Int.eq_ofNat_of_zero_le (hca a (List.mem_of_getLast? hg))
      exact DoR.of (by show (match s.calls.getLast? with | none => _ | some a => _) = _; rw [hg]; rfl) (rdo_15_some q lb R s n x w h hl k hg hcl)
  rcases (by omega : op = 16 ∨ 17 ≤ op) with rfl | h1
  · have g1 : 1 ≤ (s.s.length : Int) := g1
    exact rdo_read q lb R s n x w h hl (by omega) hbl (by omega)
  rcases (by omega : op = 17 ∨ 18 ≤ op) with rfl | h1
  · have g1 : 2 ≤ (s.s.length : Int) := g1
    exact rdo_write q lb R s n x w h hl (by omega) hbl hnd
  rcases (by omega : op = 18 ∨ 19 ≤ op) with rfl | h1
  · have g1 : 1 ≤ (s.s.length : Int) := g1
    exact DoR.of rfl (rdo_18 q lb R s n x w h hl (by omega) (by omega))
  rcases (by omega : op = 19 ∨ 20 ≤ op) with rfl | h1
  · have g1 : 0 ≤ (s.s.length : Int) := g1
    exact DoR.of rfl (rdo_19 q lb R s n x w h hl)
  obtain rfl : op = 20 := by omega
  have g1 : 0 ≤ (s.s.length : Int) := g1
  exact DoR.of rfl (rdo_20 q lb R s n x w h hl hho)
end
end Go.Proofs.YthgllaomafhdkaaGreat
