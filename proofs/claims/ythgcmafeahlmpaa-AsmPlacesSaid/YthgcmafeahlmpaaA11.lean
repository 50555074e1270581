/- The document's builder: Add, Push, Jump, Mark. -/
import Derived.Test.YthgcmafeahlmpaaA10
namespace Go.Proofs.Ythgcmafeahlmpaa
open Go Go.RowKit
set_option linter.unusedVariables false
set_option linter.unusedSimpArgs false

theorem radd_any (r : Nat) (F : Nat → Prop) (s : Asm) (op n : Int) (x : Nat) (b : Bool) (l : Int) (o : Option Int) (w : World) (h : Rb w r F s) (hb : s.code.length < 4398046511103) (ho : o.getD 0 = l) (ho2 : o.isSome = b) :
    Calls Try.prog 30 #[.pointer (some ⟨r, 0, none⟩), .agg #[.int .i64 op, .int .i64 n, fl x], .bool b, .int .i64 l] w fun e w' => e = .returned (.tuple #[]) ∧ Rb w' r (Grow F w w') { s with code := s.code ++ [(op, n, x)], tos := s.tos ++ [o] } ∧ Chg w w' F := by
  obtain ⟨hF, hl, T, a1, k1, a2, k2, a3, k3, a4, k4, hB, hT⟩ := h
  refine (radd_at hB op n x b l hb (by simp; omega) (by simp; omega)).mono ?_
  rintro e w' ⟨rfl, T', b1, j1, b2, j2, b3, j3, hB', hc, hn⟩
  exact ⟨rfl, Rb.step (s' := { s with code := s.code ++ [(op, n, x)], tos := s.tos ++ [o] }) hF hT (by simp [hl]) (by simp only [List.map_append, List.map_cons, List.map_nil, ho, ho2]; exact hB') hc hn⟩
theorem rAdd_any (r : Nat) (F : Nat → Prop) (s : Asm) (op n : Int) (w : World) (h : Rb w r F s) (hb : s.code.length < 4398046511103) :
    Calls Try.prog 20 #[.pointer (some ⟨r, 0, none⟩), .int .i64 op, .int .i64 n] w fun e w' => e = .returned (.tuple #[]) ∧ Rb w' r (Grow F w w') { s with code := s.code ++ [(op, n, 0)], tos := s.tos ++ [none] } ∧ Chg w w' F := by
  have H := radd_any r F s op n 0 false 0 none w h hb rfl rfl
  go_enter Try.func20, Try.ntmps20
  go_wp2_with fail
  refine H.mono ?_
  rintro e w' ⟨rfl, h1⟩
  go_wp2
  go_end0
  exact ⟨rfl, h1⟩
theorem rPush_any (r : Nat) (F : Nat → Prop) (s : Asm) (x : Nat) (w : World) (h : Rb w r F s) (hb : s.code.length < 4398046511103) :
    Calls Try.prog 21 #[.pointer (some ⟨r, 0, none⟩), fl x] w fun e w' => e = .returned (.tuple #[]) ∧ Rb w' r (Grow F w w') { s with code := s.code ++ [(1, 0, x)], tos := s.tos ++ [none] } ∧ Chg w w' F := by
  have H := radd_any r F s 1 0 x false 0 none w h hb rfl rfl
  go_enter Try.func21, Try.ntmps21
  go_wp2_with fail
  refine H.mono ?_
  rintro e w' ⟨rfl, h1⟩
  go_wp2
  go_end0
  exact ⟨rfl, h1⟩
theorem rJump_any (r : Nat) (F : Nat → Prop) (s : Asm) (op l : Int) (w : World) (h : Rb w r F s) (hb : s.code.length < 4398046511103) :
    Calls Try.prog 22 #[.pointer (some ⟨r, 0, none⟩), .int .i64 op, .int .i64 l] w fun e w' => e = .returned (.tuple #[]) ∧ Rb w' r (Grow F w w') { s with code := s.code ++ [(op, 0, 0)], tos := s.tos ++ [some l] } ∧ Chg w w' F := by
  have H := radd_any r F s op 0 0 true l (some l) w h hb rfl rfl
  go_enter Try.func22, Try.ntmps22
  go_wp2_with fail
  refine H.mono ?_
  rintro e w' ⟨rfl, h1⟩
  go_wp2
  go_end0
  exact ⟨rfl, h1⟩

set_option maxRecDepth 100000 in
set_option maxHeartbeats 3200000 in
theorem rmark_any (r : Nat) (F : Nat → Prop) (s : Asm) (k : Int) (w : World) (h : Rb w r F s) (hb : s.marks.length < 4398046511103) :
    Calls Try.prog 24 #[.pointer (some ⟨r, 0, none⟩), .int .i64 k] w fun e w' => e = .returned (.tuple #[]) ∧ Rb w' r (Grow F w w') { s with marks := s.marks ++ [(k, s.code.length)] } ∧ Chg w w' F := by
  obtain ⟨hF, hl, T, a1, k1, a2, k2, a3, k3, a4, k4, hB, hT⟩ := h
  obtain ⟨i2, i21, i22, i23, i24⟩ := info_parts (show (Try.prog.info? 67).map (fun i => (i.zero, i.size, i.bytes)) = some (some (.agg #[.int .i64 0, .int .i64 0]), 2, 16) by kernel_rfl)
  have H2 := Lib.hid (And.intro i21 (And.intro i22 (And.intro i23 i24)))
  obtain ⟨c0, c1, c2, c3, c4, c5⟩ := hB.cells
  have hr : r < w.heap.size := hB.lt r (by rw [hB.tr]; decide)
  have hrn : ¬ r = w.heap.size := by omega
  have HB := Lib.hid hB
  have HO := Lib.hid hB.marks.1
  have HF := Lib.hid hF
  have HT := Lib.hid hT
  have HL := Lib.hid hl
  have HN := Lib.hid hb
  clear hB hF hT hl hb c0 c2 c3 c4 i21 i22 i23 i24
  go_enter Try.func24, Try.ntmps24
  go_region_law (first | (refine step_append_lies _ (by rfl) _ _ _ (by rfl) 0 67 i2 _ 2 16 Try.underlying58 H2.out.1 H2.out.2.1 H2.out.2.2.1 H2.out.2.2.2 rfl (by omega) (.slice a4 s.marks.length k4) s.marks.length (mkV s.marks) (by rfl) ((HO.out.alloc _).drew) ⟨w.heap.size, 0, none⟩ 1 1 [.int .i64 k, .int .i64 (s.code.length : Int)] (by rfl) (by rfl) (World.news_of_block (cs := #[.int .i64 k, .int .i64 (s.code.length : Int)]) (t := 67) (fr := (0, 0)) (heap_alloc_new w _)) (by simp [Value.oneCell']) (by omega) (by have := HN.out; unfold maxLen; omega) (by have := HN.out; omega) (by simp) (w.heap.size + 1) (by simp) ?_; intro gg cap w1 hown1 hgrow hat hlt; have hbk := rb_still HB.out ((((Chg.refl w Nothing).alloc _).drew)) hgrow (off_row HB.out.marks (by rw [HB.out.tr]; decide)); have y1 : w1.cell? ⟨r, 5, none⟩ = some (.slice a4 s.marks.length k4) := blk_cell hbk 5; have y2 : w1.frozen? ⟨r, 5, none⟩ = false := blk_free hbk 5; have y3 : w1.cell? ⟨r, 1, none⟩ = some (.slice a1 s.code.length k1) := blk_cell hbk 1))
  all_goals
    obtain ⟨r1, r2, r3⟩ := HB.out.marked (x := (k, s.code.length)) ((((Chg.refl w Nothing).alloc _).drew)) hgrow hown1 (hat.imp id (fun h => by rw [h]; simp))
    have R := Lib.hid (Rb.step (s' := { s with marks := s.marks ++ [(k, s.code.length)] }) HF.out HT.out HL.out r1 r2 r3)
    clear r1 r2 r3 hown1 hgrow hat hlt hbk
    go_wp2
    go_end0
    exact ⟨rfl, R.out⟩
end Go.Proofs.Ythgcmafeahlmpaa
