/- The parts that a deque's programs are put together of: what each adds. Printed by gen/deque.py. -/
import Derived.Test.YtgeapkalabijmaaGreatD0
namespace Go.Proofs.YtgeapkalabijmaaGreat
open Go Go.RowKit
set_option maxRecDepth 100000
set_option maxHeartbeats 1000000
set_option linter.unusedVariables false
set_option linter.unusedSimpArgs false

/-- A few operations without a number. -/
theorem dqops_any {G : Nat → Prop} {w0 w : World} {m p : Nat} {base room : Int} {s : Asm} {n : Nat} (h : Mk G w0 w m p base room s n) (l : List Int) (hn : n + l.length < 1000) :
    Calls Tryz.prog 45 #[.pointer (some ⟨m, 0, none⟩), .slice (some ⟨w.heap.size, 0, none⟩) l.length l.length] (w.alloc (.cells (l.map (Value.int .i64)).toArray 3)) fun e w' => e = .returned (.tuple #[]) ∧ Mk G w0 w' m p base room (l.foldl (fun s c => s.add c 0) s) (n + l.length) := by
  obtain ⟨wA, hwA⟩ : ∃ wA, wA = w.alloc (.cells (l.map (Value.int .i64)).toArray 3) := ⟨_, rfl⟩
  have hcA : Chg w wA Nothing := by rw [hwA]; exact (Chg.refl _ _).alloc _
  have hcells : ∀ i x, l[i]? = some x → wA.cell? ⟨w.heap.size, i, none⟩ = some (.int .i64 x) := by
    intro i x hx
    rw [hwA, blk_cell (heap_alloc_new w _)]
    simp [hx]
  rw [← hwA]
  clear hwA
  obtain ⟨F, hm, hF1, hF3⟩ := h.laid hcA
  have hnF : ¬ F w.heap.size := fun h => absurd (hF1 _ h) (Nat.lt_irrefl _)
  have U := Lib.hid (fun (w' : World) (s' : Asm) (n' : Nat) (hx : Mk F wA w' m p base room s' n') => hx.up hF3 (h.old.trans hcA (fun _ _ h => h.elim)))
  have HC := Lib.hid hcells
  have HF := Lib.hid hnF
  have HN := Lib.hid hn
  have H0 := Lib.hid hm
  have c0 := hm.c0
  clear hcA hcells hF1 hF3 hnF hn h hm
  go_enter Tryz.func45, Tryz.ntmps45
  go_wp2_with fail
  go_loopg [8] (l.length) (fun k v wr => ∃ i : Nat, i + k = l.length ∧ v = .int .i64 (i : Int) ∧ Mk F wA wr m p base room ((l.take i).foldl (fun s c => s.add c 0) s) (n + i))
  case atStart => exact ⟨0, by simp, rfl, H0.out⟩
  case round =>
    obtain ⟨i, hk, rfl, hm⟩ := hrel
    have HK := Lib.hid hk
    have H1 := Lib.hid hm
    clear c0
    by_cases hlt : i < l.length
    · obtain ⟨x, hx⟩ : ∃ x, l[i]? = some x := ⟨_, List.getElem?_eq_getElem hlt⟩
      have cx := hm.old.cell (HC.out i x hx) HF.out
      have c0 := hm.c0
      have HX := Lib.hid hx
      have q1 : decide (i < l.length) = true := by simpa using hlt
      clear hm hk hx
      go_wp2_with fail
      refine (mk_add H1.out x 0 (by have := HN.out; omega)).mono ?_
      clear c0
      rintro e w2 ⟨rfl, h2⟩
      have H2 := Lib.hid h2
      clear h2
      go_wp2_with fail
      go_roundg (gk - 1)
      case measure => have := HK.out; omega
      case rel => exact ⟨i + 1, by have := HK.out; omega, by rw [IntWalk.wrap64_in _ ⟨by omega, by have := HN.out; omega⟩]; rfl, by
        have e : l.take (i + 1) = l.take i ++ [x] := by
          rw [List.take_add_one, HX.out]; rfl
        rw [e, List.foldl_append, ← Nat.add_assoc]
        exact H2.out⟩
    · have q1 : decide (i < l.length) = false := by simpa using hlt
      have he : i = l.length := by omega
      clear hm hk
      go_wp2_with fail
      go_end0
      have h3 := H1.out
      rw [he, List.take_length] at h3
      exact ⟨rfl, U.out _ _ _ h3⟩
theorem dqop1_any {G : Nat → Prop} {w0 w : World} {m p : Nat} {base room : Int} {s : Asm} {n : Nat} (h : Mk G w0 w m p base room s n) (a : Int) (hn : n < 900) :
    Calls Tryz.prog 45 #[.pointer (some ⟨m, 0, none⟩), .slice (some ⟨w.heap.size, 0, none⟩) 1 1] (w.alloc (.cells #[.int .i64 a] 3)) fun e w' => e = .returned (.tuple #[]) ∧ Mk G w0 w' m p base room (s.add a 0) (n + 1) :=
  dqops_any h [a] (by simp; omega)
theorem dqop2_any {G : Nat → Prop} {w0 w : World} {m p : Nat} {base room : Int} {s : Asm} {n : Nat} (h : Mk G w0 w m p base room s n) (a b : Int) (hn : n < 900) :
    Calls Tryz.prog 45 #[.pointer (some ⟨m, 0, none⟩), .slice (some ⟨w.heap.size, 0, none⟩) 2 2] (w.alloc (.cells #[.int .i64 a, .int .i64 b] 3)) fun e w' => e = .returned (.tuple #[]) ∧ Mk G w0 w' m p base room ((s.add a 0).add b 0) (n + 2) :=
  dqops_any h [a, b] (by simp; omega)

def dqTwo (base room : Int) (k : Int) (s : Asm) : Asm :=
  let s := s.add 10 k
  s
def dqArg (base room : Int)  (s : Asm) : Asm :=
  let s := s.add 6 0
  s
def dqCell (base room : Int) (k : Int) (s : Asm) : Asm :=
  let s := s.push (floatOfInt .f64 (wrap64 (base + k)))
  let s := (s.add 16 0)
  s
def dqLay (base room : Int) (k : Int) (s : Asm) : Asm :=
  let s := s.push (floatOfInt .f64 (wrap64 (base + k)))
  let s := (s.add 17 0)
  s
def dqPlace (base room : Int)  (s : Asm) : Asm :=
  let s := dqCell base room 0 s
  let s := dqTwo base room 1 s
  let s := s.push (floatOfInt .f64 (room))
  let s := dqTwo base room 5 s
  let s := s.push (floatOfInt .f64 (wrap64 (base + 2)))
  let s := dqTwo base room 1 s
  s
def dqEmit (base room : Int)  (s : Asm) : Asm :=
  let s := dqPlace base room  s
  let s := ((s.add 16 0).add 18 0)
  s
def dqMore (base room : Int) (x : Nat) (s : Asm) : Asm :=
  let s := dqCell base room 1 s
  let s := s.push x
  let s := dqTwo base room 1 s
  let s := dqLay base room 1 s
  s
def dqTurn (base room : Int) (k : Int) (s : Asm) : Asm :=
  let s := dqCell base room 0 s
  let s := s.push (floatOfInt .f64 (k))
  let s := dqTwo base room 1 s
  let s := s.push (floatOfInt .f64 (room))
  let s := dqTwo base room 5 s
  let s := dqLay base room 0 s
  s
def dqAhead1 (base room : Int)  (s : Asm) : Asm :=
  let s := dqTurn base room (wrap64 (room - 1)) s
  let s := dqArg base room  s
  let s := s.push 0
  let s := dqPlace base room  s
  let s := (s.add 17 0)
  s
def dqBehind (base room : Int)  (s : Asm) : Asm :=
  let s := dqArg base room  s
  let s := dqCell base room 1 s
  let s := dqPlace base room  s
  let s := (s.add 17 0)
  s
def dqFront (base room : Int)  (s : Asm) : Asm :=
  let s := s.push 0
  let s := dqEmit base room  s
  let s := dqTurn base room 1 s
  s
def dqBack (base room : Int)  (s : Asm) : Asm :=
  let s := dqCell base room 1 s
  let s := s.push 4607182418800017408
  let s := dqTwo base room 2 s
  let s := dqEmit base room  s
  s
def dqAt (base room : Int)  (s : Asm) : Asm :=
  let none : Int := (s.labels : Int); let s := s.label
  let s := s.push 0
  let s := dqArg base room  s
  let s := dqTwo base room 9 s
  let s := s.to 13 none
  let s := dqArg base room  s
  let s := dqCell base room 1 s
  let s := dqTwo base room 8 s
  let s := s.to 13 none
  let s := dqArg base room  s
  let s := s.add 9 3
  let s := dqArg base room  s
  let s := dqTwo base room 10 s
  let s := s.to 13 none
  let s := dqArg base room  s
  let s := dqEmit base room  s
  let s := s.mark none
  s
def dqLength (base room : Int)  (s : Asm) : Asm :=
  let s := dqCell base room 1 s
  let s := (s.add 18 0)
  s
def dqAll (base room : Int)  (s : Asm) : Asm :=
  let loop : Int := (s.labels : Int); let s := s.label
  let over : Int := (s.labels : Int); let s := s.label
  let s := s.mark loop
  let s := s.add 7 0
  let s := dqCell base room 1 s
  let s := dqTwo base room 8 s
  let s := s.to 13 over
  let s := s.add 7 0
  let s := dqEmit base room  s
  let s := s.add 7 0
  let s := s.push 4607182418800017408
  let s := dqTwo base room 1 s
  let s := s.add 8 0
  let s := s.to 11 loop
  let s := s.mark over
  s
def dqPush_ahead1 (base room : Int)  (s : Asm) : Asm :=
  let some : Int := (s.labels : Int); let s := s.label
  let s := dqCell base room 1 s
  let s := s.push (floatOfInt .f64 (room))
  let s := dqTwo base room 8 s
  let s := s.to 12 some
  let s := s.add 19 1
  let s := s.mark some
  let s := dqAhead1 base room  s
  let s := dqMore base room 4607182418800017408 s
  let s := dqCell base room 1 s
  let s := (s.add 18 0)
  s
def dqPush_behind (base room : Int)  (s : Asm) : Asm :=
  let some : Int := (s.labels : Int); let s := s.label
  let s := dqCell base room 1 s
  let s := s.push (floatOfInt .f64 (room))
  let s := dqTwo base room 8 s
  let s := s.to 12 some
  let s := s.add 19 1
  let s := s.mark some
  let s := dqBehind base room  s
  let s := dqMore base room 4607182418800017408 s
  let s := dqCell base room 1 s
  let s := (s.add 18 0)
  s
def dqPop_front (base room : Int)  (s : Asm) : Asm :=
  let none : Int := (s.labels : Int); let s := s.label
  let s := dqCell base room 1 s
  let s := s.to 13 none
  let s := dqFront base room  s
  let s := dqMore base room 13830554455654793216 s
  let s := s.mark none
  s
def dqPop_back (base room : Int)  (s : Asm) : Asm :=
  let none : Int := (s.labels : Int); let s := s.label
  let s := dqCell base room 1 s
  let s := s.to 13 none
  let s := dqBack base room  s
  let s := dqMore base room 13830554455654793216 s
  let s := s.mark none
  s
set_option maxRecDepth 100000 in
set_option maxHeartbeats 2000000 in
theorem dqTwo_any {G : Nat → Prop} {w0 w : World} {m p : Nat} {base room : Int} {s : Asm} {n : Nat} (h : Mk G w0 w m p base room s n) (k : Int) (hn : n < 239) :
    Calls Tryz.prog 96 #[.pointer (some ⟨m, 0, none⟩), .int .i64 k] w fun e w' => e = .returned (.tuple #[]) ∧ Mk G w0 w' m p base room (dqTwo base room k s) (n + 1) := by
  have c0 := h.c0
  have c1 := h.c1
  have c2 := h.c2
  have H0 := Lib.hid h
  have HN := Lib.hid hn
  clear h hn
  go_enter Tryz.func96, Tryz.ntmps96
  go_wp2_with fail
  refine (mk_add H0.out _ _ (by have := HN.out; omega)).mono ?_
  clear c0 c1 c2
  rintro e w1 ⟨rfl, h⟩
  have c0 := h.c0
  have c1 := h.c1
  have c2 := h.c2
  have H1 := Lib.hid h
  clear h
  go_wp2_with fail
  go_end0
  exact ⟨rfl, H1.out⟩
set_option maxRecDepth 100000 in
set_option maxHeartbeats 2000000 in
theorem dqArg_any {G : Nat → Prop} {w0 w : World} {m p : Nat} {base room : Int} {s : Asm} {n : Nat} (h : Mk G w0 w m p base room s n) (hn : n < 239) :
    Calls Tryz.prog 101 #[.pointer (some ⟨m, 0, none⟩)] w fun e w' => e = .returned (.tuple #[]) ∧ Mk G w0 w' m p base room (dqArg base room  s) (n + 1) := by
  have c0 := h.c0
  have c1 := h.c1
  have c2 := h.c2
  have H0 := Lib.hid h
  have HN := Lib.hid hn
  clear h hn
  go_enter Tryz.func101, Tryz.ntmps101
  go_wp2_with fail
  refine (mk_add H0.out _ _ (by have := HN.out; omega)).mono ?_
  clear c0 c1 c2
  rintro e w1 ⟨rfl, h⟩
  have c0 := h.c0
  have c1 := h.c1
  have c2 := h.c2
  have H1 := Lib.hid h
  clear h
  go_wp2_with fail
  go_end0
  exact ⟨rfl, H1.out⟩
set_option maxRecDepth 100000 in
set_option maxHeartbeats 2000000 in
theorem dqCell_any {G : Nat → Prop} {w0 w : World} {m p : Nat} {base room : Int} {s : Asm} {n : Nat} (h : Mk G w0 w m p base room s n) (k : Int) (hn : n < 238) :
    Calls Tryz.prog 94 #[.pointer (some ⟨m, 0, none⟩), .int .i64 k] w fun e w' => e = .returned (.tuple #[]) ∧ Mk G w0 w' m p base room (dqCell base room k s) (n + 2) := by
  have c0 := h.c0
  have c1 := h.c1
  have c2 := h.c2
  have H0 := Lib.hid h
  have HN := Lib.hid hn
  clear h hn
  go_enter Tryz.func94, Tryz.ntmps94
  go_upto_region 0 with fail
  go_still_tail 11, (by kernel_rfl)
  go_wp2_with fail
  refine (mk_push (H0.out.quiet (Chg.refl _ _).drew) _ (by have := HN.out; omega)).mono ?_
  clear c0 c1 c2
  rintro e w1 ⟨rfl, h⟩
  have c0 := h.c0
  have c1 := h.c1
  have c2 := h.c2
  have H1 := Lib.hid h
  clear h
  go_wp2_with fail
  refine (dqop1_any H1.out 16 (by have := HN.out; omega)).mono ?_
  clear c0 c1 c2
  rintro e w2 ⟨rfl, h⟩
  have c0 := h.c0
  have c1 := h.c1
  have c2 := h.c2
  have H2 := Lib.hid h
  clear h
  go_wp2_with fail
  go_end0
  exact ⟨rfl, H2.out⟩
set_option maxRecDepth 100000 in
set_option maxHeartbeats 2000000 in
theorem dqLay_any {G : Nat → Prop} {w0 w : World} {m p : Nat} {base room : Int} {s : Asm} {n : Nat} (h : Mk G w0 w m p base room s n) (k : Int) (hn : n < 238) :
    Calls Tryz.prog 137 #[.pointer (some ⟨m, 0, none⟩), .int .i64 k] w fun e w' => e = .returned (.tuple #[]) ∧ Mk G w0 w' m p base room (dqLay base room k s) (n + 2) := by
  have c0 := h.c0
  have c1 := h.c1
  have c2 := h.c2
  have H0 := Lib.hid h
  have HN := Lib.hid hn
  clear h hn
  go_enter Tryz.func137, Tryz.ntmps137
  go_upto_region 0 with fail
  go_still_tail 11, (by kernel_rfl)
  go_wp2_with fail
  refine (mk_push (H0.out.quiet (Chg.refl _ _).drew) _ (by have := HN.out; omega)).mono ?_
  clear c0 c1 c2
  rintro e w1 ⟨rfl, h⟩
  have c0 := h.c0
  have c1 := h.c1
  have c2 := h.c2
  have H1 := Lib.hid h
  clear h
  go_wp2_with fail
  refine (dqop1_any H1.out 17 (by have := HN.out; omega)).mono ?_
  clear c0 c1 c2
  rintro e w2 ⟨rfl, h⟩
  have c0 := h.c0
  have c1 := h.c1
  have c2 := h.c2
  have H2 := Lib.hid h
  clear h
  go_wp2_with fail
  go_end0
  exact ⟨rfl, H2.out⟩
set_option maxRecDepth 100000 in
set_option maxHeartbeats 2000000 in
theorem dqPlace_any {G : Nat → Prop} {w0 w : World} {m p : Nat} {base room : Int} {s : Asm} {n : Nat} (h : Mk G w0 w m p base room s n) (hn : n < 233) :
    Calls Tryz.prog 102 #[.pointer (some ⟨m, 0, none⟩)] w fun e w' => e = .returned (.tuple #[]) ∧ Mk G w0 w' m p base room (dqPlace base room  s) (n + 7) := by
  have c0 := h.c0
  have c1 := h.c1
  have c2 := h.c2
  have H0 := Lib.hid h
  have HN := Lib.hid hn
  clear h hn
  go_enter Tryz.func102, Tryz.ntmps102
  go_wp2_with fail
  refine (dqCell_any H0.out _ (by have := HN.out; omega)).mono ?_
  clear c0 c1 c2
  rintro e w1 ⟨rfl, h⟩
  have c0 := h.c0
  have c1 := h.c1
  have c2 := h.c2
  have H1 := Lib.hid h
  clear h
  go_wp2_with fail
  refine (dqTwo_any H1.out _ (by have := HN.out; omega)).mono ?_
  clear c0 c1 c2
  rintro e w2 ⟨rfl, h⟩
  have c0 := h.c0
  have c1 := h.c1
  have c2 := h.c2
  have H2 := Lib.hid h
  clear h
  go_upto_region 2 with fail
  go_still_tail 9, (by kernel_rfl)
  go_wp2_with fail
  refine (mk_push (H2.out.quiet (Chg.refl _ _).drew) _ (by have := HN.out; omega)).mono ?_
  clear c0 c1 c2
  rintro e w3 ⟨rfl, h⟩
  have c0 := h.c0
  have c1 := h.c1
  have c2 := h.c2
  have H3 := Lib.hid h
  clear h
  go_wp2_with fail
  refine (dqTwo_any H3.out _ (by have := HN.out; omega)).mono ?_
  clear c0 c1 c2
  rintro e w4 ⟨rfl, h⟩
  have c0 := h.c0
  have c1 := h.c1
  have c2 := h.c2
  have H4 := Lib.hid h
  clear h
  go_upto_region 4 with fail
  go_still_tail 10, (by kernel_rfl)
  go_wp2_with fail
  refine (mk_push (H4.out.quiet (Chg.refl _ _).drew) _ (by have := HN.out; omega)).mono ?_
  clear c0 c1 c2
  rintro e w5 ⟨rfl, h⟩
  have c0 := h.c0
  have c1 := h.c1
  have c2 := h.c2
  have H5 := Lib.hid h
  clear h
  go_wp2_with fail
  refine (dqTwo_any H5.out _ (by have := HN.out; omega)).mono ?_
  clear c0 c1 c2
  rintro e w6 ⟨rfl, h⟩
  have c0 := h.c0
  have c1 := h.c1
  have c2 := h.c2
  have H6 := Lib.hid h
  clear h
  go_wp2_with fail
  go_end0
  exact ⟨rfl, H6.out⟩
set_option maxRecDepth 100000 in
set_option maxHeartbeats 2000000 in
theorem dqEmit_any {G : Nat → Prop} {w0 w : World} {m p : Nat} {base room : Int} {s : Asm} {n : Nat} (h : Mk G w0 w m p base room s n) (hn : n < 231) :
    Calls Tryz.prog 104 #[.pointer (some ⟨m, 0, none⟩)] w fun e w' => e = .returned (.tuple #[]) ∧ Mk G w0 w' m p base room (dqEmit base room  s) (n + 9) := by
  have c0 := h.c0
  have c1 := h.c1
  have c2 := h.c2
  have H0 := Lib.hid h
  have HN := Lib.hid hn
  clear h hn
  go_enter Tryz.func104, Tryz.ntmps104
  go_wp2_with fail
  refine (dqPlace_any H0.out (by have := HN.out; omega)).mono ?_
  clear c0 c1 c2
  rintro e w1 ⟨rfl, h⟩
  have c0 := h.c0
  have c1 := h.c1
  have c2 := h.c2
  have H1 := Lib.hid h
  clear h
  go_wp2_with fail
  refine (dqop2_any H1.out 16 18 (by have := HN.out; omega)).mono ?_
  clear c0 c1 c2
  rintro e w2 ⟨rfl, h⟩
  have c0 := h.c0
  have c1 := h.c1
  have c2 := h.c2
  have H2 := Lib.hid h
  clear h
  go_wp2_with fail
  go_end0
  exact ⟨rfl, H2.out⟩
set_option maxRecDepth 100000 in
set_option maxHeartbeats 2000000 in
theorem dqMore_any {G : Nat → Prop} {w0 w : World} {m p : Nat} {base room : Int} {s : Asm} {n : Nat} (h : Mk G w0 w m p base room s n) (x : Nat) (hn : n < 234) :
    Calls Tryz.prog 99 #[.pointer (some ⟨m, 0, none⟩), fl x] w fun e w' => e = .returned (.tuple #[]) ∧ Mk G w0 w' m p base room (dqMore base room x s) (n + 6) := by
  have c0 := h.c0
  have c1 := h.c1
  have c2 := h.c2
  have H0 := Lib.hid h
  have HN := Lib.hid hn
  clear h hn
  go_enter Tryz.func99, Tryz.ntmps99
  go_wp2_with fail
  refine (dqCell_any H0.out _ (by have := HN.out; omega)).mono ?_
  clear c0 c1 c2
  rintro e w1 ⟨rfl, h⟩
  have c0 := h.c0
  have c1 := h.c1
  have c2 := h.c2
  have H1 := Lib.hid h
  clear h
  go_wp2_with fail
  refine (mk_push H1.out x (by have := HN.out; omega)).mono ?_
  clear c0 c1 c2
  rintro e w2 ⟨rfl, h⟩
  have c0 := h.c0
  have c1 := h.c1
  have c2 := h.c2
  have H2 := Lib.hid h
  clear h
  go_wp2_with fail
  refine (dqTwo_any H2.out _ (by have := HN.out; omega)).mono ?_
  clear c0 c1 c2
  rintro e w3 ⟨rfl, h⟩
  have c0 := h.c0
  have c1 := h.c1
  have c2 := h.c2
  have H3 := Lib.hid h
  clear h
  go_wp2_with fail
  refine (dqLay_any H3.out _ (by have := HN.out; omega)).mono ?_
  clear c0 c1 c2
  rintro e w4 ⟨rfl, h⟩
  have c0 := h.c0
  have c1 := h.c1
  have c2 := h.c2
  have H4 := Lib.hid h
  clear h
  go_wp2_with fail
  go_end0
  exact ⟨rfl, H4.out⟩
set_option maxRecDepth 100000 in
set_option maxHeartbeats 2000000 in
theorem dqTurn_any {G : Nat → Prop} {w0 w : World} {m p : Nat} {base room : Int} {s : Asm} {n : Nat} (h : Mk G w0 w m p base room s n) (k : Int) (hn : n < 232) :
    Calls Tryz.prog 100 #[.pointer (some ⟨m, 0, none⟩), .int .i64 k] w fun e w' => e = .returned (.tuple #[]) ∧ Mk G w0 w' m p base room (dqTurn base room k s) (n + 8) := by
  have c0 := h.c0
  have c1 := h.c1
  have c2 := h.c2
  have H0 := Lib.hid h
  have HN := Lib.hid hn
  clear h hn
  go_enter Tryz.func100, Tryz.ntmps100
  go_wp2_with fail
  refine (dqCell_any H0.out _ (by have := HN.out; omega)).mono ?_
  clear c0 c1 c2
  rintro e w1 ⟨rfl, h⟩
  have c0 := h.c0
  have c1 := h.c1
  have c2 := h.c2
  have H1 := Lib.hid h
  clear h
  go_wp2_with fail
  refine (mk_push H1.out _ (by have := HN.out; omega)).mono ?_
  clear c0 c1 c2
  rintro e w2 ⟨rfl, h⟩
  have c0 := h.c0
  have c1 := h.c1
  have c2 := h.c2
  have H2 := Lib.hid h
  clear h
  go_wp2_with fail
  refine (dqTwo_any H2.out _ (by have := HN.out; omega)).mono ?_
  clear c0 c1 c2
  rintro e w3 ⟨rfl, h⟩
  have c0 := h.c0
  have c1 := h.c1
  have c2 := h.c2
  have H3 := Lib.hid h
  clear h
  go_upto_region 3 with fail
  go_still_tail 9, (by kernel_rfl)
  go_wp2_with fail
  refine (mk_push (H3.out.quiet (Chg.refl _ _).drew) _ (by have := HN.out; omega)).mono ?_
  clear c0 c1 c2
  rintro e w4 ⟨rfl, h⟩
  have c0 := h.c0
  have c1 := h.c1
  have c2 := h.c2
  have H4 := Lib.hid h
  clear h
  go_wp2_with fail
  refine (dqTwo_any H4.out _ (by have := HN.out; omega)).mono ?_
  clear c0 c1 c2
  rintro e w5 ⟨rfl, h⟩
  have c0 := h.c0
  have c1 := h.c1
  have c2 := h.c2
  have H5 := Lib.hid h
  clear h
  go_wp2_with fail
  refine (dqLay_any H5.out _ (by have := HN.out; omega)).mono ?_
  clear c0 c1 c2
  rintro e w6 ⟨rfl, h⟩
  have c0 := h.c0
  have c1 := h.c1
  have c2 := h.c2
  have H6 := Lib.hid h
  clear h
  go_wp2_with fail
  go_end0
  exact ⟨rfl, H6.out⟩
set_option maxRecDepth 100000 in
set_option maxHeartbeats 2000000 in
theorem dqAhead1_any {G : Nat → Prop} {w0 w : World} {m p : Nat} {base room : Int} {s : Asm} {n : Nat} (h : Mk G w0 w m p base room s n) (hn : n < 222) :
    Calls Tryz.prog 47 #[.pointer (some ⟨m, 0, none⟩)] w fun e w' => e = .returned (.tuple #[]) ∧ Mk G w0 w' m p base room (dqAhead1 base room  s) (n + 18) := by
  have c0 := h.c0
  have c1 := h.c1
  have c2 := h.c2
  have H0 := Lib.hid h
  have HN := Lib.hid hn
  clear h hn
  go_enter Tryz.func47, Tryz.ntmps47
  go_wp2_with fail
  refine (dqTurn_any H0.out _ (by have := HN.out; omega)).mono ?_
  clear c0 c1 c2
  rintro e w1 ⟨rfl, h⟩
  have c0 := h.c0
  have c1 := h.c1
  have c2 := h.c2
  have H1 := Lib.hid h
  clear h
  go_wp2_with fail
  refine (dqArg_any H1.out (by have := HN.out; omega)).mono ?_
  clear c0 c1 c2
  rintro e w2 ⟨rfl, h⟩
  have c0 := h.c0
  have c1 := h.c1
  have c2 := h.c2
  have H2 := Lib.hid h
  clear h
  go_wp2_with fail
  refine (mk_push H2.out 0 (by have := HN.out; omega)).mono ?_
  clear c0 c1 c2
  rintro e w3 ⟨rfl, h⟩
  have c0 := h.c0
  have c1 := h.c1
  have c2 := h.c2
  have H3 := Lib.hid h
  clear h
  go_wp2_with fail
  refine (dqPlace_any H3.out (by have := HN.out; omega)).mono ?_
  clear c0 c1 c2
  rintro e w4 ⟨rfl, h⟩
  have c0 := h.c0
  have c1 := h.c1
  have c2 := h.c2
  have H4 := Lib.hid h
  clear h
  go_wp2_with fail
  refine (dqop1_any H4.out 17 (by have := HN.out; omega)).mono ?_
  clear c0 c1 c2
  rintro e w5 ⟨rfl, h⟩
  have c0 := h.c0
  have c1 := h.c1
  have c2 := h.c2
  have H5 := Lib.hid h
  clear h
  go_wp2_with fail
  go_end0
  exact ⟨rfl, H5.out⟩
set_option maxRecDepth 100000 in
set_option maxHeartbeats 2000000 in
theorem dqBehind_any {G : Nat → Prop} {w0 w : World} {m p : Nat} {base room : Int} {s : Asm} {n : Nat} (h : Mk G w0 w m p base room s n) (hn : n < 229) :
    Calls Tryz.prog 48 #[.pointer (some ⟨m, 0, none⟩)] w fun e w' => e = .returned (.tuple #[]) ∧ Mk G w0 w' m p base room (dqBehind base room  s) (n + 11) := by
  have c0 := h.c0
  have c1 := h.c1
  have c2 := h.c2
  have H0 := Lib.hid h
  have HN := Lib.hid hn
  clear h hn
  go_enter Tryz.func48, Tryz.ntmps48
  go_wp2_with fail
  refine (dqArg_any H0.out (by have := HN.out; omega)).mono ?_
  clear c0 c1 c2
  rintro e w1 ⟨rfl, h⟩
  have c0 := h.c0
  have c1 := h.c1
  have c2 := h.c2
  have H1 := Lib.hid h
  clear h
  go_wp2_with fail
  refine (dqCell_any H1.out _ (by have := HN.out; omega)).mono ?_
  clear c0 c1 c2
  rintro e w2 ⟨rfl, h⟩
  have c0 := h.c0
  have c1 := h.c1
  have c2 := h.c2
  have H2 := Lib.hid h
  clear h
  go_wp2_with fail
  refine (dqPlace_any H2.out (by have := HN.out; omega)).mono ?_
  clear c0 c1 c2
  rintro e w3 ⟨rfl, h⟩
  have c0 := h.c0
  have c1 := h.c1
  have c2 := h.c2
  have H3 := Lib.hid h
  clear h
  go_wp2_with fail
  refine (dqop1_any H3.out 17 (by have := HN.out; omega)).mono ?_
  clear c0 c1 c2
  rintro e w4 ⟨rfl, h⟩
  have c0 := h.c0
  have c1 := h.c1
  have c2 := h.c2
  have H4 := Lib.hid h
  clear h
  go_wp2_with fail
  go_end0
  exact ⟨rfl, H4.out⟩
set_option maxRecDepth 100000 in
set_option maxHeartbeats 2000000 in
theorem dqFront_any {G : Nat → Prop} {w0 w : World} {m p : Nat} {base room : Int} {s : Asm} {n : Nat} (h : Mk G w0 w m p base room s n) (hn : n < 222) :
    Calls Tryz.prog 50 #[.pointer (some ⟨m, 0, none⟩)] w fun e w' => e = .returned (.tuple #[]) ∧ Mk G w0 w' m p base room (dqFront base room  s) (n + 18) := by
  have c0 := h.c0
  have c1 := h.c1
  have c2 := h.c2
  have H0 := Lib.hid h
  have HN := Lib.hid hn
  clear h hn
  go_enter Tryz.func50, Tryz.ntmps50
  go_wp2_with fail
  refine (mk_push H0.out 0 (by have := HN.out; omega)).mono ?_
  clear c0 c1 c2
  rintro e w1 ⟨rfl, h⟩
  have c0 := h.c0
  have c1 := h.c1
  have c2 := h.c2
  have H1 := Lib.hid h
  clear h
  go_wp2_with fail
  refine (dqEmit_any H1.out (by have := HN.out; omega)).mono ?_
  clear c0 c1 c2
  rintro e w2 ⟨rfl, h⟩
  have c0 := h.c0
  have c1 := h.c1
  have c2 := h.c2
  have H2 := Lib.hid h
  clear h
  go_wp2_with fail
  refine (dqTurn_any H2.out _ (by have := HN.out; omega)).mono ?_
  clear c0 c1 c2
  rintro e w3 ⟨rfl, h⟩
  have c0 := h.c0
  have c1 := h.c1
  have c2 := h.c2
  have H3 := Lib.hid h
  clear h
  go_wp2_with fail
  go_end0
  exact ⟨rfl, H3.out⟩
set_option maxRecDepth 100000 in
set_option maxHeartbeats 2000000 in
theorem dqBack_any {G : Nat → Prop} {w0 w : World} {m p : Nat} {base room : Int} {s : Asm} {n : Nat} (h : Mk G w0 w m p base room s n) (hn : n < 227) :
    Calls Tryz.prog 51 #[.pointer (some ⟨m, 0, none⟩)] w fun e w' => e = .returned (.tuple #[]) ∧ Mk G w0 w' m p base room (dqBack base room  s) (n + 13) := by
  have c0 := h.c0
  have c1 := h.c1
  have c2 := h.c2
  have H0 := Lib.hid h
  have HN := Lib.hid hn
  clear h hn
  go_enter Tryz.func51, Tryz.ntmps51
  go_wp2_with fail
  refine (dqCell_any H0.out _ (by have := HN.out; omega)).mono ?_
  clear c0 c1 c2
  rintro e w1 ⟨rfl, h⟩
  have c0 := h.c0
  have c1 := h.c1
  have c2 := h.c2
  have H1 := Lib.hid h
  clear h
  go_wp2_with fail
  refine (mk_push H1.out 4607182418800017408 (by have := HN.out; omega)).mono ?_
  clear c0 c1 c2
  rintro e w2 ⟨rfl, h⟩
  have c0 := h.c0
  have c1 := h.c1
  have c2 := h.c2
  have H2 := Lib.hid h
  clear h
  go_wp2_with fail
  refine (dqTwo_any H2.out _ (by have := HN.out; omega)).mono ?_
  clear c0 c1 c2
  rintro e w3 ⟨rfl, h⟩
  have c0 := h.c0
  have c1 := h.c1
  have c2 := h.c2
  have H3 := Lib.hid h
  clear h
  go_wp2_with fail
  refine (dqEmit_any H3.out (by have := HN.out; omega)).mono ?_
  clear c0 c1 c2
  rintro e w4 ⟨rfl, h⟩
  have c0 := h.c0
  have c1 := h.c1
  have c2 := h.c2
  have H4 := Lib.hid h
  clear h
  go_wp2_with fail
  go_end0
  exact ⟨rfl, H4.out⟩
set_option maxRecDepth 100000 in
set_option maxHeartbeats 2000000 in
theorem dqAt_any {G : Nat → Prop} {w0 w : World} {m p : Nat} {base room : Int} {s : Asm} {n : Nat} (h : Mk G w0 w m p base room s n) (hn : n < 214) :
    Calls Tryz.prog 52 #[.pointer (some ⟨m, 0, none⟩)] w fun e w' => e = .returned (.tuple #[]) ∧ Mk G w0 w' m p base room (dqAt base room  s) (n + 26) := by
  have c0 := h.c0
  have c1 := h.c1
  have c2 := h.c2
  have H0 := Lib.hid h
  have HN := Lib.hid hn
  clear h hn
  go_enter Tryz.func52, Tryz.ntmps52
  go_wp2_with fail
  refine (mk_label H0.out (by have := HN.out; omega)).mono ?_
  clear c0 c1 c2
  rintro e w1 ⟨rfl, h⟩
  have c0 := h.c0
  have c1 := h.c1
  have c2 := h.c2
  have H1 := Lib.hid h
  clear h
  go_wp2_with fail
  refine (mk_push H1.out 0 (by have := HN.out; omega)).mono ?_
  clear c0 c1 c2
  rintro e w2 ⟨rfl, h⟩
  have c0 := h.c0
  have c1 := h.c1
  have c2 := h.c2
  have H2 := Lib.hid h
  clear h
  go_wp2_with fail
  refine (dqArg_any H2.out (by have := HN.out; omega)).mono ?_
  clear c0 c1 c2
  rintro e w3 ⟨rfl, h⟩
  have c0 := h.c0
  have c1 := h.c1
  have c2 := h.c2
  have H3 := Lib.hid h
  clear h
  go_wp2_with fail
  refine (dqTwo_any H3.out _ (by have := HN.out; omega)).mono ?_
  clear c0 c1 c2
  rintro e w4 ⟨rfl, h⟩
  have c0 := h.c0
  have c1 := h.c1
  have c2 := h.c2
  have H4 := Lib.hid h
  clear h
  go_wp2_with fail
  refine (mk_to H4.out _ _ (by have := HN.out; omega)).mono ?_
  clear c0 c1 c2
  rintro e w5 ⟨rfl, h⟩
  have c0 := h.c0
  have c1 := h.c1
  have c2 := h.c2
  have H5 := Lib.hid h
  clear h
  go_wp2_with fail
  refine (dqArg_any H5.out (by have := HN.out; omega)).mono ?_
  clear c0 c1 c2
  rintro e w6 ⟨rfl, h⟩
  have c0 := h.c0
  have c1 := h.c1
  have c2 := h.c2
  have H6 := Lib.hid h
  clear h
  go_wp2_with fail
  refine (dqCell_any H6.out _ (by have := HN.out; omega)).mono ?_
  clear c0 c1 c2
  rintro e w7 ⟨rfl, h⟩
  have c0 := h.c0
  have c1 := h.c1
  have c2 := h.c2
  have H7 := Lib.hid h
  clear h
  go_wp2_with fail
  refine (dqTwo_any H7.out _ (by have := HN.out; omega)).mono ?_
  clear c0 c1 c2
  rintro e w8 ⟨rfl, h⟩
  have c0 := h.c0
  have c1 := h.c1
  have c2 := h.c2
  have H8 := Lib.hid h
  clear h
  go_wp2_with fail
  refine (mk_to H8.out _ _ (by have := HN.out; omega)).mono ?_
  clear c0 c1 c2
  rintro e w9 ⟨rfl, h⟩
  have c0 := h.c0
  have c1 := h.c1
  have c2 := h.c2
  have H9 := Lib.hid h
  clear h
  go_wp2_with fail
  refine (dqArg_any H9.out (by have := HN.out; omega)).mono ?_
  clear c0 c1 c2
  rintro e w10 ⟨rfl, h⟩
  have c0 := h.c0
  have c1 := h.c1
  have c2 := h.c2
  have H10 := Lib.hid h
  clear h
  go_wp2_with fail
  refine (mk_add H10.out _ _ (by have := HN.out; omega)).mono ?_
  clear c0 c1 c2
  rintro e w11 ⟨rfl, h⟩
  have c0 := h.c0
  have c1 := h.c1
  have c2 := h.c2
  have H11 := Lib.hid h
  clear h
  go_wp2_with fail
  refine (dqArg_any H11.out (by have := HN.out; omega)).mono ?_
  clear c0 c1 c2
  rintro e w12 ⟨rfl, h⟩
  have c0 := h.c0
  have c1 := h.c1
  have c2 := h.c2
  have H12 := Lib.hid h
  clear h
  go_wp2_with fail
  refine (dqTwo_any H12.out _ (by have := HN.out; omega)).mono ?_
  clear c0 c1 c2
  rintro e w13 ⟨rfl, h⟩
  have c0 := h.c0
  have c1 := h.c1
  have c2 := h.c2
  have H13 := Lib.hid h
  clear h
  go_wp2_with fail
  refine (mk_to H13.out _ _ (by have := HN.out; omega)).mono ?_
  clear c0 c1 c2
  rintro e w14 ⟨rfl, h⟩
  have c0 := h.c0
  have c1 := h.c1
  have c2 := h.c2
  have H14 := Lib.hid h
  clear h
  go_wp2_with fail
  refine (dqArg_any H14.out (by have := HN.out; omega)).mono ?_
  clear c0 c1 c2
  rintro e w15 ⟨rfl, h⟩
  have c0 := h.c0
  have c1 := h.c1
  have c2 := h.c2
  have H15 := Lib.hid h
  clear h
  go_wp2_with fail
  refine (dqEmit_any H15.out (by have := HN.out; omega)).mono ?_
  clear c0 c1 c2
  rintro e w16 ⟨rfl, h⟩
  have c0 := h.c0
  have c1 := h.c1
  have c2 := h.c2
  have H16 := Lib.hid h
  clear h
  go_wp2_with fail
  refine (mk_mark H16.out _ (by have := HN.out; omega)).mono ?_
  clear c0 c1 c2
  rintro e w17 ⟨rfl, h⟩
  have c0 := h.c0
  have c1 := h.c1
  have c2 := h.c2
  have H17 := Lib.hid h
  clear h
  go_wp2_with fail
  go_end0
  exact ⟨rfl, H17.out⟩
set_option maxRecDepth 100000 in
set_option maxHeartbeats 2000000 in
theorem dqLength_any {G : Nat → Prop} {w0 w : World} {m p : Nat} {base room : Int} {s : Asm} {n : Nat} (h : Mk G w0 w m p base room s n) (hn : n < 237) :
    Calls Tryz.prog 53 #[.pointer (some ⟨m, 0, none⟩)] w fun e w' => e = .returned (.tuple #[]) ∧ Mk G w0 w' m p base room (dqLength base room  s) (n + 3) := by
  have c0 := h.c0
  have c1 := h.c1
  have c2 := h.c2
  have H0 := Lib.hid h
  have HN := Lib.hid hn
  clear h hn
  go_enter Tryz.func53, Tryz.ntmps53
  go_wp2_with fail
  refine (dqCell_any H0.out _ (by have := HN.out; omega)).mono ?_
  clear c0 c1 c2
  rintro e w1 ⟨rfl, h⟩
  have c0 := h.c0
  have c1 := h.c1
  have c2 := h.c2
  have H1 := Lib.hid h
  clear h
  go_wp2_with fail
  refine (dqop1_any H1.out 18 (by have := HN.out; omega)).mono ?_
  clear c0 c1 c2
  rintro e w2 ⟨rfl, h⟩
  have c0 := h.c0
  have c1 := h.c1
  have c2 := h.c2
  have H2 := Lib.hid h
  clear h
  go_wp2_with fail
  go_end0
  exact ⟨rfl, H2.out⟩
set_option maxRecDepth 100000 in
set_option maxHeartbeats 2000000 in
theorem dqAll_any {G : Nat → Prop} {w0 w : World} {m p : Nat} {base room : Int} {s : Asm} {n : Nat} (h : Mk G w0 w m p base room s n) (hn : n < 216) :
    Calls Tryz.prog 54 #[.pointer (some ⟨m, 0, none⟩)] w fun e w' => e = .returned (.tuple #[]) ∧ Mk G w0 w' m p base room (dqAll base room  s) (n + 24) := by
  have c0 := h.c0
  have c1 := h.c1
  have c2 := h.c2
  have H0 := Lib.hid h
  have HN := Lib.hid hn
  clear h hn
  go_enter Tryz.func54, Tryz.ntmps54
  go_upto_region 0 with fail
  go_cut [2, 3] (fun v0 v1 wx => v0 = .int .i64 ((s).labels : Int) ∧ v1 = .int .i64 ((s.label).labels : Int) ∧ Mk G w0 wx m p base room s.label.label (n + 2))
  case first =>
    have HL := Lib.hid (fun w' (h : Chg w w' Nothing) => H0.out.quiet h)
    go_region_law (first | (go_simp; go_at_call 70; refine (mk_label (by first | exact h1 | exact h1.quiet (Chg.refl _ _).drew) (by have := HN.out; omega)).mono ?_; rintro e x2 ⟨rfl, h2⟩; have d2 := h2.c0) | (go_simp; go_at_call 70; refine (mk_label (HL.out _ (by first | exact (Chg.refl _ _).drew | exact Chg.refl _ _)) (by have := HN.out; omega)).mono ?_; rintro e x1 ⟨rfl, h1⟩; have d1 := h1.c0))
    all_goals
      go_wp2_with fail
      go_meet
      exact ⟨rfl, rfl, h2⟩
  obtain ⟨rfl, rfl, h⟩ := hcut
  clear c0 c1 c2
  have c0 := h.c0
  have c1 := h.c1
  have c2 := h.c2
  have H1 := Lib.hid h
  clear h
  go_wp2_with fail
  refine (mk_mark H1.out _ (by have := HN.out; omega)).mono ?_
  clear c0 c1 c2
  rintro e w2 ⟨rfl, h⟩
  have c0 := h.c0
  have c1 := h.c1
  have c2 := h.c2
  have H2 := Lib.hid h
  clear h
  go_wp2_with fail
  refine (mk_add H2.out _ _ (by have := HN.out; omega)).mono ?_
  clear c0 c1 c2
  rintro e w3 ⟨rfl, h⟩
  have c0 := h.c0
  have c1 := h.c1
  have c2 := h.c2
  have H3 := Lib.hid h
  clear h
  go_wp2_with fail
  refine (dqCell_any H3.out _ (by have := HN.out; omega)).mono ?_
  clear c0 c1 c2
  rintro e w4 ⟨rfl, h⟩
  have c0 := h.c0
  have c1 := h.c1
  have c2 := h.c2
  have H4 := Lib.hid h
  clear h
  go_wp2_with fail
  refine (dqTwo_any H4.out _ (by have := HN.out; omega)).mono ?_
  clear c0 c1 c2
  rintro e w5 ⟨rfl, h⟩
  have c0 := h.c0
  have c1 := h.c1
  have c2 := h.c2
  have H5 := Lib.hid h
  clear h
  go_wp2_with fail
  refine (mk_to H5.out _ _ (by have := HN.out; omega)).mono ?_
  clear c0 c1 c2
  rintro e w6 ⟨rfl, h⟩
  have c0 := h.c0
  have c1 := h.c1
  have c2 := h.c2
  have H6 := Lib.hid h
  clear h
  go_wp2_with fail
  refine (mk_add H6.out _ _ (by have := HN.out; omega)).mono ?_
  clear c0 c1 c2
  rintro e w7 ⟨rfl, h⟩
  have c0 := h.c0
  have c1 := h.c1
  have c2 := h.c2
  have H7 := Lib.hid h
  clear h
  go_wp2_with fail
  refine (dqEmit_any H7.out (by have := HN.out; omega)).mono ?_
  clear c0 c1 c2
  rintro e w8 ⟨rfl, h⟩
  have c0 := h.c0
  have c1 := h.c1
  have c2 := h.c2
  have H8 := Lib.hid h
  clear h
  go_wp2_with fail
  refine (mk_add H8.out _ _ (by have := HN.out; omega)).mono ?_
  clear c0 c1 c2
  rintro e w9 ⟨rfl, h⟩
  have c0 := h.c0
  have c1 := h.c1
  have c2 := h.c2
  have H9 := Lib.hid h
  clear h
  go_wp2_with fail
  refine (mk_push H9.out 4607182418800017408 (by have := HN.out; omega)).mono ?_
  clear c0 c1 c2
  rintro e w10 ⟨rfl, h⟩
  have c0 := h.c0
  have c1 := h.c1
  have c2 := h.c2
  have H10 := Lib.hid h
  clear h
  go_wp2_with fail
  refine (dqTwo_any H10.out _ (by have := HN.out; omega)).mono ?_
  clear c0 c1 c2
  rintro e w11 ⟨rfl, h⟩
  have c0 := h.c0
  have c1 := h.c1
  have c2 := h.c2
  have H11 := Lib.hid h
  clear h
  go_wp2_with fail
  refine (mk_add H11.out _ _ (by have := HN.out; omega)).mono ?_
  clear c0 c1 c2
  rintro e w12 ⟨rfl, h⟩
  have c0 := h.c0
  have c1 := h.c1
  have c2 := h.c2
  have H12 := Lib.hid h
  clear h
  go_wp2_with fail
  refine (mk_to H12.out _ _ (by have := HN.out; omega)).mono ?_
  clear c0 c1 c2
  rintro e w13 ⟨rfl, h⟩
  have c0 := h.c0
  have c1 := h.c1
  have c2 := h.c2
  have H13 := Lib.hid h
  clear h
  go_wp2_with fail
  refine (mk_mark H13.out _ (by have := HN.out; omega)).mono ?_
  clear c0 c1 c2
  rintro e w14 ⟨rfl, h⟩
  have c0 := h.c0
  have c1 := h.c1
  have c2 := h.c2
  have H14 := Lib.hid h
  clear h
  go_wp2_with fail
  go_end0
  exact ⟨rfl, H14.out⟩
set_option maxRecDepth 100000 in
set_option maxHeartbeats 2000000 in
theorem dqPush_ahead1_any {G : Nat → Prop} {w0 w : World} {m p : Nat} {base room : Int} {s : Asm} {n : Nat} {b : Nat} (hb : w0.cell? ⟨b, 0, none⟩ = some (.func (.func 47) #[] #[]) ∧ ¬ G b) (h : Mk G w0 w m p base room s n) (hn : n < 205) :
    Calls Tryz.prog 93 #[.pointer (some ⟨m, 0, none⟩), .pointer (some ⟨b, 0, none⟩)] w fun e w' => e = .returned (.tuple #[]) ∧ Mk G w0 w' m p base room (dqPush_ahead1 base room  s) (n + 35) := by
  have HB := Lib.hid hb
  clear hb
  have c0 := h.c0
  have c1 := h.c1
  have c2 := h.c2
  have cb := h.old.cell HB.out.1 HB.out.2
  have H0 := Lib.hid h
  have HN := Lib.hid hn
  clear h hn
  go_enter Tryz.func93, Tryz.ntmps93
  go_wp2_with fail
  refine (mk_label H0.out (by have := HN.out; omega)).mono ?_
  clear c0 c1 c2 cb
  rintro e w1 ⟨rfl, h⟩
  have c0 := h.c0
  have c1 := h.c1
  have c2 := h.c2
  have cb := h.old.cell HB.out.1 HB.out.2
  have H1 := Lib.hid h
  clear h
  go_wp2_with fail
  refine (dqCell_any H1.out _ (by have := HN.out; omega)).mono ?_
  clear c0 c1 c2 cb
  rintro e w2 ⟨rfl, h⟩
  have c0 := h.c0
  have c1 := h.c1
  have c2 := h.c2
  have cb := h.old.cell HB.out.1 HB.out.2
  have H2 := Lib.hid h
  clear h
  go_upto_region 2 with fail
  go_still_tail 9, (by kernel_rfl)
  go_wp2_with fail
  refine (mk_push (H2.out.quiet (Chg.refl _ _).drew) _ (by have := HN.out; omega)).mono ?_
  clear c0 c1 c2 cb
  rintro e w3 ⟨rfl, h⟩
  have c0 := h.c0
  have c1 := h.c1
  have c2 := h.c2
  have cb := h.old.cell HB.out.1 HB.out.2
  have H3 := Lib.hid h
  clear h
  go_wp2_with fail
  refine (dqTwo_any H3.out _ (by have := HN.out; omega)).mono ?_
  clear c0 c1 c2 cb
  rintro e w4 ⟨rfl, h⟩
  have c0 := h.c0
  have c1 := h.c1
  have c2 := h.c2
  have cb := h.old.cell HB.out.1 HB.out.2
  have H4 := Lib.hid h
  clear h
  go_wp2_with fail
  refine (mk_to H4.out _ _ (by have := HN.out; omega)).mono ?_
  clear c0 c1 c2 cb
  rintro e w5 ⟨rfl, h⟩
  have c0 := h.c0
  have c1 := h.c1
  have c2 := h.c2
  have cb := h.old.cell HB.out.1 HB.out.2
  have H5 := Lib.hid h
  clear h
  go_wp2_with fail
  refine (mk_add H5.out _ _ (by have := HN.out; omega)).mono ?_
  clear c0 c1 c2 cb
  rintro e w6 ⟨rfl, h⟩
  have c0 := h.c0
  have c1 := h.c1
  have c2 := h.c2
  have cb := h.old.cell HB.out.1 HB.out.2
  have H6 := Lib.hid h
  clear h
  go_wp2_with fail
  refine (mk_mark H6.out _ (by have := HN.out; omega)).mono ?_
  clear c0 c1 c2 cb
  rintro e w7 ⟨rfl, h⟩
  have c0 := h.c0
  have c1 := h.c1
  have c2 := h.c2
  have cb := h.old.cell HB.out.1 HB.out.2
  have H7 := Lib.hid h
  clear h
  go_wp2_with fail
  refine (dqAhead1_any H7.out (by have := HN.out; omega)).mono ?_
  clear c0 c1 c2 cb
  rintro e w8 ⟨rfl, h⟩
  have c0 := h.c0
  have c1 := h.c1
  have c2 := h.c2
  have cb := h.old.cell HB.out.1 HB.out.2
  have H8 := Lib.hid h
  clear h
  go_wp2_with fail
  refine (dqMore_any H8.out _ (by have := HN.out; omega)).mono ?_
  clear c0 c1 c2 cb
  rintro e w9 ⟨rfl, h⟩
  have c0 := h.c0
  have c1 := h.c1
  have c2 := h.c2
  have cb := h.old.cell HB.out.1 HB.out.2
  have H9 := Lib.hid h
  clear h
  go_wp2_with fail
  refine (dqCell_any H9.out _ (by have := HN.out; omega)).mono ?_
  clear c0 c1 c2 cb
  rintro e w10 ⟨rfl, h⟩
  have c0 := h.c0
  have c1 := h.c1
  have c2 := h.c2
  have cb := h.old.cell HB.out.1 HB.out.2
  have H10 := Lib.hid h
  clear h
  go_wp2_with fail
  refine (dqop1_any H10.out 18 (by have := HN.out; omega)).mono ?_
  clear c0 c1 c2 cb
  rintro e w11 ⟨rfl, h⟩
  have c0 := h.c0
  have c1 := h.c1
  have c2 := h.c2
  have cb := h.old.cell HB.out.1 HB.out.2
  have H11 := Lib.hid h
  clear h
  go_wp2_with fail
  go_end0
  exact ⟨rfl, H11.out⟩
set_option maxRecDepth 100000 in
set_option maxHeartbeats 2000000 in
theorem dqPush_behind_any {G : Nat → Prop} {w0 w : World} {m p : Nat} {base room : Int} {s : Asm} {n : Nat} {b : Nat} (hb : w0.cell? ⟨b, 0, none⟩ = some (.func (.func 48) #[] #[]) ∧ ¬ G b) (h : Mk G w0 w m p base room s n) (hn : n < 212) :
    Calls Tryz.prog 93 #[.pointer (some ⟨m, 0, none⟩), .pointer (some ⟨b, 0, none⟩)] w fun e w' => e = .returned (.tuple #[]) ∧ Mk G w0 w' m p base room (dqPush_behind base room  s) (n + 28) := by
  have HB := Lib.hid hb
  clear hb
  have c0 := h.c0
  have c1 := h.c1
  have c2 := h.c2
  have cb := h.old.cell HB.out.1 HB.out.2
  have H0 := Lib.hid h
  have HN := Lib.hid hn
  clear h hn
  go_enter Tryz.func93, Tryz.ntmps93
  go_wp2_with fail
  refine (mk_label H0.out (by have := HN.out; omega)).mono ?_
  clear c0 c1 c2 cb
  rintro e w1 ⟨rfl, h⟩
  have c0 := h.c0
  have c1 := h.c1
  have c2 := h.c2
  have cb := h.old.cell HB.out.1 HB.out.2
  have H1 := Lib.hid h
  clear h
  go_wp2_with fail
  refine (dqCell_any H1.out _ (by have := HN.out; omega)).mono ?_
  clear c0 c1 c2 cb
  rintro e w2 ⟨rfl, h⟩
  have c0 := h.c0
  have c1 := h.c1
  have c2 := h.c2
  have cb := h.old.cell HB.out.1 HB.out.2
  have H2 := Lib.hid h
  clear h
  go_upto_region 2 with fail
  go_still_tail 9, (by kernel_rfl)
  go_wp2_with fail
  refine (mk_push (H2.out.quiet (Chg.refl _ _).drew) _ (by have := HN.out; omega)).mono ?_
  clear c0 c1 c2 cb
  rintro e w3 ⟨rfl, h⟩
  have c0 := h.c0
  have c1 := h.c1
  have c2 := h.c2
  have cb := h.old.cell HB.out.1 HB.out.2
  have H3 := Lib.hid h
  clear h
  go_wp2_with fail
  refine (dqTwo_any H3.out _ (by have := HN.out; omega)).mono ?_
  clear c0 c1 c2 cb
  rintro e w4 ⟨rfl, h⟩
  have c0 := h.c0
  have c1 := h.c1
  have c2 := h.c2
  have cb := h.old.cell HB.out.1 HB.out.2
  have H4 := Lib.hid h
  clear h
  go_wp2_with fail
  refine (mk_to H4.out _ _ (by have := HN.out; omega)).mono ?_
  clear c0 c1 c2 cb
  rintro e w5 ⟨rfl, h⟩
  have c0 := h.c0
  have c1 := h.c1
  have c2 := h.c2
  have cb := h.old.cell HB.out.1 HB.out.2
  have H5 := Lib.hid h
  clear h
  go_wp2_with fail
  refine (mk_add H5.out _ _ (by have := HN.out; omega)).mono ?_
  clear c0 c1 c2 cb
  rintro e w6 ⟨rfl, h⟩
  have c0 := h.c0
  have c1 := h.c1
  have c2 := h.c2
  have cb := h.old.cell HB.out.1 HB.out.2
  have H6 := Lib.hid h
  clear h
  go_wp2_with fail
  refine (mk_mark H6.out _ (by have := HN.out; omega)).mono ?_
  clear c0 c1 c2 cb
  rintro e w7 ⟨rfl, h⟩
  have c0 := h.c0
  have c1 := h.c1
  have c2 := h.c2
  have cb := h.old.cell HB.out.1 HB.out.2
  have H7 := Lib.hid h
  clear h
  go_wp2_with fail
  refine (dqBehind_any H7.out (by have := HN.out; omega)).mono ?_
  clear c0 c1 c2 cb
  rintro e w8 ⟨rfl, h⟩
  have c0 := h.c0
  have c1 := h.c1
  have c2 := h.c2
  have cb := h.old.cell HB.out.1 HB.out.2
  have H8 := Lib.hid h
  clear h
  go_wp2_with fail
  refine (dqMore_any H8.out _ (by have := HN.out; omega)).mono ?_
  clear c0 c1 c2 cb
  rintro e w9 ⟨rfl, h⟩
  have c0 := h.c0
  have c1 := h.c1
  have c2 := h.c2
  have cb := h.old.cell HB.out.1 HB.out.2
  have H9 := Lib.hid h
  clear h
  go_wp2_with fail
  refine (dqCell_any H9.out _ (by have := HN.out; omega)).mono ?_
  clear c0 c1 c2 cb
  rintro e w10 ⟨rfl, h⟩
  have c0 := h.c0
  have c1 := h.c1
  have c2 := h.c2
  have cb := h.old.cell HB.out.1 HB.out.2
  have H10 := Lib.hid h
  clear h
  go_wp2_with fail
  refine (dqop1_any H10.out 18 (by have := HN.out; omega)).mono ?_
  clear c0 c1 c2 cb
  rintro e w11 ⟨rfl, h⟩
  have c0 := h.c0
  have c1 := h.c1
  have c2 := h.c2
  have cb := h.old.cell HB.out.1 HB.out.2
  have H11 := Lib.hid h
  clear h
  go_wp2_with fail
  go_end0
  exact ⟨rfl, H11.out⟩
set_option maxRecDepth 100000 in
set_option maxHeartbeats 2000000 in
theorem dqPop_front_any {G : Nat → Prop} {w0 w : World} {m p : Nat} {base room : Int} {s : Asm} {n : Nat} {b : Nat} (hb : w0.cell? ⟨b, 0, none⟩ = some (.func (.func 50) #[] #[]) ∧ ¬ G b) (h : Mk G w0 w m p base room s n) (hn : n < 211) :
    Calls Tryz.prog 103 #[.pointer (some ⟨m, 0, none⟩), .pointer (some ⟨b, 0, none⟩)] w fun e w' => e = .returned (.tuple #[]) ∧ Mk G w0 w' m p base room (dqPop_front base room  s) (n + 29) := by
  have HB := Lib.hid hb
  clear hb
  have c0 := h.c0
  have c1 := h.c1
  have c2 := h.c2
  have cb := h.old.cell HB.out.1 HB.out.2
  have H0 := Lib.hid h
  have HN := Lib.hid hn
  clear h hn
  go_enter Tryz.func103, Tryz.ntmps103
  go_wp2_with fail
  refine (mk_label H0.out (by have := HN.out; omega)).mono ?_
  clear c0 c1 c2 cb
  rintro e w1 ⟨rfl, h⟩
  have c0 := h.c0
  have c1 := h.c1
  have c2 := h.c2
  have cb := h.old.cell HB.out.1 HB.out.2
  have H1 := Lib.hid h
  clear h
  go_wp2_with fail
  refine (dqCell_any H1.out _ (by have := HN.out; omega)).mono ?_
  clear c0 c1 c2 cb
  rintro e w2 ⟨rfl, h⟩
  have c0 := h.c0
  have c1 := h.c1
  have c2 := h.c2
  have cb := h.old.cell HB.out.1 HB.out.2
  have H2 := Lib.hid h
  clear h
  go_wp2_with fail
  refine (mk_to H2.out _ _ (by have := HN.out; omega)).mono ?_
  clear c0 c1 c2 cb
  rintro e w3 ⟨rfl, h⟩
  have c0 := h.c0
  have c1 := h.c1
  have c2 := h.c2
  have cb := h.old.cell HB.out.1 HB.out.2
  have H3 := Lib.hid h
  clear h
  go_wp2_with fail
  refine (dqFront_any H3.out (by have := HN.out; omega)).mono ?_
  clear c0 c1 c2 cb
  rintro e w4 ⟨rfl, h⟩
  have c0 := h.c0
  have c1 := h.c1
  have c2 := h.c2
  have cb := h.old.cell HB.out.1 HB.out.2
  have H4 := Lib.hid h
  clear h
  go_wp2_with fail
  refine (dqMore_any H4.out _ (by have := HN.out; omega)).mono ?_
  clear c0 c1 c2 cb
  rintro e w5 ⟨rfl, h⟩
  have c0 := h.c0
  have c1 := h.c1
  have c2 := h.c2
  have cb := h.old.cell HB.out.1 HB.out.2
  have H5 := Lib.hid h
  clear h
  go_wp2_with fail
  refine (mk_mark H5.out _ (by have := HN.out; omega)).mono ?_
  clear c0 c1 c2 cb
  rintro e w6 ⟨rfl, h⟩
  have c0 := h.c0
  have c1 := h.c1
  have c2 := h.c2
  have cb := h.old.cell HB.out.1 HB.out.2
  have H6 := Lib.hid h
  clear h
  go_wp2_with fail
  go_end0
  exact ⟨rfl, H6.out⟩
set_option maxRecDepth 100000 in
set_option maxHeartbeats 2000000 in
theorem dqPop_back_any {G : Nat → Prop} {w0 w : World} {m p : Nat} {base room : Int} {s : Asm} {n : Nat} {b : Nat} (hb : w0.cell? ⟨b, 0, none⟩ = some (.func (.func 51) #[] #[]) ∧ ¬ G b) (h : Mk G w0 w m p base room s n) (hn : n < 216) :
    Calls Tryz.prog 103 #[.pointer (some ⟨m, 0, none⟩), .pointer (some ⟨b, 0, none⟩)] w fun e w' => e = .returned (.tuple #[]) ∧ Mk G w0 w' m p base room (dqPop_back base room  s) (n + 24) := by
  have HB := Lib.hid hb
  clear hb
  have c0 := h.c0
  have c1 := h.c1
  have c2 := h.c2
  have cb := h.old.cell HB.out.1 HB.out.2
  have H0 := Lib.hid h
  have HN := Lib.hid hn
  clear h hn
  go_enter Tryz.func103, Tryz.ntmps103
  go_wp2_with fail
  refine (mk_label H0.out (by have := HN.out; omega)).mono ?_
  clear c0 c1 c2 cb
  rintro e w1 ⟨rfl, h⟩
  have c0 := h.c0
  have c1 := h.c1
  have c2 := h.c2
  have cb := h.old.cell HB.out.1 HB.out.2
  have H1 := Lib.hid h
  clear h
  go_wp2_with fail
  refine (dqCell_any H1.out _ (by have := HN.out; omega)).mono ?_
  clear c0 c1 c2 cb
  rintro e w2 ⟨rfl, h⟩
  have c0 := h.c0
  have c1 := h.c1
  have c2 := h.c2
  have cb := h.old.cell HB.out.1 HB.out.2
  have H2 := Lib.hid h
  clear h
  go_wp2_with fail
  refine (mk_to H2.out _ _ (by have := HN.out; omega)).mono ?_
  clear c0 c1 c2 cb
  rintro e w3 ⟨rfl, h⟩
  have c0 := h.c0
  have c1 := h.c1
  have c2 := h.c2
  have cb := h.old.cell HB.out.1 HB.out.2
  have H3 := Lib.hid h
  clear h
  go_wp2_with fail
  refine (dqBack_any H3.out (by have := HN.out; omega)).mono ?_
  clear c0 c1 c2 cb
  rintro e w4 ⟨rfl, h⟩
  have c0 := h.c0
  have c1 := h.c1
  have c2 := h.c2
  have cb := h.old.cell HB.out.1 HB.out.2
  have H4 := Lib.hid h
  clear h
  go_wp2_with fail
  refine (dqMore_any H4.out _ (by have := HN.out; omega)).mono ?_
  clear c0 c1 c2 cb
  rintro e w5 ⟨rfl, h⟩
  have c0 := h.c0
  have c1 := h.c1
  have c2 := h.c2
  have cb := h.old.cell HB.out.1 HB.out.2
  have H5 := Lib.hid h
  clear h
  go_wp2_with fail
  refine (mk_mark H5.out _ (by have := HN.out; omega)).mono ?_
  clear c0 c1 c2 cb
  rintro e w6 ⟨rfl, h⟩
  have c0 := h.c0
  have c1 := h.c1
  have c2 := h.c2
  have cb := h.old.cell HB.out.1 HB.out.2
  have H6 := Lib.hid h
  clear h
  go_wp2_with fail
  go_end0
  exact ⟨rfl, H6.out⟩
end Go.Proofs.YtgeapkalabijmaaGreat
