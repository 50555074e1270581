/- The parts that a table's programs are put together of: what each adds. Printed by gen/table.py. -/
import Derived.Test.YtgeapkalabijmaaGreatD0
namespace Go.Proofs.YtgeapkalabijmaaGreat
open Go Go.RowKit
set_option maxRecDepth 100000
set_option maxHeartbeats 1000000
set_option linter.unusedVariables false
set_option linter.unusedSimpArgs false

def tbGet (base room : Int) (k : Int) (s : Asm) : Asm :=
  let s := s.add 7 k
  s
def tbSet (base room : Int) (k : Int) (s : Asm) : Asm :=
  let s := s.add 8 k
  s
def tbArg (base room : Int) (k : Int) (s : Asm) : Asm :=
  let s := s.add 6 k
  s
def tbTwo (base room : Int) (k : Int) (s : Asm) : Asm :=
  let s := s.add 10 k
  s
def tbRead (base room : Int)  (s : Asm) : Asm :=
  let s := s.add 16 0
  s
def tbWrite (base room : Int)  (s : Asm) : Asm :=
  let s := s.add 17 0
  s
def tbEmit (base room : Int)  (s : Asm) : Asm :=
  let s := s.add 18 0
  s
def tbHalt (base room : Int)  (s : Asm) : Asm :=
  let s := s.add 20 0
  s
def tbCell (base room : Int) (k : Int) (s : Asm) : Asm :=
  let s := s.push (floatOfInt .f64 (wrap64 (base + k)))
  s
def tbOf (base room : Int) (k : Int) (s : Asm) : Asm :=
  let s := s.push 4613937818241073152
  let s := tbTwo base room 3 s
  let s := s.push (floatOfInt .f64 (wrap64 (wrap64 (wrap64 (base + 8) - 3) + k)))
  let s := tbTwo base room 1 s
  s
def tbPart (base room : Int) (k : Int) (s : Asm) : Asm :=
  let s := tbGet base room 0 s
  let s := tbOf base room k s
  let s := tbRead base room  s
  s
def tbFirst (base room : Int)  (s : Asm) : Asm :=
  let s := s.push 0
  let s := tbSet base room 1 s
  let s := tbGet base room 3 s
  let s := tbRead base room  s
  let s := tbSet base room 0 s
  s
def tbOn (base room : Int)  (s : Asm) : Asm :=
  let s := tbGet base room 0 s
  let s := tbSet base room 1 s
  let s := tbPart base room 2 s
  let s := tbSet base room 0 s
  s
def tbSeek (base room : Int) (nope : Int) (s : Asm) : Asm :=
  let loop : Int := (s.labels : Int); let s := s.label
  let found : Int := (s.labels : Int); let s := s.label
  let s := tbArg base room 0 s
  let s := s.add 9 8
  let s := s.push 4617315517961601024
  let s := tbTwo base room 5 s
  let s := tbCell base room 3 s
  let s := tbTwo base room 1 s
  let s := tbSet base room 3 s
  let s := tbFirst base room  s
  let s := s.mark loop
  let s := tbGet base room 0 s
  let s := s.to 13 nope
  let s := tbPart base room 0 s
  let s := tbArg base room 0 s
  let s := tbTwo base room 11 s
  let s := s.to 12 found
  let s := tbOn base room  s
  let s := s.to 11 loop
  let s := s.mark found
  s
def tbAnswer (base room : Int) (x : Nat) (s : Asm) : Asm :=
  let s := s.push x
  let s := tbEmit base room  s
  let s := tbHalt base room  s
  s
def tbMore (base room : Int) (x : Nat) (s : Asm) : Asm :=
  let s := tbCell base room 0 s
  let s := tbRead base room  s
  let s := s.push x
  let s := tbTwo base room 1 s
  let s := tbCell base room 0 s
  let s := tbWrite base room  s
  s
def tbLay (base room : Int) (loc : Int) (k : Int) (s : Asm) : Asm :=
  let s := tbGet base room loc s
  let s := tbOf base room k s
  let s := tbWrite base room  s
  s
def tbDoGet (base room : Int)  (s : Asm) : Asm :=
  let nope : Int := (s.labels : Int); let s := s.label
  let s := tbSeek base room nope s
  let s := tbPart base room 1 s
  let s := tbEmit base room  s
  let s := s.mark nope
  let s := tbHalt base room  s
  s
def tbNode (base room : Int)  (s : Asm) : Asm :=
  let unused : Int := (s.labels : Int); let s := s.label
  let over : Int := (s.labels : Int); let s := s.label
  let some : Int := (s.labels : Int); let s := s.label
  let s := tbCell base room 1 s
  let s := tbRead base room  s
  let s := tbSet base room 2 s
  let s := tbGet base room 2 s
  let s := s.to 13 unused
  let s := tbGet base room 2 s
  let s := tbOf base room 2 s
  let s := tbRead base room  s
  let s := tbCell base room 1 s
  let s := tbWrite base room  s
  let s := s.to 11 over
  let s := s.mark unused
  let s := tbCell base room 2 s
  let s := tbRead base room  s
  let s := s.push (floatOfInt .f64 (room))
  let s := tbTwo base room 8 s
  let s := s.to 12 some
  let s := s.add 19 1
  let s := s.mark some
  let s := tbCell base room 2 s
  let s := tbRead base room  s
  let s := s.push 4607182418800017408
  let s := tbTwo base room 1 s
  let s := tbSet base room 2 s
  let s := tbGet base room 2 s
  let s := tbCell base room 2 s
  let s := tbWrite base room  s
  let s := s.mark over
  s
def tbDoPut (base room : Int)  (s : Asm) : Asm :=
  let nope : Int := (s.labels : Int); let s := s.label
  let s := tbSeek base room nope s
  let s := tbArg base room 1 s
  let s := tbLay base room 0 1 s
  let s := tbAnswer base room 0 s
  let s := s.mark nope
  let s := tbNode base room  s
  let s := tbArg base room 0 s
  let s := tbLay base room 2 0 s
  let s := tbArg base room 1 s
  let s := tbLay base room 2 1 s
  let s := tbGet base room 3 s
  let s := tbRead base room  s
  let s := tbLay base room 2 2 s
  let s := tbGet base room 2 s
  let s := tbGet base room 3 s
  let s := tbWrite base room  s
  let s := tbMore base room 4607182418800017408 s
  let s := tbAnswer base room 4607182418800017408 s
  s
def tbDoDel (base room : Int)  (s : Asm) : Asm :=
  let nope : Int := (s.labels : Int); let s := s.label
  let front : Int := (s.labels : Int); let s := s.label
  let over : Int := (s.labels : Int); let s := s.label
  let s := tbSeek base room nope s
  let s := tbPart base room 2 s
  let s := tbGet base room 1 s
  let s := s.to 13 front
  let s := tbLay base room 1 2 s
  let s := s.to 11 over
  let s := s.mark front
  let s := tbGet base room 3 s
  let s := tbWrite base room  s
  let s := s.mark over
  let s := tbCell base room 1 s
  let s := tbRead base room  s
  let s := tbLay base room 0 2 s
  let s := tbGet base room 0 s
  let s := tbCell base room 1 s
  let s := tbWrite base room  s
  let s := tbMore base room 13830554455654793216 s
  let s := tbAnswer base room 4607182418800017408 s
  let s := s.mark nope
  let s := tbAnswer base room 0 s
  s
def tbDoLen (base room : Int)  (s : Asm) : Asm :=
  let s := tbCell base room 0 s
  let s := tbRead base room  s
  let s := tbEmit base room  s
  let s := tbHalt base room  s
  s
set_option maxRecDepth 100000 in
set_option maxHeartbeats 2000000 in
theorem tbGet_any {G : Nat → Prop} {w0 w : World} {m p : Nat} {base room : Int} {s : Asm} {n : Nat} (h : Mk G w0 w m p base room s n) (k : Int) (hn : n < 239) :
    Calls Tryz.prog 146 #[.pointer (some ⟨m, 0, none⟩), .int .i64 k] w fun e w' => e = .returned (.tuple #[]) ∧ Mk G w0 w' m p base room (tbGet base room k s) (n + 1) := by
  have c0 := h.c0
  have c1 := h.c1
  have c2 := h.c2
  have H0 := Lib.hid h
  have HN := Lib.hid hn
  clear h hn
  go_enter Tryz.func146, Tryz.ntmps146
  go_wp2_with fail
  refine (mk_add H0.out _ _ (by have := HN.out; omega)).mono ?_
  clear c0 c1 c2
  rintro e w1 ⟨rfl, h⟩
  have c0 := h.c0
  have c1 := h.c1
  have c2 := h.c2
  have H1 := Lib.hid h
  clear h
  go_wp2_with fail
  go_end0
  exact ⟨rfl, H1.out⟩
set_option maxRecDepth 100000 in
set_option maxHeartbeats 2000000 in
theorem tbSet_any {G : Nat → Prop} {w0 w : World} {m p : Nat} {base room : Int} {s : Asm} {n : Nat} (h : Mk G w0 w m p base room s n) (k : Int) (hn : n < 239) :
    Calls Tryz.prog 151 #[.pointer (some ⟨m, 0, none⟩), .int .i64 k] w fun e w' => e = .returned (.tuple #[]) ∧ Mk G w0 w' m p base room (tbSet base room k s) (n + 1) := by
  have c0 := h.c0
  have c1 := h.c1
  have c2 := h.c2
  have H0 := Lib.hid h
  have HN := Lib.hid hn
  clear h hn
  go_enter Tryz.func151, Tryz.ntmps151
  go_wp2_with fail
  refine (mk_add H0.out _ _ (by have := HN.out; omega)).mono ?_
  clear c0 c1 c2
  rintro e w1 ⟨rfl, h⟩
  have c0 := h.c0
  have c1 := h.c1
  have c2 := h.c2
  have H1 := Lib.hid h
  clear h
  go_wp2_with fail
  go_end0
  exact ⟨rfl, H1.out⟩
set_option maxRecDepth 100000 in
set_option maxHeartbeats 2000000 in
theorem tbArg_any {G : Nat → Prop} {w0 w : World} {m p : Nat} {base room : Int} {s : Asm} {n : Nat} (h : Mk G w0 w m p base room s n) (k : Int) (hn : n < 239) :
    Calls Tryz.prog 142 #[.pointer (some ⟨m, 0, none⟩), .int .i64 k] w fun e w' => e = .returned (.tuple #[]) ∧ Mk G w0 w' m p base room (tbArg base room k s) (n + 1) := by
  have c0 := h.c0
  have c1 := h.c1
  have c2 := h.c2
  have H0 := Lib.hid h
  have HN := Lib.hid hn
  clear h hn
  go_enter Tryz.func142, Tryz.ntmps142
  go_wp2_with fail
  refine (mk_add H0.out _ _ (by have := HN.out; omega)).mono ?_
  clear c0 c1 c2
  rintro e w1 ⟨rfl, h⟩
  have c0 := h.c0
  have c1 := h.c1
  have c2 := h.c2
  have H1 := Lib.hid h
  clear h
  go_wp2_with fail
  go_end0
  exact ⟨rfl, H1.out⟩
set_option maxRecDepth 100000 in
set_option maxHeartbeats 2000000 in
theorem tbTwo_any {G : Nat → Prop} {w0 w : World} {m p : Nat} {base room : Int} {s : Asm} {n : Nat} (h : Mk G w0 w m p base room s n) (k : Int) (hn : n < 239) :
    Calls Tryz.prog 168 #[.pointer (some ⟨m, 0, none⟩), .int .i64 k] w fun e w' => e = .returned (.tuple #[]) ∧ Mk G w0 w' m p base room (tbTwo base room k s) (n + 1) := by
  have c0 := h.c0
  have c1 := h.c1
  have c2 := h.c2
  have H0 := Lib.hid h
  have HN := Lib.hid hn
  clear h hn
  go_enter Tryz.func168, Tryz.ntmps168
  go_wp2_with fail
  refine (mk_add H0.out _ _ (by have := HN.out; omega)).mono ?_
  clear c0 c1 c2
  rintro e w1 ⟨rfl, h⟩
  have c0 := h.c0
  have c1 := h.c1
  have c2 := h.c2
  have H1 := Lib.hid h
  clear h
  go_wp2_with fail
  go_end0
  exact ⟨rfl, H1.out⟩
set_option maxRecDepth 100000 in
set_option maxHeartbeats 2000000 in
theorem tbRead_any {G : Nat → Prop} {w0 w : World} {m p : Nat} {base room : Int} {s : Asm} {n : Nat} (h : Mk G w0 w m p base room s n) (hn : n < 239) :
    Calls Tryz.prog 147 #[.pointer (some ⟨m, 0, none⟩)] w fun e w' => e = .returned (.tuple #[]) ∧ Mk G w0 w' m p base room (tbRead base room  s) (n + 1) := by
  have c0 := h.c0
  have c1 := h.c1
  have c2 := h.c2
  have H0 := Lib.hid h
  have HN := Lib.hid hn
  clear h hn
  go_enter Tryz.func147, Tryz.ntmps147
  go_wp2_with fail
  refine (mk_add H0.out _ _ (by have := HN.out; omega)).mono ?_
  clear c0 c1 c2
  rintro e w1 ⟨rfl, h⟩
  have c0 := h.c0
  have c1 := h.c1
  have c2 := h.c2
  have H1 := Lib.hid h
  clear h
  go_wp2_with fail
  go_end0
  exact ⟨rfl, H1.out⟩
set_option maxRecDepth 100000 in
set_option maxHeartbeats 2000000 in
theorem tbWrite_any {G : Nat → Prop} {w0 w : World} {m p : Nat} {base room : Int} {s : Asm} {n : Nat} (h : Mk G w0 w m p base room s n) (hn : n < 239) :
    Calls Tryz.prog 148 #[.pointer (some ⟨m, 0, none⟩)] w fun e w' => e = .returned (.tuple #[]) ∧ Mk G w0 w' m p base room (tbWrite base room  s) (n + 1) := by
  have c0 := h.c0
  have c1 := h.c1
  have c2 := h.c2
  have H0 := Lib.hid h
  have HN := Lib.hid hn
  clear h hn
  go_enter Tryz.func148, Tryz.ntmps148
  go_wp2_with fail
  refine (mk_add H0.out _ _ (by have := HN.out; omega)).mono ?_
  clear c0 c1 c2
  rintro e w1 ⟨rfl, h⟩
  have c0 := h.c0
  have c1 := h.c1
  have c2 := h.c2
  have H1 := Lib.hid h
  clear h
  go_wp2_with fail
  go_end0
  exact ⟨rfl, H1.out⟩
set_option maxRecDepth 100000 in
set_option maxHeartbeats 2000000 in
theorem tbEmit_any {G : Nat → Prop} {w0 w : World} {m p : Nat} {base room : Int} {s : Asm} {n : Nat} (h : Mk G w0 w m p base room s n) (hn : n < 239) :
    Calls Tryz.prog 140 #[.pointer (some ⟨m, 0, none⟩)] w fun e w' => e = .returned (.tuple #[]) ∧ Mk G w0 w' m p base room (tbEmit base room  s) (n + 1) := by
  have c0 := h.c0
  have c1 := h.c1
  have c2 := h.c2
  have H0 := Lib.hid h
  have HN := Lib.hid hn
  clear h hn
  go_enter Tryz.func140, Tryz.ntmps140
  go_wp2_with fail
  refine (mk_add H0.out _ _ (by have := HN.out; omega)).mono ?_
  clear c0 c1 c2
  rintro e w1 ⟨rfl, h⟩
  have c0 := h.c0
  have c1 := h.c1
  have c2 := h.c2
  have H1 := Lib.hid h
  clear h
  go_wp2_with fail
  go_end0
  exact ⟨rfl, H1.out⟩
set_option maxRecDepth 100000 in
set_option maxHeartbeats 2000000 in
theorem tbHalt_any {G : Nat → Prop} {w0 w : World} {m p : Nat} {base room : Int} {s : Asm} {n : Nat} (h : Mk G w0 w m p base room s n) (hn : n < 239) :
    Calls Tryz.prog 141 #[.pointer (some ⟨m, 0, none⟩)] w fun e w' => e = .returned (.tuple #[]) ∧ Mk G w0 w' m p base room (tbHalt base room  s) (n + 1) := by
  have c0 := h.c0
  have c1 := h.c1
  have c2 := h.c2
  have H0 := Lib.hid h
  have HN := Lib.hid hn
  clear h hn
  go_enter Tryz.func141, Tryz.ntmps141
  go_wp2_with fail
  refine (mk_add H0.out _ _ (by have := HN.out; omega)).mono ?_
  clear c0 c1 c2
  rintro e w1 ⟨rfl, h⟩
  have c0 := h.c0
  have c1 := h.c1
  have c2 := h.c2
  have H1 := Lib.hid h
  clear h
  go_wp2_with fail
  go_end0
  exact ⟨rfl, H1.out⟩
set_option maxRecDepth 100000 in
set_option maxHeartbeats 2000000 in
theorem tbCell_any {G : Nat → Prop} {w0 w : World} {m p : Nat} {base room : Int} {s : Asm} {n : Nat} (h : Mk G w0 w m p base room s n) (k : Int) (hn : n < 239) :
    Calls Tryz.prog 150 #[.pointer (some ⟨m, 0, none⟩), .int .i64 k] w fun e w' => e = .returned (.tuple #[]) ∧ Mk G w0 w' m p base room (tbCell base room k s) (n + 1) := by
  have c0 := h.c0
  have c1 := h.c1
  have c2 := h.c2
  have H0 := Lib.hid h
  have HN := Lib.hid hn
  clear h hn
  go_enter Tryz.func150, Tryz.ntmps150
  go_upto_region 0 with fail
  go_still_tail 11, (by kernel_rfl)
  go_wp2_with fail
  refine (mk_push (H0.out.quiet (Chg.refl _ _).drew) _ (by have := HN.out; omega)).mono ?_
  clear c0 c1 c2
  rintro e w1 ⟨rfl, h⟩
  have c0 := h.c0
  have c1 := h.c1
  have c2 := h.c2
  have H1 := Lib.hid h
  clear h
  go_wp2_with fail
  go_end0
  exact ⟨rfl, H1.out⟩
set_option maxRecDepth 100000 in
set_option maxHeartbeats 2000000 in
theorem tbOf_any {G : Nat → Prop} {w0 w : World} {m p : Nat} {base room : Int} {s : Asm} {n : Nat} (h : Mk G w0 w m p base room s n) (k : Int) (hn : n < 236) :
    Calls Tryz.prog 169 #[.pointer (some ⟨m, 0, none⟩), .int .i64 k] w fun e w' => e = .returned (.tuple #[]) ∧ Mk G w0 w' m p base room (tbOf base room k s) (n + 4) := by
  have c0 := h.c0
  have c1 := h.c1
  have c2 := h.c2
  have H0 := Lib.hid h
  have HN := Lib.hid hn
  clear h hn
  go_enter Tryz.func169, Tryz.ntmps169
  go_wp2_with fail
  refine (mk_push H0.out 4613937818241073152 (by have := HN.out; omega)).mono ?_
  clear c0 c1 c2
  rintro e w1 ⟨rfl, h⟩
  have c0 := h.c0
  have c1 := h.c1
  have c2 := h.c2
  have H1 := Lib.hid h
  clear h
  go_wp2_with fail
  refine (tbTwo_any H1.out _ (by have := HN.out; omega)).mono ?_
  clear c0 c1 c2
  rintro e w2 ⟨rfl, h⟩
  have c0 := h.c0
  have c1 := h.c1
  have c2 := h.c2
  have H2 := Lib.hid h
  clear h
  go_upto_region 2 with fail
  go_still_tail 13, (by kernel_rfl)
  go_wp2_with fail
  refine (mk_push (H2.out.quiet (Chg.refl _ _).drew) _ (by have := HN.out; omega)).mono ?_
  clear c0 c1 c2
  rintro e w3 ⟨rfl, h⟩
  have c0 := h.c0
  have c1 := h.c1
  have c2 := h.c2
  have H3 := Lib.hid h
  clear h
  go_wp2_with fail
  refine (tbTwo_any H3.out _ (by have := HN.out; omega)).mono ?_
  clear c0 c1 c2
  rintro e w4 ⟨rfl, h⟩
  have c0 := h.c0
  have c1 := h.c1
  have c2 := h.c2
  have H4 := Lib.hid h
  clear h
  go_wp2_with fail
  go_end0
  exact ⟨rfl, H4.out⟩
set_option maxRecDepth 100000 in
set_option maxHeartbeats 2000000 in
theorem tbPart_any {G : Nat → Prop} {w0 w : World} {m p : Nat} {base room : Int} {s : Asm} {n : Nat} (h : Mk G w0 w m p base room s n) (k : Int) (hn : n < 234) :
    Calls Tryz.prog 139 #[.pointer (some ⟨m, 0, none⟩), .int .i64 k] w fun e w' => e = .returned (.tuple #[]) ∧ Mk G w0 w' m p base room (tbPart base room k s) (n + 6) := by
  have c0 := h.c0
  have c1 := h.c1
  have c2 := h.c2
  have H0 := Lib.hid h
  have HN := Lib.hid hn
  clear h hn
  go_enter Tryz.func139, Tryz.ntmps139
  go_wp2_with fail
  refine (tbGet_any H0.out _ (by have := HN.out; omega)).mono ?_
  clear c0 c1 c2
  rintro e w1 ⟨rfl, h⟩
  have c0 := h.c0
  have c1 := h.c1
  have c2 := h.c2
  have H1 := Lib.hid h
  clear h
  go_wp2_with fail
  refine (tbOf_any H1.out _ (by have := HN.out; omega)).mono ?_
  clear c0 c1 c2
  rintro e w2 ⟨rfl, h⟩
  have c0 := h.c0
  have c1 := h.c1
  have c2 := h.c2
  have H2 := Lib.hid h
  clear h
  go_wp2_with fail
  refine (tbRead_any H2.out (by have := HN.out; omega)).mono ?_
  clear c0 c1 c2
  rintro e w3 ⟨rfl, h⟩
  have c0 := h.c0
  have c1 := h.c1
  have c2 := h.c2
  have H3 := Lib.hid h
  clear h
  go_wp2_with fail
  go_end0
  exact ⟨rfl, H3.out⟩
set_option maxRecDepth 100000 in
set_option maxHeartbeats 2000000 in
theorem tbFirst_any {G : Nat → Prop} {w0 w : World} {m p : Nat} {base room : Int} {s : Asm} {n : Nat} (h : Mk G w0 w m p base room s n) (hn : n < 235) :
    Calls Tryz.prog 152 #[.pointer (some ⟨m, 0, none⟩)] w fun e w' => e = .returned (.tuple #[]) ∧ Mk G w0 w' m p base room (tbFirst base room  s) (n + 5) := by
  have c0 := h.c0
  have c1 := h.c1
  have c2 := h.c2
  have H0 := Lib.hid h
  have HN := Lib.hid hn
  clear h hn
  go_enter Tryz.func152, Tryz.ntmps152
  go_wp2_with fail
  refine (mk_push H0.out 0 (by have := HN.out; omega)).mono ?_
  clear c0 c1 c2
  rintro e w1 ⟨rfl, h⟩
  have c0 := h.c0
  have c1 := h.c1
  have c2 := h.c2
  have H1 := Lib.hid h
  clear h
  go_wp2_with fail
  refine (tbSet_any H1.out _ (by have := HN.out; omega)).mono ?_
  clear c0 c1 c2
  rintro e w2 ⟨rfl, h⟩
  have c0 := h.c0
  have c1 := h.c1
  have c2 := h.c2
  have H2 := Lib.hid h
  clear h
  go_wp2_with fail
  refine (tbGet_any H2.out _ (by have := HN.out; omega)).mono ?_
  clear c0 c1 c2
  rintro e w3 ⟨rfl, h⟩
  have c0 := h.c0
  have c1 := h.c1
  have c2 := h.c2
  have H3 := Lib.hid h
  clear h
  go_wp2_with fail
  refine (tbRead_any H3.out (by have := HN.out; omega)).mono ?_
  clear c0 c1 c2
  rintro e w4 ⟨rfl, h⟩
  have c0 := h.c0
  have c1 := h.c1
  have c2 := h.c2
  have H4 := Lib.hid h
  clear h
  go_wp2_with fail
  refine (tbSet_any H4.out _ (by have := HN.out; omega)).mono ?_
  clear c0 c1 c2
  rintro e w5 ⟨rfl, h⟩
  have c0 := h.c0
  have c1 := h.c1
  have c2 := h.c2
  have H5 := Lib.hid h
  clear h
  go_wp2_with fail
  go_end0
  exact ⟨rfl, H5.out⟩
set_option maxRecDepth 100000 in
set_option maxHeartbeats 2000000 in
theorem tbOn_any {G : Nat → Prop} {w0 w : World} {m p : Nat} {base room : Int} {s : Asm} {n : Nat} (h : Mk G w0 w m p base room s n) (hn : n < 231) :
    Calls Tryz.prog 153 #[.pointer (some ⟨m, 0, none⟩)] w fun e w' => e = .returned (.tuple #[]) ∧ Mk G w0 w' m p base room (tbOn base room  s) (n + 9) := by
  have c0 := h.c0
  have c1 := h.c1
  have c2 := h.c2
  have H0 := Lib.hid h
  have HN := Lib.hid hn
  clear h hn
  go_enter Tryz.func153, Tryz.ntmps153
  go_wp2_with fail
  refine (tbGet_any H0.out _ (by have := HN.out; omega)).mono ?_
  clear c0 c1 c2
  rintro e w1 ⟨rfl, h⟩
  have c0 := h.c0
  have c1 := h.c1
  have c2 := h.c2
  have H1 := Lib.hid h
  clear h
  go_wp2_with fail
  refine (tbSet_any H1.out _ (by have := HN.out; omega)).mono ?_
  clear c0 c1 c2
  rintro e w2 ⟨rfl, h⟩
  have c0 := h.c0
  have c1 := h.c1
  have c2 := h.c2
  have H2 := Lib.hid h
  clear h
  go_wp2_with fail
  refine (tbPart_any H2.out _ (by have := HN.out; omega)).mono ?_
  clear c0 c1 c2
  rintro e w3 ⟨rfl, h⟩
  have c0 := h.c0
  have c1 := h.c1
  have c2 := h.c2
  have H3 := Lib.hid h
  clear h
  go_wp2_with fail
  refine (tbSet_any H3.out _ (by have := HN.out; omega)).mono ?_
  clear c0 c1 c2
  rintro e w4 ⟨rfl, h⟩
  have c0 := h.c0
  have c1 := h.c1
  have c2 := h.c2
  have H4 := Lib.hid h
  clear h
  go_wp2_with fail
  go_end0
  exact ⟨rfl, H4.out⟩
set_option maxRecDepth 100000 in
set_option maxHeartbeats 2000000 in
theorem tbSeek_any {G : Nat → Prop} {w0 w : World} {m p : Nat} {base room : Int} {s : Asm} {n : Nat} (h : Mk G w0 w m p base room s n) (nope : Int) (hn : n < 203) :
    Calls Tryz.prog 138 #[.pointer (some ⟨m, 0, none⟩), .int .i64 nope] w fun e w' => e = .returned (.tuple #[]) ∧ Mk G w0 w' m p base room (tbSeek base room nope s) (n + 37) := by
  have c0 := h.c0
  have c1 := h.c1
  have c2 := h.c2
  have H0 := Lib.hid h
  have HN := Lib.hid hn
  clear h hn
  go_enter Tryz.func138, Tryz.ntmps138
  go_upto_region 0 with fail
  go_cut [4, 5] (fun v0 v1 wx => v0 = .int .i64 ((s).labels : Int) ∧ v1 = .int .i64 ((s.label).labels : Int) ∧ Mk G w0 wx m p base room s.label.label (n + 2))
  case first =>
    have HL := Lib.hid (fun w' (h : Chg w w' Nothing) => H0.out.quiet h)
    go_region_law (first | (go_simp; go_at_call 70; refine (mk_label (by first | exact h1 | exact h1.quiet (Chg.refl _ _).drew) (by have := HN.out; omega)).mono ?_; rintro e x2 ⟨rfl, h2⟩; have d2 := h2.c0) | (go_simp; go_at_call 70; refine (mk_label (HL.out _ (by first | exact (Chg.refl _ _).drew | exact Chg.refl _ _)) (by have := HN.out; omega)).mono ?_; rintro e x1 ⟨rfl, h1⟩; have d1 := h1.c0))
    all_goals
      go_wp2_with fail
      go_meet
      exact ⟨rfl, rfl, h2⟩
  obtain ⟨rfl, rfl, h⟩ := hcut
  clear c0 c1 c2
  have c0 := h.c0
  have c1 := h.c1
  have c2 := h.c2
  have H1 := Lib.hid h
  clear h
  go_wp2_with fail
  refine (tbArg_any H1.out _ (by have := HN.out; omega)).mono ?_
  clear c0 c1 c2
  rintro e w2 ⟨rfl, h⟩
  have c0 := h.c0
  have c1 := h.c1
  have c2 := h.c2
  have H2 := Lib.hid h
  clear h
  go_wp2_with fail
  refine (mk_add H2.out _ _ (by have := HN.out; omega)).mono ?_
  clear c0 c1 c2
  rintro e w3 ⟨rfl, h⟩
  have c0 := h.c0
  have c1 := h.c1
  have c2 := h.c2
  have H3 := Lib.hid h
  clear h
  go_wp2_with fail
  refine (mk_push H3.out 4617315517961601024 (by have := HN.out; omega)).mono ?_
  clear c0 c1 c2
  rintro e w4 ⟨rfl, h⟩
  have c0 := h.c0
  have c1 := h.c1
  have c2 := h.c2
  have H4 := Lib.hid h
  clear h
  go_wp2_with fail
  refine (tbTwo_any H4.out _ (by have := HN.out; omega)).mono ?_
  clear c0 c1 c2
  rintro e w5 ⟨rfl, h⟩
  have c0 := h.c0
  have c1 := h.c1
  have c2 := h.c2
  have H5 := Lib.hid h
  clear h
  go_wp2_with fail
  refine (tbCell_any H5.out _ (by have := HN.out; omega)).mono ?_
  clear c0 c1 c2
  rintro e w6 ⟨rfl, h⟩
  have c0 := h.c0
  have c1 := h.c1
  have c2 := h.c2
  have H6 := Lib.hid h
  clear h
  go_wp2_with fail
  refine (tbTwo_any H6.out _ (by have := HN.out; omega)).mono ?_
  clear c0 c1 c2
  rintro e w7 ⟨rfl, h⟩
  have c0 := h.c0
  have c1 := h.c1
  have c2 := h.c2
  have H7 := Lib.hid h
  clear h
  go_wp2_with fail
  refine (tbSet_any H7.out _ (by have := HN.out; omega)).mono ?_
  clear c0 c1 c2
  rintro e w8 ⟨rfl, h⟩
  have c0 := h.c0
  have c1 := h.c1
  have c2 := h.c2
  have H8 := Lib.hid h
  clear h
  go_wp2_with fail
  refine (tbFirst_any H8.out (by have := HN.out; omega)).mono ?_
  clear c0 c1 c2
  rintro e w9 ⟨rfl, h⟩
  have c0 := h.c0
  have c1 := h.c1
  have c2 := h.c2
  have H9 := Lib.hid h
  clear h
  go_wp2_with fail
  refine (mk_mark H9.out _ (by have := HN.out; omega)).mono ?_
  clear c0 c1 c2
  rintro e w10 ⟨rfl, h⟩
  have c0 := h.c0
  have c1 := h.c1
  have c2 := h.c2
  have H10 := Lib.hid h
  clear h
  go_wp2_with fail
  refine (tbGet_any H10.out _ (by have := HN.out; omega)).mono ?_
  clear c0 c1 c2
  rintro e w11 ⟨rfl, h⟩
  have c0 := h.c0
  have c1 := h.c1
  have c2 := h.c2
  have H11 := Lib.hid h
  clear h
  go_wp2_with fail
  refine (mk_to H11.out _ _ (by have := HN.out; omega)).mono ?_
  clear c0 c1 c2
  rintro e w12 ⟨rfl, h⟩
  have c0 := h.c0
  have c1 := h.c1
  have c2 := h.c2
  have H12 := Lib.hid h
  clear h
  go_wp2_with fail
  refine (tbPart_any H12.out _ (by have := HN.out; omega)).mono ?_
  clear c0 c1 c2
  rintro e w13 ⟨rfl, h⟩
  have c0 := h.c0
  have c1 := h.c1
  have c2 := h.c2
  have H13 := Lib.hid h
  clear h
  go_wp2_with fail
  refine (tbArg_any H13.out _ (by have := HN.out; omega)).mono ?_
  clear c0 c1 c2
  rintro e w14 ⟨rfl, h⟩
  have c0 := h.c0
  have c1 := h.c1
  have c2 := h.c2
  have H14 := Lib.hid h
  clear h
  go_wp2_with fail
  refine (tbTwo_any H14.out _ (by have := HN.out; omega)).mono ?_
  clear c0 c1 c2
  rintro e w15 ⟨rfl, h⟩
  have c0 := h.c0
  have c1 := h.c1
  have c2 := h.c2
  have H15 := Lib.hid h
  clear h
  go_wp2_with fail
  refine (mk_to H15.out _ _ (by have := HN.out; omega)).mono ?_
  clear c0 c1 c2
  rintro e w16 ⟨rfl, h⟩
  have c0 := h.c0
  have c1 := h.c1
  have c2 := h.c2
  have H16 := Lib.hid h
  clear h
  go_wp2_with fail
  refine (tbOn_any H16.out (by have := HN.out; omega)).mono ?_
  clear c0 c1 c2
  rintro e w17 ⟨rfl, h⟩
  have c0 := h.c0
  have c1 := h.c1
  have c2 := h.c2
  have H17 := Lib.hid h
  clear h
  go_wp2_with fail
  refine (mk_to H17.out _ _ (by have := HN.out; omega)).mono ?_
  clear c0 c1 c2
  rintro e w18 ⟨rfl, h⟩
  have c0 := h.c0
  have c1 := h.c1
  have c2 := h.c2
  have H18 := Lib.hid h
  clear h
  go_wp2_with fail
  refine (mk_mark H18.out _ (by have := HN.out; omega)).mono ?_
  clear c0 c1 c2
  rintro e w19 ⟨rfl, h⟩
  have c0 := h.c0
  have c1 := h.c1
  have c2 := h.c2
  have H19 := Lib.hid h
  clear h
  go_wp2_with fail
  go_end0
  exact ⟨rfl, H19.out⟩
set_option maxRecDepth 100000 in
set_option maxHeartbeats 2000000 in
theorem tbAnswer_any {G : Nat → Prop} {w0 w : World} {m p : Nat} {base room : Int} {s : Asm} {n : Nat} (h : Mk G w0 w m p base room s n) (x : Nat) (hn : n < 237) :
    Calls Tryz.prog 144 #[.pointer (some ⟨m, 0, none⟩), fl x] w fun e w' => e = .returned (.tuple #[]) ∧ Mk G w0 w' m p base room (tbAnswer base room x s) (n + 3) := by
  have c0 := h.c0
  have c1 := h.c1
  have c2 := h.c2
  have H0 := Lib.hid h
  have HN := Lib.hid hn
  clear h hn
  go_enter Tryz.func144, Tryz.ntmps144
  go_wp2_with fail
  refine (mk_push H0.out x (by have := HN.out; omega)).mono ?_
  clear c0 c1 c2
  rintro e w1 ⟨rfl, h⟩
  have c0 := h.c0
  have c1 := h.c1
  have c2 := h.c2
  have H1 := Lib.hid h
  clear h
  go_wp2_with fail
  refine (tbEmit_any H1.out (by have := HN.out; omega)).mono ?_
  clear c0 c1 c2
  rintro e w2 ⟨rfl, h⟩
  have c0 := h.c0
  have c1 := h.c1
  have c2 := h.c2
  have H2 := Lib.hid h
  clear h
  go_wp2_with fail
  refine (tbHalt_any H2.out (by have := HN.out; omega)).mono ?_
  clear c0 c1 c2
  rintro e w3 ⟨rfl, h⟩
  have c0 := h.c0
  have c1 := h.c1
  have c2 := h.c2
  have H3 := Lib.hid h
  clear h
  go_wp2_with fail
  go_end0
  exact ⟨rfl, H3.out⟩
set_option maxRecDepth 100000 in
set_option maxHeartbeats 2000000 in
theorem tbMore_any {G : Nat → Prop} {w0 w : World} {m p : Nat} {base room : Int} {s : Asm} {n : Nat} (h : Mk G w0 w m p base room s n) (x : Nat) (hn : n < 234) :
    Calls Tryz.prog 149 #[.pointer (some ⟨m, 0, none⟩), fl x] w fun e w' => e = .returned (.tuple #[]) ∧ Mk G w0 w' m p base room (tbMore base room x s) (n + 6) := by
  have c0 := h.c0
  have c1 := h.c1
  have c2 := h.c2
  have H0 := Lib.hid h
  have HN := Lib.hid hn
  clear h hn
  go_enter Tryz.func149, Tryz.ntmps149
  go_wp2_with fail
  refine (tbCell_any H0.out _ (by have := HN.out; omega)).mono ?_
  clear c0 c1 c2
  rintro e w1 ⟨rfl, h⟩
  have c0 := h.c0
  have c1 := h.c1
  have c2 := h.c2
  have H1 := Lib.hid h
  clear h
  go_wp2_with fail
  refine (tbRead_any H1.out (by have := HN.out; omega)).mono ?_
  clear c0 c1 c2
  rintro e w2 ⟨rfl, h⟩
  have c0 := h.c0
  have c1 := h.c1
  have c2 := h.c2
  have H2 := Lib.hid h
  clear h
  go_wp2_with fail
  refine (mk_push H2.out x (by have := HN.out; omega)).mono ?_
  clear c0 c1 c2
  rintro e w3 ⟨rfl, h⟩
  have c0 := h.c0
  have c1 := h.c1
  have c2 := h.c2
  have H3 := Lib.hid h
  clear h
  go_wp2_with fail
  refine (tbTwo_any H3.out _ (by have := HN.out; omega)).mono ?_
  clear c0 c1 c2
  rintro e w4 ⟨rfl, h⟩
  have c0 := h.c0
  have c1 := h.c1
  have c2 := h.c2
  have H4 := Lib.hid h
  clear h
  go_wp2_with fail
  refine (tbCell_any H4.out _ (by have := HN.out; omega)).mono ?_
  clear c0 c1 c2
  rintro e w5 ⟨rfl, h⟩
  have c0 := h.c0
  have c1 := h.c1
  have c2 := h.c2
  have H5 := Lib.hid h
  clear h
  go_wp2_with fail
  refine (tbWrite_any H5.out (by have := HN.out; omega)).mono ?_
  clear c0 c1 c2
  rintro e w6 ⟨rfl, h⟩
  have c0 := h.c0
  have c1 := h.c1
  have c2 := h.c2
  have H6 := Lib.hid h
  clear h
  go_wp2_with fail
  go_end0
  exact ⟨rfl, H6.out⟩
set_option maxRecDepth 100000 in
set_option maxHeartbeats 2000000 in
theorem tbLay_any {G : Nat → Prop} {w0 w : World} {m p : Nat} {base room : Int} {s : Asm} {n : Nat} (h : Mk G w0 w m p base room s n) (loc : Int) (k : Int) (hn : n < 234) :
    Calls Tryz.prog 143 #[.pointer (some ⟨m, 0, none⟩), .int .i64 loc, .int .i64 k] w fun e w' => e = .returned (.tuple #[]) ∧ Mk G w0 w' m p base room (tbLay base room loc k s) (n + 6) := by
  have c0 := h.c0
  have c1 := h.c1
  have c2 := h.c2
  have H0 := Lib.hid h
  have HN := Lib.hid hn
  clear h hn
  go_enter Tryz.func143, Tryz.ntmps143
  go_wp2_with fail
  refine (tbGet_any H0.out _ (by have := HN.out; omega)).mono ?_
  clear c0 c1 c2
  rintro e w1 ⟨rfl, h⟩
  have c0 := h.c0
  have c1 := h.c1
  have c2 := h.c2
  have H1 := Lib.hid h
  clear h
  go_wp2_with fail
  refine (tbOf_any H1.out _ (by have := HN.out; omega)).mono ?_
  clear c0 c1 c2
  rintro e w2 ⟨rfl, h⟩
  have c0 := h.c0
  have c1 := h.c1
  have c2 := h.c2
  have H2 := Lib.hid h
  clear h
  go_wp2_with fail
  refine (tbWrite_any H2.out (by have := HN.out; omega)).mono ?_
  clear c0 c1 c2
  rintro e w3 ⟨rfl, h⟩
  have c0 := h.c0
  have c1 := h.c1
  have c2 := h.c2
  have H3 := Lib.hid h
  clear h
  go_wp2_with fail
  go_end0
  exact ⟨rfl, H3.out⟩
set_option maxRecDepth 100000 in
set_option maxHeartbeats 2000000 in
theorem tbDoGet_any {G : Nat → Prop} {w0 w : World} {m p : Nat} {base room : Int} {s : Asm} {n : Nat} (h : Mk G w0 w m p base room s n) (hn : n < 193) :
    Calls Tryz.prog 105 #[.pointer (some ⟨m, 0, none⟩)] w fun e w' => e = .returned (.tuple #[]) ∧ Mk G w0 w' m p base room (tbDoGet base room  s) (n + 47) := by
  have c0 := h.c0
  have c1 := h.c1
  have c2 := h.c2
  have H0 := Lib.hid h
  have HN := Lib.hid hn
  clear h hn
  go_enter Tryz.func105, Tryz.ntmps105
  go_wp2_with fail
  refine (mk_label H0.out (by have := HN.out; omega)).mono ?_
  clear c0 c1 c2
  rintro e w1 ⟨rfl, h⟩
  have c0 := h.c0
  have c1 := h.c1
  have c2 := h.c2
  have H1 := Lib.hid h
  clear h
  go_wp2_with fail
  refine (tbSeek_any H1.out _ (by have := HN.out; omega)).mono ?_
  clear c0 c1 c2
  rintro e w2 ⟨rfl, h⟩
  have c0 := h.c0
  have c1 := h.c1
  have c2 := h.c2
  have H2 := Lib.hid h
  clear h
  go_wp2_with fail
  refine (tbPart_any H2.out _ (by have := HN.out; omega)).mono ?_
  clear c0 c1 c2
  rintro e w3 ⟨rfl, h⟩
  have c0 := h.c0
  have c1 := h.c1
  have c2 := h.c2
  have H3 := Lib.hid h
  clear h
  go_wp2_with fail
  refine (tbEmit_any H3.out (by have := HN.out; omega)).mono ?_
  clear c0 c1 c2
  rintro e w4 ⟨rfl, h⟩
  have c0 := h.c0
  have c1 := h.c1
  have c2 := h.c2
  have H4 := Lib.hid h
  clear h
  go_wp2_with fail
  refine (mk_mark H4.out _ (by have := HN.out; omega)).mono ?_
  clear c0 c1 c2
  rintro e w5 ⟨rfl, h⟩
  have c0 := h.c0
  have c1 := h.c1
  have c2 := h.c2
  have H5 := Lib.hid h
  clear h
  go_wp2_with fail
  refine (tbHalt_any H5.out (by have := HN.out; omega)).mono ?_
  clear c0 c1 c2
  rintro e w6 ⟨rfl, h⟩
  have c0 := h.c0
  have c1 := h.c1
  have c2 := h.c2
  have H6 := Lib.hid h
  clear h
  go_wp2_with fail
  go_end0
  exact ⟨rfl, H6.out⟩
set_option maxRecDepth 100000 in
set_option maxHeartbeats 2000000 in
theorem tbNode_any {G : Nat → Prop} {w0 w : World} {m p : Nat} {base room : Int} {s : Asm} {n : Nat} (h : Mk G w0 w m p base room s n) (hn : n < 206) :
    Calls Tryz.prog 145 #[.pointer (some ⟨m, 0, none⟩)] w fun e w' => e = .returned (.tuple #[]) ∧ Mk G w0 w' m p base room (tbNode base room  s) (n + 34) := by
  have c0 := h.c0
  have c1 := h.c1
  have c2 := h.c2
  have H0 := Lib.hid h
  have HN := Lib.hid hn
  clear h hn
  go_enter Tryz.func145, Tryz.ntmps145
  go_upto_region 0 with fail
  go_cut [2, 3, 4] (fun v0 v1 v2 wx => v0 = .int .i64 ((s).labels : Int) ∧ v1 = .int .i64 ((s.label).labels : Int) ∧ v2 = .int .i64 ((s.label.label).labels : Int) ∧ Mk G w0 wx m p base room s.label.label.label (n + 3))
  case first =>
    have HL := Lib.hid (fun w' (h : Chg w w' Nothing) => H0.out.quiet h)
    go_region_law (first | (go_simp; go_at_call 70; refine (mk_label (by first | exact h2 | exact h2.quiet (Chg.refl _ _).drew) (by have := HN.out; omega)).mono ?_; rintro e x3 ⟨rfl, h3⟩; have d3 := h3.c0) | (go_simp; go_at_call 70; refine (mk_label (by first | exact h1 | exact h1.quiet (Chg.refl _ _).drew) (by have := HN.out; omega)).mono ?_; rintro e x2 ⟨rfl, h2⟩; have d2 := h2.c0) | (go_simp; go_at_call 70; refine (mk_label (HL.out _ (by first | exact (Chg.refl _ _).drew | exact Chg.refl _ _)) (by have := HN.out; omega)).mono ?_; rintro e x1 ⟨rfl, h1⟩; have d1 := h1.c0))
    all_goals
      go_wp2_with fail
      go_meet
      exact ⟨rfl, rfl, rfl, h3⟩
  obtain ⟨rfl, rfl, rfl, h⟩ := hcut
  clear c0 c1 c2
  have c0 := h.c0
  have c1 := h.c1
  have c2 := h.c2
  have H1 := Lib.hid h
  clear h
  go_wp2_with fail
  refine (tbCell_any H1.out _ (by have := HN.out; omega)).mono ?_
  clear c0 c1 c2
  rintro e w2 ⟨rfl, h⟩
  have c0 := h.c0
  have c1 := h.c1
  have c2 := h.c2
  have H2 := Lib.hid h
  clear h
  go_wp2_with fail
  refine (tbRead_any H2.out (by have := HN.out; omega)).mono ?_
  clear c0 c1 c2
  rintro e w3 ⟨rfl, h⟩
  have c0 := h.c0
  have c1 := h.c1
  have c2 := h.c2
  have H3 := Lib.hid h
  clear h
  go_wp2_with fail
  refine (tbSet_any H3.out _ (by have := HN.out; omega)).mono ?_
  clear c0 c1 c2
  rintro e w4 ⟨rfl, h⟩
  have c0 := h.c0
  have c1 := h.c1
  have c2 := h.c2
  have H4 := Lib.hid h
  clear h
  go_wp2_with fail
  refine (tbGet_any H4.out _ (by have := HN.out; omega)).mono ?_
  clear c0 c1 c2
  rintro e w5 ⟨rfl, h⟩
  have c0 := h.c0
  have c1 := h.c1
  have c2 := h.c2
  have H5 := Lib.hid h
  clear h
  go_wp2_with fail
  refine (mk_to H5.out _ _ (by have := HN.out; omega)).mono ?_
  clear c0 c1 c2
  rintro e w6 ⟨rfl, h⟩
  have c0 := h.c0
  have c1 := h.c1
  have c2 := h.c2
  have H6 := Lib.hid h
  clear h
  go_wp2_with fail
  refine (tbGet_any H6.out _ (by have := HN.out; omega)).mono ?_
  clear c0 c1 c2
  rintro e w7 ⟨rfl, h⟩
  have c0 := h.c0
  have c1 := h.c1
  have c2 := h.c2
  have H7 := Lib.hid h
  clear h
  go_wp2_with fail
  refine (tbOf_any H7.out _ (by have := HN.out; omega)).mono ?_
  clear c0 c1 c2
  rintro e w8 ⟨rfl, h⟩
  have c0 := h.c0
  have c1 := h.c1
  have c2 := h.c2
  have H8 := Lib.hid h
  clear h
  go_wp2_with fail
  refine (tbRead_any H8.out (by have := HN.out; omega)).mono ?_
  clear c0 c1 c2
  rintro e w9 ⟨rfl, h⟩
  have c0 := h.c0
  have c1 := h.c1
  have c2 := h.c2
  have H9 := Lib.hid h
  clear h
  go_wp2_with fail
  refine (tbCell_any H9.out _ (by have := HN.out; omega)).mono ?_
  clear c0 c1 c2
  rintro e w10 ⟨rfl, h⟩
  have c0 := h.c0
  have c1 := h.c1
  have c2 := h.c2
  have H10 := Lib.hid h
  clear h
  go_wp2_with fail
  refine (tbWrite_any H10.out (by have := HN.out; omega)).mono ?_
  clear c0 c1 c2
  rintro e w11 ⟨rfl, h⟩
  have c0 := h.c0
  have c1 := h.c1
  have c2 := h.c2
  have H11 := Lib.hid h
  clear h
  go_wp2_with fail
  refine (mk_to H11.out _ _ (by have := HN.out; omega)).mono ?_
  clear c0 c1 c2
  rintro e w12 ⟨rfl, h⟩
  have c0 := h.c0
  have c1 := h.c1
  have c2 := h.c2
  have H12 := Lib.hid h
  clear h
  go_wp2_with fail
  refine (mk_mark H12.out _ (by have := HN.out; omega)).mono ?_
  clear c0 c1 c2
  rintro e w13 ⟨rfl, h⟩
  have c0 := h.c0
  have c1 := h.c1
  have c2 := h.c2
  have H13 := Lib.hid h
  clear h
  go_wp2_with fail
  refine (tbCell_any H13.out _ (by have := HN.out; omega)).mono ?_
  clear c0 c1 c2
  rintro e w14 ⟨rfl, h⟩
  have c0 := h.c0
  have c1 := h.c1
  have c2 := h.c2
  have H14 := Lib.hid h
  clear h
  go_wp2_with fail
  refine (tbRead_any H14.out (by have := HN.out; omega)).mono ?_
  clear c0 c1 c2
  rintro e w15 ⟨rfl, h⟩
  have c0 := h.c0
  have c1 := h.c1
  have c2 := h.c2
  have H15 := Lib.hid h
  clear h
  go_upto_region 15 with fail
  go_still_tail 9, (by kernel_rfl)
  go_wp2_with fail
  refine (mk_push (H15.out.quiet (Chg.refl _ _).drew) _ (by have := HN.out; omega)).mono ?_
  clear c0 c1 c2
  rintro e w16 ⟨rfl, h⟩
  have c0 := h.c0
  have c1 := h.c1
  have c2 := h.c2
  have H16 := Lib.hid h
  clear h
  go_wp2_with fail
  refine (tbTwo_any H16.out _ (by have := HN.out; omega)).mono ?_
  clear c0 c1 c2
  rintro e w17 ⟨rfl, h⟩
  have c0 := h.c0
  have c1 := h.c1
  have c2 := h.c2
  have H17 := Lib.hid h
  clear h
  go_wp2_with fail
  refine (mk_to H17.out _ _ (by have := HN.out; omega)).mono ?_
  clear c0 c1 c2
  rintro e w18 ⟨rfl, h⟩
  have c0 := h.c0
  have c1 := h.c1
  have c2 := h.c2
  have H18 := Lib.hid h
  clear h
  go_wp2_with fail
  refine (mk_add H18.out _ _ (by have := HN.out; omega)).mono ?_
  clear c0 c1 c2
  rintro e w19 ⟨rfl, h⟩
  have c0 := h.c0
  have c1 := h.c1
  have c2 := h.c2
  have H19 := Lib.hid h
  clear h
  go_wp2_with fail
  refine (mk_mark H19.out _ (by have := HN.out; omega)).mono ?_
  clear c0 c1 c2
  rintro e w20 ⟨rfl, h⟩
  have c0 := h.c0
  have c1 := h.c1
  have c2 := h.c2
  have H20 := Lib.hid h
  clear h
  go_wp2_with fail
  refine (tbCell_any H20.out _ (by have := HN.out; omega)).mono ?_
  clear c0 c1 c2
  rintro e w21 ⟨rfl, h⟩
  have c0 := h.c0
  have c1 := h.c1
  have c2 := h.c2
  have H21 := Lib.hid h
  clear h
  go_wp2_with fail
  refine (tbRead_any H21.out (by have := HN.out; omega)).mono ?_
  clear c0 c1 c2
  rintro e w22 ⟨rfl, h⟩
  have c0 := h.c0
  have c1 := h.c1
  have c2 := h.c2
  have H22 := Lib.hid h
  clear h
  go_wp2_with fail
  refine (mk_push H22.out 4607182418800017408 (by have := HN.out; omega)).mono ?_
  clear c0 c1 c2
  rintro e w23 ⟨rfl, h⟩
  have c0 := h.c0
  have c1 := h.c1
  have c2 := h.c2
  have H23 := Lib.hid h
  clear h
  go_wp2_with fail
  refine (tbTwo_any H23.out _ (by have := HN.out; omega)).mono ?_
  clear c0 c1 c2
  rintro e w24 ⟨rfl, h⟩
  have c0 := h.c0
  have c1 := h.c1
  have c2 := h.c2
  have H24 := Lib.hid h
  clear h
  go_wp2_with fail
  refine (tbSet_any H24.out _ (by have := HN.out; omega)).mono ?_
  clear c0 c1 c2
  rintro e w25 ⟨rfl, h⟩
  have c0 := h.c0
  have c1 := h.c1
  have c2 := h.c2
  have H25 := Lib.hid h
  clear h
  go_wp2_with fail
  refine (tbGet_any H25.out _ (by have := HN.out; omega)).mono ?_
  clear c0 c1 c2
  rintro e w26 ⟨rfl, h⟩
  have c0 := h.c0
  have c1 := h.c1
  have c2 := h.c2
  have H26 := Lib.hid h
  clear h
  go_wp2_with fail
  refine (tbCell_any H26.out _ (by have := HN.out; omega)).mono ?_
  clear c0 c1 c2
  rintro e w27 ⟨rfl, h⟩
  have c0 := h.c0
  have c1 := h.c1
  have c2 := h.c2
  have H27 := Lib.hid h
  clear h
  go_wp2_with fail
  refine (tbWrite_any H27.out (by have := HN.out; omega)).mono ?_
  clear c0 c1 c2
  rintro e w28 ⟨rfl, h⟩
  have c0 := h.c0
  have c1 := h.c1
  have c2 := h.c2
  have H28 := Lib.hid h
  clear h
  go_wp2_with fail
  refine (mk_mark H28.out _ (by have := HN.out; omega)).mono ?_
  clear c0 c1 c2
  rintro e w29 ⟨rfl, h⟩
  have c0 := h.c0
  have c1 := h.c1
  have c2 := h.c2
  have H29 := Lib.hid h
  clear h
  go_wp2_with fail
  go_end0
  exact ⟨rfl, H29.out⟩
set_option maxRecDepth 100000 in
set_option maxHeartbeats 2000000 in
theorem tbDoPut_any {G : Nat → Prop} {w0 w : World} {m p : Nat} {base room : Int} {s : Asm} {n : Nat} (h : Mk G w0 w m p base room s n) (hn : n < 123) :
    Calls Tryz.prog 106 #[.pointer (some ⟨m, 0, none⟩)] w fun e w' => e = .returned (.tuple #[]) ∧ Mk G w0 w' m p base room (tbDoPut base room  s) (n + 117) := by
  have c0 := h.c0
  have c1 := h.c1
  have c2 := h.c2
  have H0 := Lib.hid h
  have HN := Lib.hid hn
  clear h hn
  go_enter Tryz.func106, Tryz.ntmps106
  go_wp2_with fail
  refine (mk_label H0.out (by have := HN.out; omega)).mono ?_
  clear c0 c1 c2
  rintro e w1 ⟨rfl, h⟩
  have c0 := h.c0
  have c1 := h.c1
  have c2 := h.c2
  have H1 := Lib.hid h
  clear h
  go_wp2_with fail
  refine (tbSeek_any H1.out _ (by have := HN.out; omega)).mono ?_
  clear c0 c1 c2
  rintro e w2 ⟨rfl, h⟩
  have c0 := h.c0
  have c1 := h.c1
  have c2 := h.c2
  have H2 := Lib.hid h
  clear h
  go_wp2_with fail
  refine (tbArg_any H2.out _ (by have := HN.out; omega)).mono ?_
  clear c0 c1 c2
  rintro e w3 ⟨rfl, h⟩
  have c0 := h.c0
  have c1 := h.c1
  have c2 := h.c2
  have H3 := Lib.hid h
  clear h
  go_wp2_with fail
  refine (tbLay_any H3.out _ _ (by have := HN.out; omega)).mono ?_
  clear c0 c1 c2
  rintro e w4 ⟨rfl, h⟩
  have c0 := h.c0
  have c1 := h.c1
  have c2 := h.c2
  have H4 := Lib.hid h
  clear h
  go_wp2_with fail
  refine (tbAnswer_any H4.out _ (by have := HN.out; omega)).mono ?_
  clear c0 c1 c2
  rintro e w5 ⟨rfl, h⟩
  have c0 := h.c0
  have c1 := h.c1
  have c2 := h.c2
  have H5 := Lib.hid h
  clear h
  go_wp2_with fail
  refine (mk_mark H5.out _ (by have := HN.out; omega)).mono ?_
  clear c0 c1 c2
  rintro e w6 ⟨rfl, h⟩
  have c0 := h.c0
  have c1 := h.c1
  have c2 := h.c2
  have H6 := Lib.hid h
  clear h
  go_wp2_with fail
  refine (tbNode_any H6.out (by have := HN.out; omega)).mono ?_
  clear c0 c1 c2
  rintro e w7 ⟨rfl, h⟩
  have c0 := h.c0
  have c1 := h.c1
  have c2 := h.c2
  have H7 := Lib.hid h
  clear h
  go_wp2_with fail
  refine (tbArg_any H7.out _ (by have := HN.out; omega)).mono ?_
  clear c0 c1 c2
  rintro e w8 ⟨rfl, h⟩
  have c0 := h.c0
  have c1 := h.c1
  have c2 := h.c2
  have H8 := Lib.hid h
  clear h
  go_wp2_with fail
  refine (tbLay_any H8.out _ _ (by have := HN.out; omega)).mono ?_
  clear c0 c1 c2
  rintro e w9 ⟨rfl, h⟩
  have c0 := h.c0
  have c1 := h.c1
  have c2 := h.c2
  have H9 := Lib.hid h
  clear h
  go_wp2_with fail
  refine (tbArg_any H9.out _ (by have := HN.out; omega)).mono ?_
  clear c0 c1 c2
  rintro e w10 ⟨rfl, h⟩
  have c0 := h.c0
  have c1 := h.c1
  have c2 := h.c2
  have H10 := Lib.hid h
  clear h
  go_wp2_with fail
  refine (tbLay_any H10.out _ _ (by have := HN.out; omega)).mono ?_
  clear c0 c1 c2
  rintro e w11 ⟨rfl, h⟩
  have c0 := h.c0
  have c1 := h.c1
  have c2 := h.c2
  have H11 := Lib.hid h
  clear h
  go_wp2_with fail
  refine (tbGet_any H11.out _ (by have := HN.out; omega)).mono ?_
  clear c0 c1 c2
  rintro e w12 ⟨rfl, h⟩
  have c0 := h.c0
  have c1 := h.c1
  have c2 := h.c2
  have H12 := Lib.hid h
  clear h
  go_wp2_with fail
  refine (tbRead_any H12.out (by have := HN.out; omega)).mono ?_
  clear c0 c1 c2
  rintro e w13 ⟨rfl, h⟩
  have c0 := h.c0
  have c1 := h.c1
  have c2 := h.c2
  have H13 := Lib.hid h
  clear h
  go_wp2_with fail
  refine (tbLay_any H13.out _ _ (by have := HN.out; omega)).mono ?_
  clear c0 c1 c2
  rintro e w14 ⟨rfl, h⟩
  have c0 := h.c0
  have c1 := h.c1
  have c2 := h.c2
  have H14 := Lib.hid h
  clear h
  go_wp2_with fail
  refine (tbGet_any H14.out _ (by have := HN.out; omega)).mono ?_
  clear c0 c1 c2
  rintro e w15 ⟨rfl, h⟩
  have c0 := h.c0
  have c1 := h.c1
  have c2 := h.c2
  have H15 := Lib.hid h
  clear h
  go_wp2_with fail
  refine (tbGet_any H15.out _ (by have := HN.out; omega)).mono ?_
  clear c0 c1 c2
  rintro e w16 ⟨rfl, h⟩
  have c0 := h.c0
  have c1 := h.c1
  have c2 := h.c2
  have H16 := Lib.hid h
  clear h
  go_wp2_with fail
  refine (tbWrite_any H16.out (by have := HN.out; omega)).mono ?_
  clear c0 c1 c2
  rintro e w17 ⟨rfl, h⟩
  have c0 := h.c0
  have c1 := h.c1
  have c2 := h.c2
  have H17 := Lib.hid h
  clear h
  go_wp2_with fail
  refine (tbMore_any H17.out _ (by have := HN.out; omega)).mono ?_
  clear c0 c1 c2
  rintro e w18 ⟨rfl, h⟩
  have c0 := h.c0
  have c1 := h.c1
  have c2 := h.c2
  have H18 := Lib.hid h
  clear h
  go_wp2_with fail
  refine (tbAnswer_any H18.out _ (by have := HN.out; omega)).mono ?_
  clear c0 c1 c2
  rintro e w19 ⟨rfl, h⟩
  have c0 := h.c0
  have c1 := h.c1
  have c2 := h.c2
  have H19 := Lib.hid h
  clear h
  go_wp2_with fail
  go_end0
  exact ⟨rfl, H19.out⟩
set_option maxRecDepth 100000 in
set_option maxHeartbeats 2000000 in
theorem tbDoDel_any {G : Nat → Prop} {w0 w : World} {m p : Nat} {base room : Int} {s : Asm} {n : Nat} (h : Mk G w0 w m p base room s n) (hn : n < 157) :
    Calls Tryz.prog 107 #[.pointer (some ⟨m, 0, none⟩)] w fun e w' => e = .returned (.tuple #[]) ∧ Mk G w0 w' m p base room (tbDoDel base room  s) (n + 83) := by
  have c0 := h.c0
  have c1 := h.c1
  have c2 := h.c2
  have H0 := Lib.hid h
  have HN := Lib.hid hn
  clear h hn
  go_enter Tryz.func107, Tryz.ntmps107
  go_upto_region 0 with fail
  go_cut [2, 3, 4] (fun v0 v1 v2 wx => v0 = .int .i64 ((s).labels : Int) ∧ v1 = .int .i64 ((s.label).labels : Int) ∧ v2 = .int .i64 ((s.label.label).labels : Int) ∧ Mk G w0 wx m p base room s.label.label.label (n + 3))
  case first =>
    have HL := Lib.hid (fun w' (h : Chg w w' Nothing) => H0.out.quiet h)
    go_region_law (first | (go_simp; go_at_call 70; refine (mk_label (by first | exact h2 | exact h2.quiet (Chg.refl _ _).drew) (by have := HN.out; omega)).mono ?_; rintro e x3 ⟨rfl, h3⟩; have d3 := h3.c0) | (go_simp; go_at_call 70; refine (mk_label (by first | exact h1 | exact h1.quiet (Chg.refl _ _).drew) (by have := HN.out; omega)).mono ?_; rintro e x2 ⟨rfl, h2⟩; have d2 := h2.c0) | (go_simp; go_at_call 70; refine (mk_label (HL.out _ (by first | exact (Chg.refl _ _).drew | exact Chg.refl _ _)) (by have := HN.out; omega)).mono ?_; rintro e x1 ⟨rfl, h1⟩; have d1 := h1.c0))
    all_goals
      go_wp2_with fail
      go_meet
      exact ⟨rfl, rfl, rfl, h3⟩
  obtain ⟨rfl, rfl, rfl, h⟩ := hcut
  clear c0 c1 c2
  have c0 := h.c0
  have c1 := h.c1
  have c2 := h.c2
  have H1 := Lib.hid h
  clear h
  go_wp2_with fail
  refine (tbSeek_any H1.out _ (by have := HN.out; omega)).mono ?_
  clear c0 c1 c2
  rintro e w2 ⟨rfl, h⟩
  have c0 := h.c0
  have c1 := h.c1
  have c2 := h.c2
  have H2 := Lib.hid h
  clear h
  go_wp2_with fail
  refine (tbPart_any H2.out _ (by have := HN.out; omega)).mono ?_
  clear c0 c1 c2
  rintro e w3 ⟨rfl, h⟩
  have c0 := h.c0
  have c1 := h.c1
  have c2 := h.c2
  have H3 := Lib.hid h
  clear h
  go_wp2_with fail
  refine (tbGet_any H3.out _ (by have := HN.out; omega)).mono ?_
  clear c0 c1 c2
  rintro e w4 ⟨rfl, h⟩
  have c0 := h.c0
  have c1 := h.c1
  have c2 := h.c2
  have H4 := Lib.hid h
  clear h
  go_wp2_with fail
  refine (mk_to H4.out _ _ (by have := HN.out; omega)).mono ?_
  clear c0 c1 c2
  rintro e w5 ⟨rfl, h⟩
  have c0 := h.c0
  have c1 := h.c1
  have c2 := h.c2
  have H5 := Lib.hid h
  clear h
  go_wp2_with fail
  refine (tbLay_any H5.out _ _ (by have := HN.out; omega)).mono ?_
  clear c0 c1 c2
  rintro e w6 ⟨rfl, h⟩
  have c0 := h.c0
  have c1 := h.c1
  have c2 := h.c2
  have H6 := Lib.hid h
  clear h
  go_wp2_with fail
  refine (mk_to H6.out _ _ (by have := HN.out; omega)).mono ?_
  clear c0 c1 c2
  rintro e w7 ⟨rfl, h⟩
  have c0 := h.c0
  have c1 := h.c1
  have c2 := h.c2
  have H7 := Lib.hid h
  clear h
  go_wp2_with fail
  refine (mk_mark H7.out _ (by have := HN.out; omega)).mono ?_
  clear c0 c1 c2
  rintro e w8 ⟨rfl, h⟩
  have c0 := h.c0
  have c1 := h.c1
  have c2 := h.c2
  have H8 := Lib.hid h
  clear h
  go_wp2_with fail
  refine (tbGet_any H8.out _ (by have := HN.out; omega)).mono ?_
  clear c0 c1 c2
  rintro e w9 ⟨rfl, h⟩
  have c0 := h.c0
  have c1 := h.c1
  have c2 := h.c2
  have H9 := Lib.hid h
  clear h
  go_wp2_with fail
  refine (tbWrite_any H9.out (by have := HN.out; omega)).mono ?_
  clear c0 c1 c2
  rintro e w10 ⟨rfl, h⟩
  have c0 := h.c0
  have c1 := h.c1
  have c2 := h.c2
  have H10 := Lib.hid h
  clear h
  go_wp2_with fail
  refine (mk_mark H10.out _ (by have := HN.out; omega)).mono ?_
  clear c0 c1 c2
  rintro e w11 ⟨rfl, h⟩
  have c0 := h.c0
  have c1 := h.c1
  have c2 := h.c2
  have H11 := Lib.hid h
  clear h
  go_wp2_with fail
  refine (tbCell_any H11.out _ (by have := HN.out; omega)).mono ?_
  clear c0 c1 c2
  rintro e w12 ⟨rfl, h⟩
  have c0 := h.c0
  have c1 := h.c1
  have c2 := h.c2
  have H12 := Lib.hid h
  clear h
  go_wp2_with fail
  refine (tbRead_any H12.out (by have := HN.out; omega)).mono ?_
  clear c0 c1 c2
  rintro e w13 ⟨rfl, h⟩
  have c0 := h.c0
  have c1 := h.c1
  have c2 := h.c2
  have H13 := Lib.hid h
  clear h
  go_wp2_with fail
  refine (tbLay_any H13.out _ _ (by have := HN.out; omega)).mono ?_
  clear c0 c1 c2
  rintro e w14 ⟨rfl, h⟩
  have c0 := h.c0
  have c1 := h.c1
  have c2 := h.c2
  have H14 := Lib.hid h
  clear h
  go_wp2_with fail
  refine (tbGet_any H14.out _ (by have := HN.out; omega)).mono ?_
  clear c0 c1 c2
  rintro e w15 ⟨rfl, h⟩
  have c0 := h.c0
  have c1 := h.c1
  have c2 := h.c2
  have H15 := Lib.hid h
  clear h
  go_wp2_with fail
  refine (tbCell_any H15.out _ (by have := HN.out; omega)).mono ?_
  clear c0 c1 c2
  rintro e w16 ⟨rfl, h⟩
  have c0 := h.c0
  have c1 := h.c1
  have c2 := h.c2
  have H16 := Lib.hid h
  clear h
  go_wp2_with fail
  refine (tbWrite_any H16.out (by have := HN.out; omega)).mono ?_
  clear c0 c1 c2
  rintro e w17 ⟨rfl, h⟩
  have c0 := h.c0
  have c1 := h.c1
  have c2 := h.c2
  have H17 := Lib.hid h
  clear h
  go_wp2_with fail
  refine (tbMore_any H17.out _ (by have := HN.out; omega)).mono ?_
  clear c0 c1 c2
  rintro e w18 ⟨rfl, h⟩
  have c0 := h.c0
  have c1 := h.c1
  have c2 := h.c2
  have H18 := Lib.hid h
  clear h
  go_wp2_with fail
  refine (tbAnswer_any H18.out _ (by have := HN.out; omega)).mono ?_
  clear c0 c1 c2
  rintro e w19 ⟨rfl, h⟩
  have c0 := h.c0
  have c1 := h.c1
  have c2 := h.c2
  have H19 := Lib.hid h
  clear h
  go_wp2_with fail
  refine (mk_mark H19.out _ (by have := HN.out; omega)).mono ?_
  clear c0 c1 c2
  rintro e w20 ⟨rfl, h⟩
  have c0 := h.c0
  have c1 := h.c1
  have c2 := h.c2
  have H20 := Lib.hid h
  clear h
  go_wp2_with fail
  refine (tbAnswer_any H20.out _ (by have := HN.out; omega)).mono ?_
  clear c0 c1 c2
  rintro e w21 ⟨rfl, h⟩
  have c0 := h.c0
  have c1 := h.c1
  have c2 := h.c2
  have H21 := Lib.hid h
  clear h
  go_wp2_with fail
  go_end0
  exact ⟨rfl, H21.out⟩
set_option maxRecDepth 100000 in
set_option maxHeartbeats 2000000 in
theorem tbDoLen_any {G : Nat → Prop} {w0 w : World} {m p : Nat} {base room : Int} {s : Asm} {n : Nat} (h : Mk G w0 w m p base room s n) (hn : n < 236) :
    Calls Tryz.prog 108 #[.pointer (some ⟨m, 0, none⟩)] w fun e w' => e = .returned (.tuple #[]) ∧ Mk G w0 w' m p base room (tbDoLen base room  s) (n + 4) := by
  have c0 := h.c0
  have c1 := h.c1
  have c2 := h.c2
  have H0 := Lib.hid h
  have HN := Lib.hid hn
  clear h hn
  go_enter Tryz.func108, Tryz.ntmps108
  go_wp2_with fail
  refine (tbCell_any H0.out _ (by have := HN.out; omega)).mono ?_
  clear c0 c1 c2
  rintro e w1 ⟨rfl, h⟩
  have c0 := h.c0
  have c1 := h.c1
  have c2 := h.c2
  have H1 := Lib.hid h
  clear h
  go_wp2_with fail
  refine (tbRead_any H1.out (by have := HN.out; omega)).mono ?_
  clear c0 c1 c2
  rintro e w2 ⟨rfl, h⟩
  have c0 := h.c0
  have c1 := h.c1
  have c2 := h.c2
  have H2 := Lib.hid h
  clear h
  go_wp2_with fail
  refine (tbEmit_any H2.out (by have := HN.out; omega)).mono ?_
  clear c0 c1 c2
  rintro e w3 ⟨rfl, h⟩
  have c0 := h.c0
  have c1 := h.c1
  have c2 := h.c2
  have H3 := Lib.hid h
  clear h
  go_wp2_with fail
  refine (tbHalt_any H3.out (by have := HN.out; omega)).mono ?_
  clear c0 c1 c2
  rintro e w4 ⟨rfl, h⟩
  have c0 := h.c0
  have c1 := h.c1
  have c2 := h.c2
  have H4 := Lib.hid h
  clear h
  go_wp2_with fail
  go_end0
  exact ⟨rfl, H4.out⟩
end Go.Proofs.YtgeapkalabijmaaGreat
