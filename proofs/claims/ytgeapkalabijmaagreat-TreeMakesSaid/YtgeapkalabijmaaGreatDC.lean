/- The parts that a tree's programs are put together of: what each adds. Printed by gen/tree2.py. -/
import Derived.Test.YtgeapkalabijmaaGreatDB
namespace Go.Proofs.YtgeapkalabijmaaGreat
open Go Go.RowKit
set_option maxRecDepth 100000
set_option maxHeartbeats 1000000
set_option linter.unusedVariables false
set_option linter.unusedSimpArgs false

def trOf (base room : Int) (x : Int) (s : Asm) : Asm :=
  let s := s.push 4613937818241073152
  let s := s.add 10 3
  let s := s.push (floatOfInt .f64 (wrap64 (wrap64 (wrap64 (base + 4) - 3) + x)))
  let s := s.add 10 1
  s
def trPart (base room : Int) (x : Int) (s : Asm) : Asm :=
  let s := s.add 7 0
  let s := trOf base room x s
  let s := s.add 16 0
  s
def trMatch (base room : Int) (x : Int) (s : Asm) : Asm :=
  let s := s.add 7 0
  let s := s.to 13 x
  let s := trPart base room 0 s
  let s := s.add 6 0
  let s := s.add 10 11
  let s := s.to 13 x
  s
def trMore (base room : Int) (x : Nat) (s : Asm) : Asm :=
  let s := s.push (floatOfInt .f64 (wrap64 (base + 3)))
  let s := s.add 16 0
  let s := s.push x
  let s := s.add 10 1
  let s := s.push (floatOfInt .f64 (wrap64 (base + 3)))
  let s := s.add 17 0
  s
def trAnswer (base room : Int) (x : Nat) (s : Asm) : Asm :=
  let s := s.push x
  let s := s.add 18 0
  let s := s.add 20 0
  s
def trFirst (base room : Int) (s : Asm) : Asm :=
  let s := s.push 0
  let s := s.add 8 1
  let s := s.push (floatOfInt .f64 (wrap64 (base + 0)))
  let s := s.add 16 0
  let s := s.add 8 0
  s
def trOn (base room : Int) (s : Asm) : Asm :=
  let s := s.add 7 0
  let s := s.add 8 1
  let s := trPart base room 2 s
  let s := s.add 8 0
  s
def trSeek (base room : Int) (s : Asm) : Asm :=
  let loop : Int := (s.labels : Int); let s := s.label
  let found : Int := (s.labels : Int); let s := s.label
  let s := trFirst base room s
  let s := s.mark loop
  let s := s.add 7 0
  let s := s.to 13 found
  let s := trPart base room 0 s
  let s := s.add 6 0
  let s := s.add 10 12
  let s := s.to 13 found
  let s := trOn base room s
  let s := s.to 11 loop
  let s := s.mark found
  s
def trLink (base room : Int) (s : Asm) : Asm :=
  let front : Int := (s.labels : Int); let s := s.label
  let over : Int := (s.labels : Int); let s := s.label
  let s := s.add 7 1
  let s := s.to 13 front
  let s := s.add 7 1
  let s := trOf base room 2 s
  let s := s.add 17 0
  let s := s.to 11 over
  let s := s.mark front
  let s := s.push (floatOfInt .f64 (wrap64 (base + 0)))
  let s := s.add 17 0
  let s := s.mark over
  s
def trNode (base room : Int) (s : Asm) : Asm :=
  let unused : Int := (s.labels : Int); let s := s.label
  let over : Int := (s.labels : Int); let s := s.label
  let full : Int := (s.labels : Int); let s := s.label
  let s := s.push (floatOfInt .f64 (wrap64 (base + 1)))
  let s := s.add 16 0
  let s := s.add 8 2
  let s := s.add 7 2
  let s := s.to 13 unused
  let s := s.add 7 2
  let s := trOf base room 2 s
  let s := s.add 16 0
  let s := s.push (floatOfInt .f64 (wrap64 (base + 1)))
  let s := s.add 17 0
  let s := s.to 11 over
  let s := s.mark full
  let s := s.add 19 1
  let s := s.mark unused
  let s := s.push (floatOfInt .f64 (wrap64 (base + 2)))
  let s := s.add 16 0
  let s := s.push (floatOfInt .f64 (room))
  let s := s.add 10 8
  let s := s.to 13 full
  let s := s.push (floatOfInt .f64 (wrap64 (base + 2)))
  let s := s.add 16 0
  let s := s.push 4607182418800017408
  let s := s.add 10 1
  let s := s.add 8 2
  let s := s.add 7 2
  let s := s.push (floatOfInt .f64 (wrap64 (base + 2)))
  let s := s.add 17 0
  let s := s.mark over
  s
def trPair (base room : Int) (s : Asm) : Asm :=
  let s := trPart base room 0 s
  let s := s.add 18 0
  let s := trPart base room 1 s
  let s := s.add 18 0
  s
def trDoGet (base room : Int) (s : Asm) : Asm :=
  let nope : Int := (s.labels : Int); let s := s.label
  let s := trSeek base room s
  let s := trMatch base room nope s
  let s := trPart base room 1 s
  let s := s.add 18 0
  let s := s.mark nope
  let s := s.add 20 0
  s
def trDoPut (base room : Int) (s : Asm) : Asm :=
  let nope : Int := (s.labels : Int); let s := s.label
  let s := trSeek base room s
  let s := trMatch base room nope s
  let s := s.add 6 1
  let s := s.add 7 0
  let s := trOf base room 1 s
  let s := s.add 17 0
  let s := trAnswer base room 0 s
  let s := s.mark nope
  let s := trNode base room s
  let s := s.add 6 0
  let s := s.add 7 2
  let s := trOf base room 0 s
  let s := s.add 17 0
  let s := s.add 6 1
  let s := s.add 7 2
  let s := trOf base room 1 s
  let s := s.add 17 0
  let s := s.add 7 0
  let s := s.add 7 2
  let s := trOf base room 2 s
  let s := s.add 17 0
  let s := s.add 7 2
  let s := trLink base room s
  let s := trMore base room 4607182418800017408 s
  let s := trAnswer base room 4607182418800017408 s
  s
def trDoDel (base room : Int) (s : Asm) : Asm :=
  let nope : Int := (s.labels : Int); let s := s.label
  let s := trSeek base room s
  let s := trMatch base room nope s
  let s := trPart base room 2 s
  let s := trLink base room s
  let s := s.push (floatOfInt .f64 (wrap64 (base + 1)))
  let s := s.add 16 0
  let s := s.add 7 0
  let s := trOf base room 2 s
  let s := s.add 17 0
  let s := s.add 7 0
  let s := s.push (floatOfInt .f64 (wrap64 (base + 1)))
  let s := s.add 17 0
  let s := trMore base room 13830554455654793216 s
  let s := trAnswer base room 4607182418800017408 s
  let s := s.mark nope
  let s := trAnswer base room 0 s
  s
def trDoLeast (base room : Int) (s : Asm) : Asm :=
  let nope : Int := (s.labels : Int); let s := s.label
  let s := trFirst base room s
  let s := s.add 7 0
  let s := s.to 13 nope
  let s := trPair base room s
  let s := s.mark nope
  let s := s.add 20 0
  s
def trDoAfter (base room : Int) (s : Asm) : Asm :=
  let loop : Int := (s.labels : Int); let s := s.label
  let found : Int := (s.labels : Int); let s := s.label
  let nope : Int := (s.labels : Int); let s := s.label
  let s := trFirst base room s
  let s := s.mark loop
  let s := s.add 7 0
  let s := s.to 13 nope
  let s := s.add 6 0
  let s := trPart base room 0 s
  let s := s.add 10 12
  let s := s.to 12 found
  let s := trOn base room s
  let s := s.to 11 loop
  let s := s.mark found
  let s := trPair base room s
  let s := s.mark nope
  let s := s.add 20 0
  s
def trDoLen (base room : Int) (s : Asm) : Asm :=
  let s := s.push (floatOfInt .f64 (wrap64 (base + 3)))
  let s := s.add 16 0
  let s := s.add 18 0
  let s := s.add 20 0
  s
def trDoAll (base room : Int) (s : Asm) : Asm :=
  let loop : Int := (s.labels : Int); let s := s.label
  let over : Int := (s.labels : Int); let s := s.label
  let s := trFirst base room s
  let s := s.mark loop
  let s := s.add 7 0
  let s := s.to 13 over
  let s := trPair base room s
  let s := trOn base room s
  let s := s.to 11 loop
  let s := s.mark over
  let s := s.add 20 0
  s
set_option maxRecDepth 100000 in
set_option maxHeartbeats 4000000 in
theorem trOf_any {G : Nat → Prop} {w0 w : World} {m p : Nat} {base room : Int} {s0 : Asm} {n b : Nat} (x : Int) (h : Mk G w0 w m p base room s0 n) (hb : w.cell? ⟨b, 0, none⟩ = some (.int .i64 x)) (hn : n + 4 < 240) :
    Calls Tryz.prog 129 #[.pointer (some ⟨m, 0, none⟩), .pointer (some ⟨b, 0, none⟩)] w fun e w' => e = .returned (.tuple #[]) ∧ Mk G w0 w' m p base room (trOf base room x s0) (n + 4) := by
  have c0 := h.c0
  have c1 := h.c1
  have c2 := h.c2
  have lm := cell_lt c0
  simp only at lm
  have lb := cell_lt hb
  simp only at lb
  have nb : ¬ b = w.heap.size := by omega
  have H0 := Lib.hid h
  have HN := Lib.hid hn
  clear h hn
  go_enter Tryz.func129, Tryz.ntmps129
  have lm1 : m < w.heap.size + 1 := by omega
  have lb1 : b < w.heap.size + 1 := by omega
  have lm2 : m < w.heap.size + 1 + 1 := by omega
  have lb2 : b < w.heap.size + 1 + 1 := by omega
  have lm3 : m < w.heap.size + 1 + 1 + 1 := by omega
  have lb3 : b < w.heap.size + 1 + 1 + 1 := by omega
  have lm4 : m < w.heap.size + 1 + 1 + 1 + 1 := by omega
  have lb4 : b < w.heap.size + 1 + 1 + 1 + 1 := by omega
  have lm5 : m < w.heap.size + 1 + 1 + 1 + 1 + 1 := by omega
  have lb5 : b < w.heap.size + 1 + 1 + 1 + 1 + 1 := by omega
  have lm6 : m < w.heap.size + 1 + 1 + 1 + 1 + 1 + 1 := by omega
  have lb6 : b < w.heap.size + 1 + 1 + 1 + 1 + 1 + 1 := by omega
  go_upto_region 0 with fail
  go_region_law (first | (go_simp; go_at_call 130; refine (trpush_lit _ _).mono ?_; rintro e x ⟨rfl, rfl⟩) | (go_simp; go_at_call 88; refine (trtwo_lit _ _).mono ?_; rintro e x ⟨rfl, rfl⟩) | (go_simp; go_at_call 71; refine (trdo_lit (H0.out.quiet (Chg.refl _ _).drew) [.cells #[fl 4613937818241073152] 61, .cells #[.int .i64 10] 3, .cells #[.int .i64 3] 3, .cells #[fl (floatOfInt .f64 (IntKind.i64.wrap (IntKind.i64.wrap (IntKind.i64.wrap (base + 4) - 3) + x)))] 61, .cells #[.int .i64 10] 3, .cells #[.int .i64 1] 3] [(.func (.func 167) #[] #[.pointer (some ⟨_ + 0, 0, none⟩)], 1, (fun base room s => s.push 4613937818241073152)), (.func (.func 166) #[] #[.pointer (some ⟨_ + 1, 0, none⟩), .pointer (some ⟨_ + 2, 0, none⟩)], 1, (fun base room s => s.add 10 3)), (.func (.func 167) #[] #[.pointer (some ⟨_ + 3, 0, none⟩)], 1, (fun _ _ s => s.push (floatOfInt .f64 (IntKind.i64.wrap (IntKind.i64.wrap (IntKind.i64.wrap (base + 4) - 3) + x))))), (.func (.func 166) #[] #[.pointer (some ⟨_ + 4, 0, none⟩), .pointer (some ⟨_ + 5, 0, none⟩)], 1, (fun base room s => s.add 10 1))] (fun F hF => ⟨trpush_ok hF 0 _ rfl, tradd_ok hF 1 _  _ rfl rfl, trpush_ok hF 3 _ rfl, tradd_ok hF 4 _  _ rfl rfl, trivial⟩) (by have := HN.out; simp only [sumD, List.foldl]; omega) (by simp)).mono ?_; rintro e y ⟨rfl, h⟩))
  all_goals
    go_wp2_with fail
    go_end0
    simp only [show ∀ z : Int, IntKind.i64.wrap z = wrap64 z from fun z => by rw [IntKind.wrap_i64, wrap64]] at h
    exact ⟨rfl, h⟩
theorem trof_ok {F : Nat → Prop} {w : World} {os : List Obj} (hF : ∀ k, F k → k < w.heap.size) (k : Nat) (x : Int) (h0 : os[k]? = some (.cells #[.int .i64 x] 3)) :
    OprOk F (allocs w os) (.func (.func 129) #[] #[.pointer (some ⟨w.heap.size + k, 0, none⟩)]) 4 (fun base room s => trOf base room x s) :=
  ok1 hF k h0 (fun _ _ => rfl) (fun F1 w1 m p base room s n b h hb hn => trOf_any x h hb hn)
set_option maxRecDepth 100000 in
set_option maxHeartbeats 4000000 in
theorem trPart_any {G : Nat → Prop} {w0 w : World} {m p : Nat} {base room : Int} {s0 : Asm} {n b : Nat} (x : Int) (h : Mk G w0 w m p base room s0 n) (hb : w.cell? ⟨b, 0, none⟩ = some (.int .i64 x)) (hn : n + 6 < 240) :
    Calls Tryz.prog 126 #[.pointer (some ⟨m, 0, none⟩), .pointer (some ⟨b, 0, none⟩)] w fun e w' => e = .returned (.tuple #[]) ∧ Mk G w0 w' m p base room (trPart base room x s0) (n + 6) := by
  have c0 := h.c0
  have c1 := h.c1
  have c2 := h.c2
  have lm := cell_lt c0
  simp only at lm
  have lb := cell_lt hb
  simp only at lb
  have nb : ¬ b = w.heap.size := by omega
  have H0 := Lib.hid h
  have HN := Lib.hid hn
  clear h hn
  go_enter Tryz.func126, Tryz.ntmps126
  have lm1 : m < w.heap.size + 1 := by omega
  have lb1 : b < w.heap.size + 1 := by omega
  have lm2 : m < w.heap.size + 1 + 1 := by omega
  have lb2 : b < w.heap.size + 1 + 1 := by omega
  have lm3 : m < w.heap.size + 1 + 1 + 1 := by omega
  have lb3 : b < w.heap.size + 1 + 1 + 1 := by omega
  have lm4 : m < w.heap.size + 1 + 1 + 1 + 1 := by omega
  have lb4 : b < w.heap.size + 1 + 1 + 1 + 1 := by omega
  have lm5 : m < w.heap.size + 1 + 1 + 1 + 1 + 1 := by omega
  have lb5 : b < w.heap.size + 1 + 1 + 1 + 1 + 1 := by omega
  go_upto_region 0 with fail
  go_region_law (first | (go_simp; go_at_call 78; refine (trget_lit _ _).mono ?_; rintro e x ⟨rfl, rfl⟩) | (go_simp; go_at_call 79; refine (trof_lit _ _).mono ?_; rintro e x ⟨rfl, rfl⟩) | (go_simp; go_at_call 75; refine (trplain_lit _ _).mono ?_; rintro e x ⟨rfl, rfl⟩) | (go_simp; go_at_call 71; refine (trdo_lit (H0.out.quiet (Chg.refl _ _).drew) [.cells #[.int .i64 7] 3, .cells #[.int .i64 0] 3, .cells #[.int .i64 x] 3, .cells #[.int .i64 16] 3, .cells #[.int .i64 0] 3] [(.func (.func 166) #[] #[.pointer (some ⟨_ + 0, 0, none⟩), .pointer (some ⟨_ + 1, 0, none⟩)], 1, (fun base room s => s.add 7 0)), (.func (.func 129) #[] #[.pointer (some ⟨_ + 2, 0, none⟩)], 4, (fun base room s => trOf base room x s)), (.func (.func 166) #[] #[.pointer (some ⟨_ + 3, 0, none⟩), .pointer (some ⟨_ + 4, 0, none⟩)], 1, (fun base room s => s.add 16 0))] (fun F hF => ⟨tradd_ok hF 0 _  _ rfl rfl, trof_ok hF 2 _ rfl, tradd_ok hF 3 _  _ rfl rfl, trivial⟩) (by have := HN.out; simp only [sumD, List.foldl]; omega) (by simp)).mono ?_; rintro e y ⟨rfl, h⟩))
  all_goals
    go_wp2_with fail
    go_end0
    exact ⟨rfl, h⟩
theorem trpart_ok {F : Nat → Prop} {w : World} {os : List Obj} (hF : ∀ k, F k → k < w.heap.size) (k : Nat) (x : Int) (h0 : os[k]? = some (.cells #[.int .i64 x] 3)) :
    OprOk F (allocs w os) (.func (.func 126) #[] #[.pointer (some ⟨w.heap.size + k, 0, none⟩)]) 6 (fun base room s => trPart base room x s) :=
  ok1 hF k h0 (fun _ _ => rfl) (fun F1 w1 m p base room s n b h hb hn => trPart_any x h hb hn)
set_option maxRecDepth 100000 in
set_option maxHeartbeats 4000000 in
theorem trMatch_any {G : Nat → Prop} {w0 w : World} {m p : Nat} {base room : Int} {s0 : Asm} {n b : Nat} (x : Int) (h : Mk G w0 w m p base room s0 n) (hb : w.cell? ⟨b, 0, none⟩ = some (.int .i64 x)) (hn : n + 11 < 240) :
    Calls Tryz.prog 125 #[.pointer (some ⟨m, 0, none⟩), .pointer (some ⟨b, 0, none⟩)] w fun e w' => e = .returned (.tuple #[]) ∧ Mk G w0 w' m p base room (trMatch base room x s0) (n + 11) := by
  have c0 := h.c0
  have c1 := h.c1
  have c2 := h.c2
  have lm := cell_lt c0
  simp only at lm
  have lb := cell_lt hb
  simp only at lb
  have nb : ¬ b = w.heap.size := by omega
  have H0 := Lib.hid h
  have HN := Lib.hid hn
  clear h hn
  go_enter Tryz.func125, Tryz.ntmps125
  have lm1 : m < w.heap.size + 1 := by omega
  have lb1 : b < w.heap.size + 1 := by omega
  have lm2 : m < w.heap.size + 1 + 1 := by omega
  have lb2 : b < w.heap.size + 1 + 1 := by omega
  have lm3 : m < w.heap.size + 1 + 1 + 1 := by omega
  have lb3 : b < w.heap.size + 1 + 1 + 1 := by omega
  have lm4 : m < w.heap.size + 1 + 1 + 1 + 1 := by omega
  have lb4 : b < w.heap.size + 1 + 1 + 1 + 1 := by omega
  have lm5 : m < w.heap.size + 1 + 1 + 1 + 1 + 1 := by omega
  have lb5 : b < w.heap.size + 1 + 1 + 1 + 1 + 1 := by omega
  have lm6 : m < w.heap.size + 1 + 1 + 1 + 1 + 1 + 1 := by omega
  have lb6 : b < w.heap.size + 1 + 1 + 1 + 1 + 1 + 1 := by omega
  have lm7 : m < w.heap.size + 1 + 1 + 1 + 1 + 1 + 1 + 1 := by omega
  have lb7 : b < w.heap.size + 1 + 1 + 1 + 1 + 1 + 1 + 1 := by omega
  have lm8 : m < w.heap.size + 1 + 1 + 1 + 1 + 1 + 1 + 1 + 1 := by omega
  have lb8 : b < w.heap.size + 1 + 1 + 1 + 1 + 1 + 1 + 1 + 1 := by omega
  have lm9 : m < w.heap.size + 1 + 1 + 1 + 1 + 1 + 1 + 1 + 1 + 1 := by omega
  have lb9 : b < w.heap.size + 1 + 1 + 1 + 1 + 1 + 1 + 1 + 1 + 1 := by omega
  have lm10 : m < w.heap.size + 1 + 1 + 1 + 1 + 1 + 1 + 1 + 1 + 1 + 1 := by omega
  have lb10 : b < w.heap.size + 1 + 1 + 1 + 1 + 1 + 1 + 1 + 1 + 1 + 1 := by omega
  have lm11 : m < w.heap.size + 1 + 1 + 1 + 1 + 1 + 1 + 1 + 1 + 1 + 1 + 1 := by omega
  have lb11 : b < w.heap.size + 1 + 1 + 1 + 1 + 1 + 1 + 1 + 1 + 1 + 1 + 1 := by omega
  go_upto_region 0 with fail
  go_region_law (first | (go_simp; go_at_call 78; refine (trget_lit _ _).mono ?_; rintro e x ⟨rfl, rfl⟩) | (go_simp; go_at_call 86; refine (trto_lit _ _ _).mono ?_; rintro e x ⟨rfl, rfl⟩) | (go_simp; go_at_call 74; refine (trpart_lit _ _).mono ?_; rintro e x ⟨rfl, rfl⟩) | (go_simp; go_at_call 77; refine (trarg_lit _ _).mono ?_; rintro e x ⟨rfl, rfl⟩) | (go_simp; go_at_call 88; refine (trtwo_lit _ _).mono ?_; rintro e x ⟨rfl, rfl⟩) | (go_simp; go_at_call 71; refine (trdo_lit (H0.out.quiet (Chg.refl _ _).drew) [.cells #[.int .i64 7] 3, .cells #[.int .i64 0] 3, .cells #[.int .i64 13] 3, .cells #[.int .i64 x] 3, .cells #[.int .i64 0] 3, .cells #[.int .i64 6] 3, .cells #[.int .i64 0] 3, .cells #[.int .i64 10] 3, .cells #[.int .i64 11] 3, .cells #[.int .i64 13] 3, .cells #[.int .i64 x] 3] [(.func (.func 166) #[] #[.pointer (some ⟨_ + 0, 0, none⟩), .pointer (some ⟨_ + 1, 0, none⟩)], 1, (fun base room s => s.add 7 0)), (.func (.func 135) #[] #[.pointer (some ⟨_ + 2, 0, none⟩), .pointer (some ⟨_ + 3, 0, none⟩)], 1, (fun base room s => s.to 13 x)), (.func (.func 126) #[] #[.pointer (some ⟨_ + 4, 0, none⟩)], 6, (fun base room s => trPart base room 0 s)), (.func (.func 166) #[] #[.pointer (some ⟨_ + 5, 0, none⟩), .pointer (some ⟨_ + 6, 0, none⟩)], 1, (fun base room s => s.add 6 0)), (.func (.func 166) #[] #[.pointer (some ⟨_ + 7, 0, none⟩), .pointer (some ⟨_ + 8, 0, none⟩)], 1, (fun base room s => s.add 10 11)), (.func (.func 135) #[] #[.pointer (some ⟨_ + 9, 0, none⟩), .pointer (some ⟨_ + 10, 0, none⟩)], 1, (fun base room s => s.to 13 x))] (fun F hF => ⟨tradd_ok hF 0 _  _ rfl rfl, trto_ok hF 2 _  _ rfl rfl, trpart_ok hF 4 _ rfl, tradd_ok hF 5 _  _ rfl rfl, tradd_ok hF 7 _  _ rfl rfl, trto_ok hF 9 _  _ rfl rfl, trivial⟩) (by have := HN.out; simp only [sumD, List.foldl]; omega) (by simp)).mono ?_; rintro e y ⟨rfl, h⟩))
  all_goals
    go_wp2_with fail
    go_end0
    exact ⟨rfl, h⟩
theorem trmatch_ok {F : Nat → Prop} {w : World} {os : List Obj} (hF : ∀ k, F k → k < w.heap.size) (k : Nat) (x : Int) (h0 : os[k]? = some (.cells #[.int .i64 x] 3)) :
    OprOk F (allocs w os) (.func (.func 125) #[] #[.pointer (some ⟨w.heap.size + k, 0, none⟩)]) 11 (fun base room s => trMatch base room x s) :=
  ok1 hF k h0 (fun _ _ => rfl) (fun F1 w1 m p base room s n b h hb hn => trMatch_any x h hb hn)
set_option maxRecDepth 100000 in
set_option maxHeartbeats 4000000 in
theorem trMore_any {G : Nat → Prop} {w0 w : World} {m p : Nat} {base room : Int} {s0 : Asm} {n b : Nat} (x : Nat) (h : Mk G w0 w m p base room s0 n) (hb : w.cell? ⟨b, 0, none⟩ = some (fl x)) (hn : n + 6 < 240) :
    Calls Tryz.prog 133 #[.pointer (some ⟨m, 0, none⟩), .pointer (some ⟨b, 0, none⟩)] w fun e w' => e = .returned (.tuple #[]) ∧ Mk G w0 w' m p base room (trMore base room x s0) (n + 6) := by
  have c0 := h.c0
  have c1 := h.c1
  have c2 := h.c2
  have lm := cell_lt c0
  simp only at lm
  have lb := cell_lt hb
  simp only at lb
  have nb : ¬ b = w.heap.size := by omega
  have H0 := Lib.hid h
  have HN := Lib.hid hn
  clear h hn
  go_enter Tryz.func133, Tryz.ntmps133
  have lm1 : m < w.heap.size + 1 := by omega
  have lb1 : b < w.heap.size + 1 := by omega
  have lm2 : m < w.heap.size + 1 + 1 := by omega
  have lb2 : b < w.heap.size + 1 + 1 := by omega
  have lm3 : m < w.heap.size + 1 + 1 + 1 := by omega
  have lb3 : b < w.heap.size + 1 + 1 + 1 := by omega
  have lm4 : m < w.heap.size + 1 + 1 + 1 + 1 := by omega
  have lb4 : b < w.heap.size + 1 + 1 + 1 + 1 := by omega
  have lm5 : m < w.heap.size + 1 + 1 + 1 + 1 + 1 := by omega
  have lb5 : b < w.heap.size + 1 + 1 + 1 + 1 + 1 := by omega
  have lm6 : m < w.heap.size + 1 + 1 + 1 + 1 + 1 + 1 := by omega
  have lb6 : b < w.heap.size + 1 + 1 + 1 + 1 + 1 + 1 := by omega
  have lm7 : m < w.heap.size + 1 + 1 + 1 + 1 + 1 + 1 + 1 := by omega
  have lb7 : b < w.heap.size + 1 + 1 + 1 + 1 + 1 + 1 + 1 := by omega
  have lm8 : m < w.heap.size + 1 + 1 + 1 + 1 + 1 + 1 + 1 + 1 := by omega
  have lb8 : b < w.heap.size + 1 + 1 + 1 + 1 + 1 + 1 + 1 + 1 := by omega
  have lm9 : m < w.heap.size + 1 + 1 + 1 + 1 + 1 + 1 + 1 + 1 + 1 := by omega
  have lb9 : b < w.heap.size + 1 + 1 + 1 + 1 + 1 + 1 + 1 + 1 + 1 := by omega
  go_upto_region 0 with fail
  go_region_law (first | (go_simp; go_at_call 84; refine (trcell_lit _ _).mono ?_; rintro e x ⟨rfl, rfl⟩) | (go_simp; go_at_call 75; refine (trplain_lit _ _).mono ?_; rintro e x ⟨rfl, rfl⟩) | (go_simp; go_at_call 130; refine (trpush_lit _ _).mono ?_; rintro e x ⟨rfl, rfl⟩) | (go_simp; go_at_call 88; refine (trtwo_lit _ _).mono ?_; rintro e x ⟨rfl, rfl⟩) | (go_simp; go_at_call 71; refine (trdo_lit (H0.out.quiet (Chg.refl _ _).drew) [.cells #[.int .i64 3] 3, .cells #[.int .i64 16] 3, .cells #[.int .i64 0] 3, .cells #[fl x] 61, .cells #[.int .i64 10] 3, .cells #[.int .i64 1] 3, .cells #[.int .i64 3] 3, .cells #[.int .i64 17] 3, .cells #[.int .i64 0] 3] [(.func (.func 134) #[] #[.pointer (some ⟨_ + 0, 0, none⟩)], 1, (fun base room s => s.push (floatOfInt .f64 (wrap64 (base + 3))))), (.func (.func 166) #[] #[.pointer (some ⟨_ + 1, 0, none⟩), .pointer (some ⟨_ + 2, 0, none⟩)], 1, (fun base room s => s.add 16 0)), (.func (.func 167) #[] #[.pointer (some ⟨_ + 3, 0, none⟩)], 1, (fun base room s => s.push x)), (.func (.func 166) #[] #[.pointer (some ⟨_ + 4, 0, none⟩), .pointer (some ⟨_ + 5, 0, none⟩)], 1, (fun base room s => s.add 10 1)), (.func (.func 134) #[] #[.pointer (some ⟨_ + 6, 0, none⟩)], 1, (fun base room s => s.push (floatOfInt .f64 (wrap64 (base + 3))))), (.func (.func 166) #[] #[.pointer (some ⟨_ + 7, 0, none⟩), .pointer (some ⟨_ + 8, 0, none⟩)], 1, (fun base room s => s.add 17 0))] (fun F hF => ⟨trcell_ok hF 0 _ rfl, tradd_ok hF 1 _  _ rfl rfl, trpush_ok hF 3 _ rfl, tradd_ok hF 4 _  _ rfl rfl, trcell_ok hF 6 _ rfl, tradd_ok hF 7 _  _ rfl rfl, trivial⟩) (by have := HN.out; simp only [sumD, List.foldl]; omega) (by simp)).mono ?_; rintro e y ⟨rfl, h⟩))
  all_goals
    go_wp2_with fail
    go_end0
    exact ⟨rfl, h⟩
theorem trmore_ok {F : Nat → Prop} {w : World} {os : List Obj} (hF : ∀ k, F k → k < w.heap.size) (k : Nat) (x : Nat) (h0 : os[k]? = some (.cells #[fl x] 61)) :
    OprOk F (allocs w os) (.func (.func 133) #[] #[.pointer (some ⟨w.heap.size + k, 0, none⟩)]) 6 (fun base room s => trMore base room x s) :=
  ok1 hF k h0 (fun _ _ => rfl) (fun F1 w1 m p base room s n b h hb hn => trMore_any x h hb hn)
set_option maxRecDepth 100000 in
set_option maxHeartbeats 4000000 in
theorem trAnswer_any {G : Nat → Prop} {w0 w : World} {m p : Nat} {base room : Int} {s0 : Asm} {n b : Nat} (x : Nat) (h : Mk G w0 w m p base room s0 n) (hb : w.cell? ⟨b, 0, none⟩ = some (fl x)) (hn : n + 3 < 240) :
    Calls Tryz.prog 131 #[.pointer (some ⟨m, 0, none⟩), .pointer (some ⟨b, 0, none⟩)] w fun e w' => e = .returned (.tuple #[]) ∧ Mk G w0 w' m p base room (trAnswer base room x s0) (n + 3) := by
  have c0 := h.c0
  have c1 := h.c1
  have c2 := h.c2
  have lm := cell_lt c0
  simp only at lm
  have lb := cell_lt hb
  simp only at lb
  have nb : ¬ b = w.heap.size := by omega
  have H0 := Lib.hid h
  have HN := Lib.hid hn
  clear h hn
  go_enter Tryz.func131, Tryz.ntmps131
  go_wp2_with fail
  refine (trpush_lit _ _).mono ?_
  rintro e x ⟨rfl, rfl⟩
  go_wp2_with fail
  refine (trplain_lit _ _).mono ?_
  rintro e x ⟨rfl, rfl⟩
  go_wp2_with fail
  refine (trplain_lit _ _).mono ?_
  rintro e x ⟨rfl, rfl⟩
  go_wp2_with fail
  refine (trdo_lit H0.out [.cells #[fl x] 61, .cells #[.int .i64 18] 3, .cells #[.int .i64 0] 3, .cells #[.int .i64 20] 3, .cells #[.int .i64 0] 3] [(.func (.func 167) #[] #[.pointer (some ⟨_ + 0, 0, none⟩)], 1, (fun base room s => s.push x)), (.func (.func 166) #[] #[.pointer (some ⟨_ + 1, 0, none⟩), .pointer (some ⟨_ + 2, 0, none⟩)], 1, (fun base room s => s.add 18 0)), (.func (.func 166) #[] #[.pointer (some ⟨_ + 3, 0, none⟩), .pointer (some ⟨_ + 4, 0, none⟩)], 1, (fun base room s => s.add 20 0))] (fun F hF => ⟨trpush_ok hF 0 _ rfl, tradd_ok hF 1 _  _ rfl rfl, tradd_ok hF 3 _  _ rfl rfl, trivial⟩) (by have := HN.out; simp only [sumD, List.foldl]; omega) (by simp)).mono ?_
  clear c0 c1 c2 lm
  rintro e w1 ⟨rfl, h'⟩
  have h : Mk G w0 w1 m p base room (((s0.push x).add 18 0).add 20 0) (n + 3) := h'
  clear h'
  have c0 := h.c0
  have c1 := h.c1
  have c2 := h.c2
  have lm := cell_lt c0
  simp only at lm
  have H1 := Lib.hid h
  clear h
  go_wp2_with fail
  go_end0
  exact ⟨rfl, H1.out⟩
theorem transwer_ok {F : Nat → Prop} {w : World} {os : List Obj} (hF : ∀ k, F k → k < w.heap.size) (k : Nat) (x : Nat) (h0 : os[k]? = some (.cells #[fl x] 61)) :
    OprOk F (allocs w os) (.func (.func 131) #[] #[.pointer (some ⟨w.heap.size + k, 0, none⟩)]) 3 (fun base room s => trAnswer base room x s) :=
  ok1 hF k h0 (fun _ _ => rfl) (fun F1 w1 m p base room s n b h hb hn => trAnswer_any x h hb hn)
set_option maxRecDepth 100000 in
set_option maxHeartbeats 4000000 in
theorem trFirst_any {G : Nat → Prop} {w0 w : World} {m p : Nat} {base room : Int} {s0 : Asm} {n : Nat} (h : Mk G w0 w m p base room s0 n) (hn : n + 5 < 240) :
    Calls Tryz.prog 85 #[.pointer (some ⟨m, 0, none⟩)] w fun e w' => e = .returned (.tuple #[]) ∧ Mk G w0 w' m p base room (trFirst base room s0) (n + 5) := by
  have c0 := h.c0
  have c1 := h.c1
  have c2 := h.c2
  have lm := cell_lt c0
  simp only at lm
  have H0 := Lib.hid h
  have HN := Lib.hid hn
  clear h hn
  go_enter Tryz.func85, Tryz.ntmps85
  go_wp2_with fail
  refine (trpush_lit _ _).mono ?_
  rintro e x ⟨rfl, rfl⟩
  go_wp2_with fail
  refine (trset_lit _ _).mono ?_
  rintro e x ⟨rfl, rfl⟩
  go_wp2_with fail
  refine (trcell_lit _ _).mono ?_
  rintro e x ⟨rfl, rfl⟩
  go_wp2_with fail
  refine (trplain_lit _ _).mono ?_
  rintro e x ⟨rfl, rfl⟩
  go_wp2_with fail
  refine (trset_lit _ _).mono ?_
  rintro e x ⟨rfl, rfl⟩
  go_wp2_with fail
  refine (trdo_lit H0.out [.cells #[fl 0] 61, .cells #[.int .i64 8] 3, .cells #[.int .i64 1] 3, .cells #[.int .i64 0] 3, .cells #[.int .i64 16] 3, .cells #[.int .i64 0] 3, .cells #[.int .i64 8] 3, .cells #[.int .i64 0] 3] [(.func (.func 167) #[] #[.pointer (some ⟨_ + 0, 0, none⟩)], 1, (fun base room s => s.push 0)), (.func (.func 166) #[] #[.pointer (some ⟨_ + 1, 0, none⟩), .pointer (some ⟨_ + 2, 0, none⟩)], 1, (fun base room s => s.add 8 1)), (.func (.func 134) #[] #[.pointer (some ⟨_ + 3, 0, none⟩)], 1, (fun base room s => s.push (floatOfInt .f64 (wrap64 (base + 0))))), (.func (.func 166) #[] #[.pointer (some ⟨_ + 4, 0, none⟩), .pointer (some ⟨_ + 5, 0, none⟩)], 1, (fun base room s => s.add 16 0)), (.func (.func 166) #[] #[.pointer (some ⟨_ + 6, 0, none⟩), .pointer (some ⟨_ + 7, 0, none⟩)], 1, (fun base room s => s.add 8 0))] (fun F hF => ⟨trpush_ok hF 0 _ rfl, tradd_ok hF 1 _  _ rfl rfl, trcell_ok hF 3 _ rfl, tradd_ok hF 4 _  _ rfl rfl, tradd_ok hF 6 _  _ rfl rfl, trivial⟩) (by have := HN.out; simp only [sumD, List.foldl]; omega) (by simp)).mono ?_
  clear c0 c1 c2 lm
  rintro e w1 ⟨rfl, h'⟩
  have h : Mk G w0 w1 m p base room (((((s0.push 0).add 8 1).push (floatOfInt .f64 (wrap64 (base + 0)))).add 16 0).add 8 0) (n + 5) := h'
  clear h'
  have c0 := h.c0
  have c1 := h.c1
  have c2 := h.c2
  have lm := cell_lt c0
  simp only at lm
  have H1 := Lib.hid h
  clear h
  go_wp2_with fail
  go_end0
  exact ⟨rfl, H1.out⟩
theorem trFirst_ok {F : Nat → Prop} {w : World} : OprOk F w (.func (.func 85) #[] #[]) 5 (fun base room s => trFirst base room s) :=
  ok0 (fun _ _ => rfl) (fun F1 w1 m p base room s n h hn => trFirst_any h hn)
set_option maxRecDepth 100000 in
set_option maxHeartbeats 4000000 in
theorem trOn_any {G : Nat → Prop} {w0 w : World} {m p : Nat} {base room : Int} {s0 : Asm} {n : Nat} (h : Mk G w0 w m p base room s0 n) (hn : n + 9 < 240) :
    Calls Tryz.prog 89 #[.pointer (some ⟨m, 0, none⟩)] w fun e w' => e = .returned (.tuple #[]) ∧ Mk G w0 w' m p base room (trOn base room s0) (n + 9) := by
  have c0 := h.c0
  have c1 := h.c1
  have c2 := h.c2
  have lm := cell_lt c0
  simp only at lm
  have H0 := Lib.hid h
  have HN := Lib.hid hn
  clear h hn
  go_enter Tryz.func89, Tryz.ntmps89
  go_wp2_with fail
  refine (trget_lit _ _).mono ?_
  rintro e x ⟨rfl, rfl⟩
  go_wp2_with fail
  refine (trset_lit _ _).mono ?_
  rintro e x ⟨rfl, rfl⟩
  go_wp2_with fail
  refine (trpart_lit _ _).mono ?_
  rintro e x ⟨rfl, rfl⟩
  go_wp2_with fail
  refine (trset_lit _ _).mono ?_
  rintro e x ⟨rfl, rfl⟩
  go_wp2_with fail
  refine (trdo_lit H0.out [.cells #[.int .i64 7] 3, .cells #[.int .i64 0] 3, .cells #[.int .i64 8] 3, .cells #[.int .i64 1] 3, .cells #[.int .i64 2] 3, .cells #[.int .i64 8] 3, .cells #[.int .i64 0] 3] [(.func (.func 166) #[] #[.pointer (some ⟨_ + 0, 0, none⟩), .pointer (some ⟨_ + 1, 0, none⟩)], 1, (fun base room s => s.add 7 0)), (.func (.func 166) #[] #[.pointer (some ⟨_ + 2, 0, none⟩), .pointer (some ⟨_ + 3, 0, none⟩)], 1, (fun base room s => s.add 8 1)), (.func (.func 126) #[] #[.pointer (some ⟨_ + 4, 0, none⟩)], 6, (fun base room s => trPart base room 2 s)), (.func (.func 166) #[] #[.pointer (some ⟨_ + 5, 0, none⟩), .pointer (some ⟨_ + 6, 0, none⟩)], 1, (fun base room s => s.add 8 0))] (fun F hF => ⟨tradd_ok hF 0 _  _ rfl rfl, tradd_ok hF 2 _  _ rfl rfl, trpart_ok hF 4 _ rfl, tradd_ok hF 5 _  _ rfl rfl, trivial⟩) (by have := HN.out; simp only [sumD, List.foldl]; omega) (by simp)).mono ?_
  clear c0 c1 c2 lm
  rintro e w1 ⟨rfl, h'⟩
  have h : Mk G w0 w1 m p base room ((trPart base room 2 ((s0.add 7 0).add 8 1)).add 8 0) (n + 9) := h'
  clear h'
  have c0 := h.c0
  have c1 := h.c1
  have c2 := h.c2
  have lm := cell_lt c0
  simp only at lm
  have H1 := Lib.hid h
  clear h
  go_wp2_with fail
  go_end0
  exact ⟨rfl, H1.out⟩
theorem trOn_ok {F : Nat → Prop} {w : World} : OprOk F w (.func (.func 89) #[] #[]) 9 (fun base room s => trOn base room s) :=
  ok0 (fun _ _ => rfl) (fun F1 w1 m p base room s n h hn => trOn_any h hn)
set_option maxRecDepth 100000 in
set_option maxHeartbeats 4000000 in
theorem trSeek_any {G : Nat → Prop} {w0 w : World} {m p : Nat} {base room : Int} {s0 : Asm} {n : Nat} (h : Mk G w0 w m p base room s0 n) (hn : n + 30 < 240) :
    Calls Tryz.prog 72 #[.pointer (some ⟨m, 0, none⟩)] w fun e w' => e = .returned (.tuple #[]) ∧ Mk G w0 w' m p base room (trSeek base room s0) (n + 30) := by
  have c0 := h.c0
  have c1 := h.c1
  have c2 := h.c2
  have lm := cell_lt c0
  simp only at lm
  have H0 := Lib.hid h
  have HN := Lib.hid hn
  clear h hn
  go_enter Tryz.func72, Tryz.ntmps72
  go_upto_region 0 with fail
  go_cut [2, 3] (fun v0 v1 wx => v0 = .int .i64 ((s0).labels : Int) ∧ v1 = .int .i64 ((s0.label).labels : Int) ∧ Mk G w0 wx m p base room s0.label.label (n + 2))
  case first =>
    have HL := Lib.hid (fun w' => H0.out.quiet (w' := w'))
    go_region_law (first | (go_simp; go_at_call 70; refine (mk_label (by first | exact h1 | exact h1.quiet (Chg.refl _ _).drew) (by have := HN.out; omega)).mono ?_; rintro e x2 ⟨rfl, h2⟩; have d2 := h2.c0) | (go_simp; go_at_call 70; refine (mk_label (HL.out _ (by first | exact (Chg.refl _ _).drew | exact Chg.refl _ _)) (by have := HN.out; omega)).mono ?_; rintro e x1 ⟨rfl, h1⟩; have d1 := h1.c0))
    all_goals
      go_wp2_with fail
      go_meet
      exact ⟨rfl, rfl, h2⟩
  obtain ⟨rfl, rfl, h⟩ := hcut
  clear c0 c1 c2 lm
  have c0 := h.c0
  have c1 := h.c1
  have c2 := h.c2
  have lm := cell_lt c0
  simp only at lm
  have H1 := Lib.hid h
  clear h
  go_wp2_with fail
  refine (trmark_lit _ _).mono ?_
  rintro e x ⟨rfl, rfl⟩
  go_wp2_with fail
  refine (trget_lit _ _).mono ?_
  rintro e x ⟨rfl, rfl⟩
  go_wp2_with fail
  refine (trto_lit _ _ _).mono ?_
  rintro e x ⟨rfl, rfl⟩
  go_wp2_with fail
  refine (trpart_lit _ _).mono ?_
  rintro e x ⟨rfl, rfl⟩
  go_wp2_with fail
  refine (trarg_lit _ _).mono ?_
  rintro e x ⟨rfl, rfl⟩
  go_wp2_with fail
  refine (trtwo_lit _ _).mono ?_
  rintro e x ⟨rfl, rfl⟩
  go_wp2_with fail
  refine (trto_lit _ _ _).mono ?_
  rintro e x ⟨rfl, rfl⟩
  go_wp2_with fail
  refine (trto_lit _ _ _).mono ?_
  rintro e x ⟨rfl, rfl⟩
  go_wp2_with fail
  refine (trmark_lit _ _).mono ?_
  rintro e x ⟨rfl, rfl⟩
  go_wp2_with fail
  refine (trdo_lit H1.out [.cells #[.int .i64 ((((s0).labels : Nat) : Int))] 3, .cells #[.int .i64 7] 3, .cells #[.int .i64 0] 3, .cells #[.int .i64 13] 3, .cells #[.int .i64 ((((s0.label).labels : Nat) : Int))] 3, .cells #[.int .i64 0] 3, .cells #[.int .i64 6] 3, .cells #[.int .i64 0] 3, .cells #[.int .i64 10] 3, .cells #[.int .i64 12] 3, .cells #[.int .i64 13] 3, .cells #[.int .i64 ((((s0.label).labels : Nat) : Int))] 3, .cells #[.int .i64 11] 3, .cells #[.int .i64 ((((s0).labels : Nat) : Int))] 3, .cells #[.int .i64 ((((s0.label).labels : Nat) : Int))] 3] [(.func (.func 85) #[] #[], 5, (fun base room s => trFirst base room s)), (.func (.func 128) #[] #[.pointer (some ⟨_ + 0, 0, none⟩)], 1, (fun base room s => s.mark ((((s0).labels : Nat) : Int)))), (.func (.func 166) #[] #[.pointer (some ⟨_ + 1, 0, none⟩), .pointer (some ⟨_ + 2, 0, none⟩)], 1, (fun base room s => s.add 7 0)), (.func (.func 135) #[] #[.pointer (some ⟨_ + 3, 0, none⟩), .pointer (some ⟨_ + 4, 0, none⟩)], 1, (fun base room s => s.to 13 ((((s0.label).labels : Nat) : Int)))), (.func (.func 126) #[] #[.pointer (some ⟨_ + 5, 0, none⟩)], 6, (fun base room s => trPart base room 0 s)), (.func (.func 166) #[] #[.pointer (some ⟨_ + 6, 0, none⟩), .pointer (some ⟨_ + 7, 0, none⟩)], 1, (fun base room s => s.add 6 0)), (.func (.func 166) #[] #[.pointer (some ⟨_ + 8, 0, none⟩), .pointer (some ⟨_ + 9, 0, none⟩)], 1, (fun base room s => s.add 10 12)), (.func (.func 135) #[] #[.pointer (some ⟨_ + 10, 0, none⟩), .pointer (some ⟨_ + 11, 0, none⟩)], 1, (fun base room s => s.to 13 ((((s0.label).labels : Nat) : Int)))), (.func (.func 89) #[] #[], 9, (fun base room s => trOn base room s)), (.func (.func 135) #[] #[.pointer (some ⟨_ + 12, 0, none⟩), .pointer (some ⟨_ + 13, 0, none⟩)], 1, (fun base room s => s.to 11 ((((s0).labels : Nat) : Int)))), (.func (.func 128) #[] #[.pointer (some ⟨_ + 14, 0, none⟩)], 1, (fun base room s => s.mark ((((s0.label).labels : Nat) : Int))))] (fun F hF => ⟨trFirst_ok, trmark_ok hF 0 _ rfl, tradd_ok hF 1 _  _ rfl rfl, trto_ok hF 3 _  _ rfl rfl, trpart_ok hF 5 _ rfl, tradd_ok hF 6 _  _ rfl rfl, tradd_ok hF 8 _  _ rfl rfl, trto_ok hF 10 _  _ rfl rfl, trOn_ok, trto_ok hF 12 _  _ rfl rfl, trmark_ok hF 14 _ rfl, trivial⟩) (by have := HN.out; simp only [sumD, List.foldl]; omega) (by simp)).mono ?_
  clear c0 c1 c2 lm
  rintro e w2 ⟨rfl, h'⟩
  have h : Mk G w0 w2 m p base room (((trOn base room ((((trPart base room 0 ((((trFirst base room s0.label.label).mark ((((s0).labels : Nat) : Int))).add 7 0).to 13 ((((s0.label).labels : Nat) : Int)))).add 6 0).add 10 12).to 13 ((((s0.label).labels : Nat) : Int)))).to 11 ((((s0).labels : Nat) : Int))).mark ((((s0.label).labels : Nat) : Int))) (n + 30) := h'
  clear h'
  have c0 := h.c0
  have c1 := h.c1
  have c2 := h.c2
  have lm := cell_lt c0
  simp only at lm
  have H2 := Lib.hid h
  clear h
  go_wp2_with fail
  go_end0
  exact ⟨rfl, H2.out⟩
theorem trSeek_ok {F : Nat → Prop} {w : World} : OprOk F w (.func (.func 72) #[] #[]) 30 (fun base room s => trSeek base room s) :=
  ok0 (fun _ _ => rfl) (fun F1 w1 m p base room s n h hn => trSeek_any h hn)
set_option maxRecDepth 100000 in
set_option maxHeartbeats 4000000 in
theorem trLink_any {G : Nat → Prop} {w0 w : World} {m p : Nat} {base room : Int} {s0 : Asm} {n : Nat} (h : Mk G w0 w m p base room s0 n) (hn : n + 15 < 240) :
    Calls Tryz.prog 82 #[.pointer (some ⟨m, 0, none⟩)] w fun e w' => e = .returned (.tuple #[]) ∧ Mk G w0 w' m p base room (trLink base room s0) (n + 15) := by
  have c0 := h.c0
  have c1 := h.c1
  have c2 := h.c2
  have lm := cell_lt c0
  simp only at lm
  have H0 := Lib.hid h
  have HN := Lib.hid hn
  clear h hn
  go_enter Tryz.func82, Tryz.ntmps82
  go_upto_region 0 with fail
  go_cut [2, 3] (fun v0 v1 wx => v0 = .int .i64 ((s0).labels : Int) ∧ v1 = .int .i64 ((s0.label).labels : Int) ∧ Mk G w0 wx m p base room s0.label.label (n + 2))
  case first =>
    have HL := Lib.hid (fun w' => H0.out.quiet (w' := w'))
    go_region_law (first | (go_simp; go_at_call 70; refine (mk_label (by first | exact h1 | exact h1.quiet (Chg.refl _ _).drew) (by have := HN.out; omega)).mono ?_; rintro e x2 ⟨rfl, h2⟩; have d2 := h2.c0) | (go_simp; go_at_call 70; refine (mk_label (HL.out _ (by first | exact (Chg.refl _ _).drew | exact Chg.refl _ _)) (by have := HN.out; omega)).mono ?_; rintro e x1 ⟨rfl, h1⟩; have d1 := h1.c0))
    all_goals
      go_wp2_with fail
      go_meet
      exact ⟨rfl, rfl, h2⟩
  obtain ⟨rfl, rfl, h⟩ := hcut
  clear c0 c1 c2 lm
  have c0 := h.c0
  have c1 := h.c1
  have c2 := h.c2
  have lm := cell_lt c0
  simp only at lm
  have H1 := Lib.hid h
  clear h
  go_wp2_with fail
  refine (trget_lit _ _).mono ?_
  rintro e x ⟨rfl, rfl⟩
  go_wp2_with fail
  refine (trto_lit _ _ _).mono ?_
  rintro e x ⟨rfl, rfl⟩
  go_wp2_with fail
  refine (trget_lit _ _).mono ?_
  rintro e x ⟨rfl, rfl⟩
  go_wp2_with fail
  refine (trof_lit _ _).mono ?_
  rintro e x ⟨rfl, rfl⟩
  go_wp2_with fail
  refine (trplain_lit _ _).mono ?_
  rintro e x ⟨rfl, rfl⟩
  go_wp2_with fail
  refine (trto_lit _ _ _).mono ?_
  rintro e x ⟨rfl, rfl⟩
  go_wp2_with fail
  refine (trmark_lit _ _).mono ?_
  rintro e x ⟨rfl, rfl⟩
  go_wp2_with fail
  refine (trcell_lit _ _).mono ?_
  rintro e x ⟨rfl, rfl⟩
  go_wp2_with fail
  refine (trplain_lit _ _).mono ?_
  rintro e x ⟨rfl, rfl⟩
  go_wp2_with fail
  refine (trmark_lit _ _).mono ?_
  rintro e x ⟨rfl, rfl⟩
  go_wp2_with fail
  refine (trdo_lit H1.out [.cells #[.int .i64 7] 3, .cells #[.int .i64 1] 3, .cells #[.int .i64 13] 3, .cells #[.int .i64 ((((s0).labels : Nat) : Int))] 3, .cells #[.int .i64 7] 3, .cells #[.int .i64 1] 3, .cells #[.int .i64 2] 3, .cells #[.int .i64 17] 3, .cells #[.int .i64 0] 3, .cells #[.int .i64 11] 3, .cells #[.int .i64 ((((s0.label).labels : Nat) : Int))] 3, .cells #[.int .i64 ((((s0).labels : Nat) : Int))] 3, .cells #[.int .i64 0] 3, .cells #[.int .i64 17] 3, .cells #[.int .i64 0] 3, .cells #[.int .i64 ((((s0.label).labels : Nat) : Int))] 3] [(.func (.func 166) #[] #[.pointer (some ⟨_ + 0, 0, none⟩), .pointer (some ⟨_ + 1, 0, none⟩)], 1, (fun base room s => s.add 7 1)), (.func (.func 135) #[] #[.pointer (some ⟨_ + 2, 0, none⟩), .pointer (some ⟨_ + 3, 0, none⟩)], 1, (fun base room s => s.to 13 ((((s0).labels : Nat) : Int)))), (.func (.func 166) #[] #[.pointer (some ⟨_ + 4, 0, none⟩), .pointer (some ⟨_ + 5, 0, none⟩)], 1, (fun base room s => s.add 7 1)), (.func (.func 129) #[] #[.pointer (some ⟨_ + 6, 0, none⟩)], 4, (fun base room s => trOf base room 2 s)), (.func (.func 166) #[] #[.pointer (some ⟨_ + 7, 0, none⟩), .pointer (some ⟨_ + 8, 0, none⟩)], 1, (fun base room s => s.add 17 0)), (.func (.func 135) #[] #[.pointer (some ⟨_ + 9, 0, none⟩), .pointer (some ⟨_ + 10, 0, none⟩)], 1, (fun base room s => s.to 11 ((((s0.label).labels : Nat) : Int)))), (.func (.func 128) #[] #[.pointer (some ⟨_ + 11, 0, none⟩)], 1, (fun base room s => s.mark ((((s0).labels : Nat) : Int)))), (.func (.func 134) #[] #[.pointer (some ⟨_ + 12, 0, none⟩)], 1, (fun base room s => s.push (floatOfInt .f64 (wrap64 (base + 0))))), (.func (.func 166) #[] #[.pointer (some ⟨_ + 13, 0, none⟩), .pointer (some ⟨_ + 14, 0, none⟩)], 1, (fun base room s => s.add 17 0)), (.func (.func 128) #[] #[.pointer (some ⟨_ + 15, 0, none⟩)], 1, (fun base room s => s.mark ((((s0.label).labels : Nat) : Int))))] (fun F hF => ⟨tradd_ok hF 0 _  _ rfl rfl, trto_ok hF 2 _  _ rfl rfl, tradd_ok hF 4 _  _ rfl rfl, trof_ok hF 6 _ rfl, tradd_ok hF 7 _  _ rfl rfl, trto_ok hF 9 _  _ rfl rfl, trmark_ok hF 11 _ rfl, trcell_ok hF 12 _ rfl, tradd_ok hF 13 _  _ rfl rfl, trmark_ok hF 15 _ rfl, trivial⟩) (by have := HN.out; simp only [sumD, List.foldl]; omega) (by simp)).mono ?_
  clear c0 c1 c2 lm
  rintro e w2 ⟨rfl, h'⟩
  have h : Mk G w0 w2 m p base room (((((((trOf base room 2 (((s0.label.label.add 7 1).to 13 ((((s0).labels : Nat) : Int))).add 7 1)).add 17 0).to 11 ((((s0.label).labels : Nat) : Int))).mark ((((s0).labels : Nat) : Int))).push (floatOfInt .f64 (wrap64 (base + 0)))).add 17 0).mark ((((s0.label).labels : Nat) : Int))) (n + 15) := h'
  clear h'
  have c0 := h.c0
  have c1 := h.c1
  have c2 := h.c2
  have lm := cell_lt c0
  simp only at lm
  have H2 := Lib.hid h
  clear h
  go_wp2_with fail
  go_end0
  exact ⟨rfl, H2.out⟩
theorem trLink_ok {F : Nat → Prop} {w : World} : OprOk F w (.func (.func 82) #[] #[]) 15 (fun base room s => trLink base room s) :=
  ok0 (fun _ _ => rfl) (fun F1 w1 m p base room s n h hn => trLink_any h hn)
set_option maxRecDepth 100000 in
set_option maxHeartbeats 4000000 in
theorem trNode_any {G : Nat → Prop} {w0 w : World} {m p : Nat} {base room : Int} {s0 : Asm} {n : Nat} (h : Mk G w0 w m p base room s0 n) (hn : n + 34 < 240) :
    Calls Tryz.prog 81 #[.pointer (some ⟨m, 0, none⟩)] w fun e w' => e = .returned (.tuple #[]) ∧ Mk G w0 w' m p base room (trNode base room s0) (n + 34) := by
  have c0 := h.c0
  have c1 := h.c1
  have c2 := h.c2
  have lm := cell_lt c0
  simp only at lm
  have H0 := Lib.hid h
  have HN := Lib.hid hn
  clear h hn
  go_enter Tryz.func81, Tryz.ntmps81
  go_upto_region 0 with fail
  go_cut [2, 3, 4] (fun v0 v1 v2 wx => v0 = .int .i64 ((s0).labels : Int) ∧ v1 = .int .i64 ((s0.label).labels : Int) ∧ v2 = .int .i64 ((s0.label.label).labels : Int) ∧ Mk G w0 wx m p base room s0.label.label.label (n + 3))
  case first =>
    have HL := Lib.hid (fun w' => H0.out.quiet (w' := w'))
    go_region_law (first | (go_simp; go_at_call 70; refine (mk_label (by first | exact h2 | exact h2.quiet (Chg.refl _ _).drew) (by have := HN.out; omega)).mono ?_; rintro e x3 ⟨rfl, h3⟩; have d3 := h3.c0) | (go_simp; go_at_call 70; refine (mk_label (by first | exact h1 | exact h1.quiet (Chg.refl _ _).drew) (by have := HN.out; omega)).mono ?_; rintro e x2 ⟨rfl, h2⟩; have d2 := h2.c0) | (go_simp; go_at_call 70; refine (mk_label (HL.out _ (by first | exact (Chg.refl _ _).drew | exact Chg.refl _ _)) (by have := HN.out; omega)).mono ?_; rintro e x1 ⟨rfl, h1⟩; have d1 := h1.c0))
    all_goals
      go_wp2_with fail
      go_meet
      exact ⟨rfl, rfl, rfl, h3⟩
  obtain ⟨rfl, rfl, rfl, h⟩ := hcut
  clear c0 c1 c2 lm
  have c0 := h.c0
  have c1 := h.c1
  have c2 := h.c2
  have lm := cell_lt c0
  simp only at lm
  have H1 := Lib.hid h
  clear h
  go_wp2_with fail
  refine (trcell_lit _ _).mono ?_
  rintro e x ⟨rfl, rfl⟩
  go_wp2_with fail
  refine (trplain_lit _ _).mono ?_
  rintro e x ⟨rfl, rfl⟩
  go_wp2_with fail
  refine (trset_lit _ _).mono ?_
  rintro e x ⟨rfl, rfl⟩
  go_wp2_with fail
  refine (trget_lit _ _).mono ?_
  rintro e x ⟨rfl, rfl⟩
  go_wp2_with fail
  refine (trto_lit _ _ _).mono ?_
  rintro e x ⟨rfl, rfl⟩
  go_wp2_with fail
  refine (trdo_lit H1.out [.cells #[.int .i64 1] 3, .cells #[.int .i64 16] 3, .cells #[.int .i64 0] 3, .cells #[.int .i64 8] 3, .cells #[.int .i64 2] 3, .cells #[.int .i64 7] 3, .cells #[.int .i64 2] 3, .cells #[.int .i64 13] 3, .cells #[.int .i64 ((((s0).labels : Nat) : Int))] 3] [(.func (.func 134) #[] #[.pointer (some ⟨_ + 0, 0, none⟩)], 1, (fun base room s => s.push (floatOfInt .f64 (wrap64 (base + 1))))), (.func (.func 166) #[] #[.pointer (some ⟨_ + 1, 0, none⟩), .pointer (some ⟨_ + 2, 0, none⟩)], 1, (fun base room s => s.add 16 0)), (.func (.func 166) #[] #[.pointer (some ⟨_ + 3, 0, none⟩), .pointer (some ⟨_ + 4, 0, none⟩)], 1, (fun base room s => s.add 8 2)), (.func (.func 166) #[] #[.pointer (some ⟨_ + 5, 0, none⟩), .pointer (some ⟨_ + 6, 0, none⟩)], 1, (fun base room s => s.add 7 2)), (.func (.func 135) #[] #[.pointer (some ⟨_ + 7, 0, none⟩), .pointer (some ⟨_ + 8, 0, none⟩)], 1, (fun base room s => s.to 13 ((((s0).labels : Nat) : Int))))] (fun F hF => ⟨trcell_ok hF 0 _ rfl, tradd_ok hF 1 _  _ rfl rfl, tradd_ok hF 3 _  _ rfl rfl, tradd_ok hF 5 _  _ rfl rfl, trto_ok hF 7 _  _ rfl rfl, trivial⟩) (by have := HN.out; simp only [sumD, List.foldl]; omega) (by simp)).mono ?_
  clear c0 c1 c2 lm
  rintro e w2 ⟨rfl, h'⟩
  have h : Mk G w0 w2 m p base room (((((s0.label.label.label.push (floatOfInt .f64 (wrap64 (base + 1)))).add 16 0).add 8 2).add 7 2).to 13 ((((s0).labels : Nat) : Int))) (n + 8) := h'
  clear h'
  have c0 := h.c0
  have c1 := h.c1
  have c2 := h.c2
  have lm := cell_lt c0
  simp only at lm
  have H2 := Lib.hid h
  clear h
  go_wp2_with fail
  refine (trget_lit _ _).mono ?_
  rintro e x ⟨rfl, rfl⟩
  go_wp2_with fail
  refine (trof_lit _ _).mono ?_
  rintro e x ⟨rfl, rfl⟩
  go_wp2_with fail
  refine (trplain_lit _ _).mono ?_
  rintro e x ⟨rfl, rfl⟩
  go_wp2_with fail
  refine (trcell_lit _ _).mono ?_
  rintro e x ⟨rfl, rfl⟩
  go_wp2_with fail
  refine (trplain_lit _ _).mono ?_
  rintro e x ⟨rfl, rfl⟩
  go_wp2_with fail
  refine (trto_lit _ _ _).mono ?_
  rintro e x ⟨rfl, rfl⟩
  go_wp2_with fail
  refine (trdo_lit H2.out [.cells #[.int .i64 7] 3, .cells #[.int .i64 2] 3, .cells #[.int .i64 2] 3, .cells #[.int .i64 16] 3, .cells #[.int .i64 0] 3, .cells #[.int .i64 1] 3, .cells #[.int .i64 17] 3, .cells #[.int .i64 0] 3, .cells #[.int .i64 11] 3, .cells #[.int .i64 ((((s0.label).labels : Nat) : Int))] 3] [(.func (.func 166) #[] #[.pointer (some ⟨_ + 0, 0, none⟩), .pointer (some ⟨_ + 1, 0, none⟩)], 1, (fun base room s => s.add 7 2)), (.func (.func 129) #[] #[.pointer (some ⟨_ + 2, 0, none⟩)], 4, (fun base room s => trOf base room 2 s)), (.func (.func 166) #[] #[.pointer (some ⟨_ + 3, 0, none⟩), .pointer (some ⟨_ + 4, 0, none⟩)], 1, (fun base room s => s.add 16 0)), (.func (.func 134) #[] #[.pointer (some ⟨_ + 5, 0, none⟩)], 1, (fun base room s => s.push (floatOfInt .f64 (wrap64 (base + 1))))), (.func (.func 166) #[] #[.pointer (some ⟨_ + 6, 0, none⟩), .pointer (some ⟨_ + 7, 0, none⟩)], 1, (fun base room s => s.add 17 0)), (.func (.func 135) #[] #[.pointer (some ⟨_ + 8, 0, none⟩), .pointer (some ⟨_ + 9, 0, none⟩)], 1, (fun base room s => s.to 11 ((((s0.label).labels : Nat) : Int))))] (fun F hF => ⟨tradd_ok hF 0 _  _ rfl rfl, trof_ok hF 2 _ rfl, tradd_ok hF 3 _  _ rfl rfl, trcell_ok hF 5 _ rfl, tradd_ok hF 6 _  _ rfl rfl, trto_ok hF 8 _  _ rfl rfl, trivial⟩) (by have := HN.out; simp only [sumD, List.foldl]; omega) (by simp)).mono ?_
  clear c0 c1 c2 lm
  rintro e w3 ⟨rfl, h'⟩
  have h : Mk G w0 w3 m p base room (((((trOf base room 2 ((((((s0.label.label.label.push (floatOfInt .f64 (wrap64 (base + 1)))).add 16 0).add 8 2).add 7 2).to 13 ((((s0).labels : Nat) : Int))).add 7 2)).add 16 0).push (floatOfInt .f64 (wrap64 (base + 1)))).add 17 0).to 11 ((((s0.label).labels : Nat) : Int))) (n + 17) := h'
  clear h'
  have c0 := h.c0
  have c1 := h.c1
  have c2 := h.c2
  have lm := cell_lt c0
  simp only at lm
  have H3 := Lib.hid h
  clear h
  go_wp2_with fail
  refine (trmark_lit _ _).mono ?_
  rintro e x ⟨rfl, rfl⟩
  go_wp2_with fail
  refine (tradd_lit _ _ _).mono ?_
  rintro e x ⟨rfl, rfl⟩
  go_wp2_with fail
  refine (trdo_lit H3.out [.cells #[.int .i64 ((((s0.label.label).labels : Nat) : Int))] 3, .cells #[.int .i64 19] 3, .cells #[.int .i64 1] 3] [(.func (.func 128) #[] #[.pointer (some ⟨_ + 0, 0, none⟩)], 1, (fun base room s => s.mark ((((s0.label.label).labels : Nat) : Int)))), (.func (.func 166) #[] #[.pointer (some ⟨_ + 1, 0, none⟩), .pointer (some ⟨_ + 2, 0, none⟩)], 1, (fun base room s => s.add 19 1))] (fun F hF => ⟨trmark_ok hF 0 _ rfl, tradd_ok hF 1 _  _ rfl rfl, trivial⟩) (by have := HN.out; simp only [sumD, List.foldl]; omega) (by simp)).mono ?_
  clear c0 c1 c2 lm
  rintro e w4 ⟨rfl, h'⟩
  have h : Mk G w0 w4 m p base room (((((((trOf base room 2 ((((((s0.label.label.label.push (floatOfInt .f64 (wrap64 (base + 1)))).add 16 0).add 8 2).add 7 2).to 13 ((((s0).labels : Nat) : Int))).add 7 2)).add 16 0).push (floatOfInt .f64 (wrap64 (base + 1)))).add 17 0).to 11 ((((s0.label).labels : Nat) : Int))).mark ((((s0.label.label).labels : Nat) : Int))).add 19 1) (n + 19) := h'
  clear h'
  have c0 := h.c0
  have c1 := h.c1
  have c2 := h.c2
  have lm := cell_lt c0
  simp only at lm
  have H4 := Lib.hid h
  clear h
  have lm1 : m < w4.heap.size + 1 := by omega
  have lm2 : m < w4.heap.size + 1 + 1 := by omega
  have lm3 : m < w4.heap.size + 1 + 1 + 1 := by omega
  have lm4 : m < w4.heap.size + 1 + 1 + 1 + 1 := by omega
  have lm5 : m < w4.heap.size + 1 + 1 + 1 + 1 + 1 := by omega
  have lm6 : m < w4.heap.size + 1 + 1 + 1 + 1 + 1 + 1 := by omega
  have lm7 : m < w4.heap.size + 1 + 1 + 1 + 1 + 1 + 1 + 1 := by omega
  have lm8 : m < w4.heap.size + 1 + 1 + 1 + 1 + 1 + 1 + 1 + 1 := by omega
  have lm9 : m < w4.heap.size + 1 + 1 + 1 + 1 + 1 + 1 + 1 + 1 + 1 := by omega
  go_upto_region 4 with fail
  go_cut [] (fun wx => Mk G w0 wx m p base room (((((((((((((trOf base room 2 ((((((s0.label.label.label.push (floatOfInt .f64 (wrap64 (base + 1)))).add 16 0).add 8 2).add 7 2).to 13 ((((s0).labels : Nat) : Int))).add 7 2)).add 16 0).push (floatOfInt .f64 (wrap64 (base + 1)))).add 17 0).to 11 ((((s0.label).labels : Nat) : Int))).mark ((((s0.label.label).labels : Nat) : Int))).add 19 1).mark ((((s0).labels : Nat) : Int))).push (floatOfInt .f64 (wrap64 (base + 2)))).add 16 0).push (floatOfInt .f64 (room))).add 10 8).to 13 ((((s0.label.label).labels : Nat) : Int))) (n + 25))
  case first =>
    go_region_law (first | (go_simp; go_at_call 76; refine (trmark_lit _ _).mono ?_; rintro e x ⟨rfl, rfl⟩) | (go_simp; go_at_call 84; refine (trcell_lit _ _).mono ?_; rintro e x ⟨rfl, rfl⟩) | (go_simp; go_at_call 75; refine (trplain_lit _ _).mono ?_; rintro e x ⟨rfl, rfl⟩) | (go_simp; go_at_call 130; refine (trpush_lit _ _).mono ?_; rintro e x ⟨rfl, rfl⟩) | (go_simp; go_at_call 88; refine (trtwo_lit _ _).mono ?_; rintro e x ⟨rfl, rfl⟩) | (go_simp; go_at_call 86; refine (trto_lit _ _ _).mono ?_; rintro e x ⟨rfl, rfl⟩) | (go_simp; go_at_call 71; refine (trdo_lit (H4.out.quiet (Chg.refl _ _).drew) [.cells #[.int .i64 ((((s0).labels : Nat) : Int))] 3, .cells #[.int .i64 2] 3, .cells #[.int .i64 16] 3, .cells #[.int .i64 0] 3, .cells #[fl (floatOfInt .f64 (room))] 61, .cells #[.int .i64 10] 3, .cells #[.int .i64 8] 3, .cells #[.int .i64 13] 3, .cells #[.int .i64 ((((s0.label.label).labels : Nat) : Int))] 3] [(.func (.func 128) #[] #[.pointer (some ⟨_ + 0, 0, none⟩)], 1, (fun base room s => s.mark ((((s0).labels : Nat) : Int)))), (.func (.func 134) #[] #[.pointer (some ⟨_ + 1, 0, none⟩)], 1, (fun base room s => s.push (floatOfInt .f64 (wrap64 (base + 2))))), (.func (.func 166) #[] #[.pointer (some ⟨_ + 2, 0, none⟩), .pointer (some ⟨_ + 3, 0, none⟩)], 1, (fun base room s => s.add 16 0)), (.func (.func 167) #[] #[.pointer (some ⟨_ + 4, 0, none⟩)], 1, (fun _ _ s => s.push (floatOfInt .f64 (room)))), (.func (.func 166) #[] #[.pointer (some ⟨_ + 5, 0, none⟩), .pointer (some ⟨_ + 6, 0, none⟩)], 1, (fun base room s => s.add 10 8)), (.func (.func 135) #[] #[.pointer (some ⟨_ + 7, 0, none⟩), .pointer (some ⟨_ + 8, 0, none⟩)], 1, (fun base room s => s.to 13 ((((s0.label.label).labels : Nat) : Int))))] (fun F hF => ⟨trmark_ok hF 0 _ rfl, trcell_ok hF 1 _ rfl, tradd_ok hF 2 _  _ rfl rfl, trpush_ok hF 4 _ rfl, tradd_ok hF 5 _  _ rfl rfl, trto_ok hF 7 _  _ rfl rfl, trivial⟩) (by have := HN.out; simp only [sumD, List.foldl]; omega) (by simp)).mono ?_; rintro e y ⟨rfl, h⟩))
    all_goals
      go_wp2_with fail
      go_meet
      exact h
  have h := hcut
  clear hcut c0 c1 c2 lm lm1 lm2 lm3 lm4 lm5 lm6 lm7 lm8 lm9
  have c0 := h.c0
  have c1 := h.c1
  have c2 := h.c2
  have lm := cell_lt c0
  simp only at lm
  have H5 := Lib.hid h
  clear h
  go_wp2_with fail
  refine (trcell_lit _ _).mono ?_
  rintro e x ⟨rfl, rfl⟩
  go_wp2_with fail
  refine (trplain_lit _ _).mono ?_
  rintro e x ⟨rfl, rfl⟩
  go_wp2_with fail
  refine (trpush_lit _ _).mono ?_
  rintro e x ⟨rfl, rfl⟩
  go_wp2_with fail
  refine (trtwo_lit _ _).mono ?_
  rintro e x ⟨rfl, rfl⟩
  go_wp2_with fail
  refine (trset_lit _ _).mono ?_
  rintro e x ⟨rfl, rfl⟩
  go_wp2_with fail
  refine (trget_lit _ _).mono ?_
  rintro e x ⟨rfl, rfl⟩
  go_wp2_with fail
  refine (trcell_lit _ _).mono ?_
  rintro e x ⟨rfl, rfl⟩
  go_wp2_with fail
  refine (trplain_lit _ _).mono ?_
  rintro e x ⟨rfl, rfl⟩
  go_wp2_with fail
  refine (trmark_lit _ _).mono ?_
  rintro e x ⟨rfl, rfl⟩
  go_wp2_with fail
  refine (trdo_lit H5.out [.cells #[.int .i64 2] 3, .cells #[.int .i64 16] 3, .cells #[.int .i64 0] 3, .cells #[fl 4607182418800017408] 61, .cells #[.int .i64 10] 3, .cells #[.int .i64 1] 3, .cells #[.int .i64 8] 3, .cells #[.int .i64 2] 3, .cells #[.int .i64 7] 3, .cells #[.int .i64 2] 3, .cells #[.int .i64 2] 3, .cells #[.int .i64 17] 3, .cells #[.int .i64 0] 3, .cells #[.int .i64 ((((s0.label).labels : Nat) : Int))] 3] [(.func (.func 134) #[] #[.pointer (some ⟨_ + 0, 0, none⟩)], 1, (fun base room s => s.push (floatOfInt .f64 (wrap64 (base + 2))))), (.func (.func 166) #[] #[.pointer (some ⟨_ + 1, 0, none⟩), .pointer (some ⟨_ + 2, 0, none⟩)], 1, (fun base room s => s.add 16 0)), (.func (.func 167) #[] #[.pointer (some ⟨_ + 3, 0, none⟩)], 1, (fun base room s => s.push 4607182418800017408)), (.func (.func 166) #[] #[.pointer (some ⟨_ + 4, 0, none⟩), .pointer (some ⟨_ + 5, 0, none⟩)], 1, (fun base room s => s.add 10 1)), (.func (.func 166) #[] #[.pointer (some ⟨_ + 6, 0, none⟩), .pointer (some ⟨_ + 7, 0, none⟩)], 1, (fun base room s => s.add 8 2)), (.func (.func 166) #[] #[.pointer (some ⟨_ + 8, 0, none⟩), .pointer (some ⟨_ + 9, 0, none⟩)], 1, (fun base room s => s.add 7 2)), (.func (.func 134) #[] #[.pointer (some ⟨_ + 10, 0, none⟩)], 1, (fun base room s => s.push (floatOfInt .f64 (wrap64 (base + 2))))), (.func (.func 166) #[] #[.pointer (some ⟨_ + 11, 0, none⟩), .pointer (some ⟨_ + 12, 0, none⟩)], 1, (fun base room s => s.add 17 0)), (.func (.func 128) #[] #[.pointer (some ⟨_ + 13, 0, none⟩)], 1, (fun base room s => s.mark ((((s0.label).labels : Nat) : Int))))] (fun F hF => ⟨trcell_ok hF 0 _ rfl, tradd_ok hF 1 _  _ rfl rfl, trpush_ok hF 3 _ rfl, tradd_ok hF 4 _  _ rfl rfl, tradd_ok hF 6 _  _ rfl rfl, tradd_ok hF 8 _  _ rfl rfl, trcell_ok hF 10 _ rfl, tradd_ok hF 11 _  _ rfl rfl, trmark_ok hF 13 _ rfl, trivial⟩) (by have := HN.out; simp only [sumD, List.foldl]; omega) (by simp)).mono ?_
  clear c0 c1 c2 lm
  rintro e w6 ⟨rfl, h'⟩
  have h : Mk G w0 w6 m p base room ((((((((((((((((((((((trOf base room 2 ((((((s0.label.label.label.push (floatOfInt .f64 (wrap64 (base + 1)))).add 16 0).add 8 2).add 7 2).to 13 ((((s0).labels : Nat) : Int))).add 7 2)).add 16 0).push (floatOfInt .f64 (wrap64 (base + 1)))).add 17 0).to 11 ((((s0.label).labels : Nat) : Int))).mark ((((s0.label.label).labels : Nat) : Int))).add 19 1).mark ((((s0).labels : Nat) : Int))).push (floatOfInt .f64 (wrap64 (base + 2)))).add 16 0).push (floatOfInt .f64 (room))).add 10 8).to 13 ((((s0.label.label).labels : Nat) : Int))).push (floatOfInt .f64 (wrap64 (base + 2)))).add 16 0).push 4607182418800017408).add 10 1).add 8 2).add 7 2).push (floatOfInt .f64 (wrap64 (base + 2)))).add 17 0).mark ((((s0.label).labels : Nat) : Int))) (n + 34) := h'
  clear h'
  have c0 := h.c0
  have c1 := h.c1
  have c2 := h.c2
  have lm := cell_lt c0
  simp only at lm
  have H6 := Lib.hid h
  clear h
  go_wp2_with fail
  go_end0
  exact ⟨rfl, H6.out⟩
theorem trNode_ok {F : Nat → Prop} {w : World} : OprOk F w (.func (.func 81) #[] #[]) 34 (fun base room s => trNode base room s) :=
  ok0 (fun _ _ => rfl) (fun F1 w1 m p base room s n h hn => trNode_any h hn)
end Go.Proofs.YtgeapkalabijmaaGreat
