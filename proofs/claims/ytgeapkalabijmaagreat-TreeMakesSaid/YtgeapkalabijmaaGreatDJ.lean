/- A tree's programs as they are put together. Printed by gen/tree2.py. -/
import Derived.Test.YtgeapkalabijmaaGreatDC
namespace Go.Proofs.YtgeapkalabijmaaGreat
open Go Go.RowKit
set_option maxRecDepth 100000
set_option maxHeartbeats 1000000
set_option linter.unusedVariables false
set_option linter.unusedSimpArgs false

set_option maxRecDepth 100000 in
set_option maxHeartbeats 4000000 in
theorem trPair_any {G : Nat → Prop} {w0 w : World} {m p : Nat} {base room : Int} {s0 : Asm} {n : Nat} (h : Mk G w0 w m p base room s0 n) (hn : n + 14 < 240) :
    Calls Tryz.prog 87 #[.pointer (some ⟨m, 0, none⟩)] w fun e w' => e = .returned (.tuple #[]) ∧ Mk G w0 w' m p base room (trPair base room s0) (n + 14) := by
  have c0 := h.c0
  have c1 := h.c1
  have c2 := h.c2
  have lm := cell_lt c0
  simp only at lm
  have H0 := Lib.hid h
  have HN := Lib.hid hn
  clear h hn
  go_enter Tryz.func87, Tryz.ntmps87
  go_wp2_with fail
  refine (trpart_lit _ _).mono ?_
  rintro e x ⟨rfl, rfl⟩
  go_wp2_with fail
  refine (trplain_lit _ _).mono ?_
  rintro e x ⟨rfl, rfl⟩
  go_wp2_with fail
  refine (trpart_lit _ _).mono ?_
  rintro e x ⟨rfl, rfl⟩
  go_wp2_with fail
  refine (trplain_lit _ _).mono ?_
  rintro e x ⟨rfl, rfl⟩
  go_wp2_with fail
  refine (trdo_lit H0.out [.cells #[.int .i64 0] 3, .cells #[.int .i64 18] 3, .cells #[.int .i64 0] 3, .cells #[.int .i64 1] 3, .cells #[.int .i64 18] 3, .cells #[.int .i64 0] 3] [(.func (.func 126) #[] #[.pointer (some ⟨_ + 0, 0, none⟩)], 6, (fun base room s => trPart base room 0 s)), (.func (.func 166) #[] #[.pointer (some ⟨_ + 1, 0, none⟩), .pointer (some ⟨_ + 2, 0, none⟩)], 1, (fun base room s => s.add 18 0)), (.func (.func 126) #[] #[.pointer (some ⟨_ + 3, 0, none⟩)], 6, (fun base room s => trPart base room 1 s)), (.func (.func 166) #[] #[.pointer (some ⟨_ + 4, 0, none⟩), .pointer (some ⟨_ + 5, 0, none⟩)], 1, (fun base room s => s.add 18 0))] (fun F hF => ⟨trpart_ok hF 0 _ rfl, tradd_ok hF 1 _  _ rfl rfl, trpart_ok hF 3 _ rfl, tradd_ok hF 4 _  _ rfl rfl, trivial⟩) (by have := HN.out; simp only [sumD, List.foldl]; omega) (by simp)).mono ?_
  clear c0 c1 c2 lm
  rintro e w1 ⟨rfl, h'⟩
  have h : Mk G w0 w1 m p base room ((trPart base room 1 ((trPart base room 0 s0).add 18 0)).add 18 0) (n + 14) := h'
  clear h'
  have c0 := h.c0
  have c1 := h.c1
  have c2 := h.c2
  have lm := cell_lt c0
  simp only at lm
  have H1 := Lib.hid h
  clear h
  go_wp2_with fail
  go_end0
  exact ⟨rfl, H1.out⟩
theorem trPair_ok {F : Nat → Prop} {w : World} : OprOk F w (.func (.func 87) #[] #[]) 14 (fun base room s => trPair base room s) :=
  ok0 (fun _ _ => rfl) (fun F1 w1 m p base room s n h hn => trPair_any h hn)
set_option maxRecDepth 100000 in
set_option maxHeartbeats 4000000 in
theorem trDoGet_any {G : Nat → Prop} {w0 w : World} {m p : Nat} {base room : Int} {s0 : Asm} {n : Nat} (h : Mk G w0 w m p base room s0 n) (hn : n + 51 < 240) :
    Calls Tryz.prog 33 #[.pointer (some ⟨m, 0, none⟩)] w fun e w' => e = .returned (.tuple #[]) ∧ Mk G w0 w' m p base room (trDoGet base room s0) (n + 51) := by
  have c0 := h.c0
  have c1 := h.c1
  have c2 := h.c2
  have lm := cell_lt c0
  simp only at lm
  have H0 := Lib.hid h
  have HN := Lib.hid hn
  clear h hn
  go_enter Tryz.func33, Tryz.ntmps33
  go_wp2_with fail
  refine (mk_label H0.out (by have := HN.out; omega)).mono ?_
  clear c0 c1 c2 lm
  rintro e w1 ⟨rfl, h⟩
  have c0 := h.c0
  have c1 := h.c1
  have c2 := h.c2
  have lm := cell_lt c0
  simp only at lm
  have H1 := Lib.hid h
  clear h
  go_wp2_with fail
  refine (trmatch_lit _ _).mono ?_
  rintro e x ⟨rfl, rfl⟩
  go_wp2_with fail
  refine (trpart_lit _ _).mono ?_
  rintro e x ⟨rfl, rfl⟩
  go_wp2_with fail
  refine (trplain_lit _ _).mono ?_
  rintro e x ⟨rfl, rfl⟩
  go_wp2_with fail
  refine (trmark_lit _ _).mono ?_
  rintro e x ⟨rfl, rfl⟩
  go_wp2_with fail
  refine (trplain_lit _ _).mono ?_
  rintro e x ⟨rfl, rfl⟩
  go_wp2_with fail
  refine (trdo_lit H1.out [.cells #[.int .i64 ((((s0).labels : Nat) : Int))] 3, .cells #[.int .i64 1] 3, .cells #[.int .i64 18] 3, .cells #[.int .i64 0] 3, .cells #[.int .i64 ((((s0).labels : Nat) : Int))] 3, .cells #[.int .i64 20] 3, .cells #[.int .i64 0] 3] [(.func (.func 72) #[] #[], 30, (fun base room s => trSeek base room s)), (.func (.func 125) #[] #[.pointer (some ⟨_ + 0, 0, none⟩)], 11, (fun base room s => trMatch base room ((((s0).labels : Nat) : Int)) s)), (.func (.func 126) #[] #[.pointer (some ⟨_ + 1, 0, none⟩)], 6, (fun base room s => trPart base room 1 s)), (.func (.func 166) #[] #[.pointer (some ⟨_ + 2, 0, none⟩), .pointer (some ⟨_ + 3, 0, none⟩)], 1, (fun base room s => s.add 18 0)), (.func (.func 128) #[] #[.pointer (some ⟨_ + 4, 0, none⟩)], 1, (fun base room s => s.mark ((((s0).labels : Nat) : Int)))), (.func (.func 166) #[] #[.pointer (some ⟨_ + 5, 0, none⟩), .pointer (some ⟨_ + 6, 0, none⟩)], 1, (fun base room s => s.add 20 0))] (fun F hF => ⟨trSeek_ok, trmatch_ok hF 0 _ rfl, trpart_ok hF 1 _ rfl, tradd_ok hF 2 _  _ rfl rfl, trmark_ok hF 4 _ rfl, tradd_ok hF 5 _  _ rfl rfl, trivial⟩) (by have := HN.out; simp only [sumD, List.foldl]; omega) (by simp)).mono ?_
  clear c0 c1 c2 lm
  rintro e w2 ⟨rfl, h'⟩
  have h : Mk G w0 w2 m p base room ((((trPart base room 1 (trMatch base room ((((s0).labels : Nat) : Int)) (trSeek base room s0.label))).add 18 0).mark ((((s0).labels : Nat) : Int))).add 20 0) (n + 51) := h'
  clear h'
  have c0 := h.c0
  have c1 := h.c1
  have c2 := h.c2
  have lm := cell_lt c0
  simp only at lm
  have H2 := Lib.hid h
  clear h
  go_wp2_with fail
  go_end0
  exact ⟨rfl, H2.out⟩
set_option maxRecDepth 100000 in
set_option maxHeartbeats 4000000 in
theorem trDoPut_any {G : Nat → Prop} {w0 w : World} {m p : Nat} {base room : Int} {s0 : Asm} {n : Nat} (h : Mk G w0 w m p base room s0 n) (hn : n + 133 < 240) :
    Calls Tryz.prog 34 #[.pointer (some ⟨m, 0, none⟩)] w fun e w' => e = .returned (.tuple #[]) ∧ Mk G w0 w' m p base room (trDoPut base room s0) (n + 133) := by
  have c0 := h.c0
  have c1 := h.c1
  have c2 := h.c2
  have lm := cell_lt c0
  simp only at lm
  have H0 := Lib.hid h
  have HN := Lib.hid hn
  clear h hn
  go_enter Tryz.func34, Tryz.ntmps34
  go_wp2_with fail
  refine (mk_label H0.out (by have := HN.out; omega)).mono ?_
  clear c0 c1 c2 lm
  rintro e w1 ⟨rfl, h⟩
  have c0 := h.c0
  have c1 := h.c1
  have c2 := h.c2
  have lm := cell_lt c0
  simp only at lm
  have H1 := Lib.hid h
  clear h
  go_wp2_with fail
  refine (trmatch_lit _ _).mono ?_
  rintro e x ⟨rfl, rfl⟩
  go_wp2_with fail
  refine (trarg_lit _ _).mono ?_
  rintro e x ⟨rfl, rfl⟩
  go_wp2_with fail
  refine (trget_lit _ _).mono ?_
  rintro e x ⟨rfl, rfl⟩
  go_wp2_with fail
  refine (trof_lit _ _).mono ?_
  rintro e x ⟨rfl, rfl⟩
  go_wp2_with fail
  refine (trplain_lit _ _).mono ?_
  rintro e x ⟨rfl, rfl⟩
  go_wp2_with fail
  refine (transwer_lit _ _).mono ?_
  rintro e x ⟨rfl, rfl⟩
  go_wp2_with fail
  refine (trdo_lit H1.out [.cells #[.int .i64 ((((s0).labels : Nat) : Int))] 3, .cells #[.int .i64 6] 3, .cells #[.int .i64 1] 3, .cells #[.int .i64 7] 3, .cells #[.int .i64 0] 3, .cells #[.int .i64 1] 3, .cells #[.int .i64 17] 3, .cells #[.int .i64 0] 3, .cells #[fl 0] 61] [(.func (.func 72) #[] #[], 30, (fun base room s => trSeek base room s)), (.func (.func 125) #[] #[.pointer (some ⟨_ + 0, 0, none⟩)], 11, (fun base room s => trMatch base room ((((s0).labels : Nat) : Int)) s)), (.func (.func 166) #[] #[.pointer (some ⟨_ + 1, 0, none⟩), .pointer (some ⟨_ + 2, 0, none⟩)], 1, (fun base room s => s.add 6 1)), (.func (.func 166) #[] #[.pointer (some ⟨_ + 3, 0, none⟩), .pointer (some ⟨_ + 4, 0, none⟩)], 1, (fun base room s => s.add 7 0)), (.func (.func 129) #[] #[.pointer (some ⟨_ + 5, 0, none⟩)], 4, (fun base room s => trOf base room 1 s)), (.func (.func 166) #[] #[.pointer (some ⟨_ + 6, 0, none⟩), .pointer (some ⟨_ + 7, 0, none⟩)], 1, (fun base room s => s.add 17 0)), (.func (.func 131) #[] #[.pointer (some ⟨_ + 8, 0, none⟩)], 3, (fun base room s => trAnswer base room 0 s))] (fun F hF => ⟨trSeek_ok, trmatch_ok hF 0 _ rfl, tradd_ok hF 1 _  _ rfl rfl, tradd_ok hF 3 _  _ rfl rfl, trof_ok hF 5 _ rfl, tradd_ok hF 6 _  _ rfl rfl, transwer_ok hF 8 _ rfl, trivial⟩) (by have := HN.out; simp only [sumD, List.foldl]; omega) (by simp)).mono ?_
  clear c0 c1 c2 lm
  rintro e w2 ⟨rfl, h'⟩
  have h : Mk G w0 w2 m p base room (trAnswer base room 0 ((trOf base room 1 (((trMatch base room ((((s0).labels : Nat) : Int)) (trSeek base room s0.label)).add 6 1).add 7 0)).add 17 0)) (n + 52) := h'
  clear h'
  have c0 := h.c0
  have c1 := h.c1
  have c2 := h.c2
  have lm := cell_lt c0
  simp only at lm
  have H2 := Lib.hid h
  clear h
  go_wp2_with fail
  refine (trmark_lit _ _).mono ?_
  rintro e x ⟨rfl, rfl⟩
  go_wp2_with fail
  refine (trarg_lit _ _).mono ?_
  rintro e x ⟨rfl, rfl⟩
  go_wp2_with fail
  refine (trget_lit _ _).mono ?_
  rintro e x ⟨rfl, rfl⟩
  go_wp2_with fail
  refine (trof_lit _ _).mono ?_
  rintro e x ⟨rfl, rfl⟩
  go_wp2_with fail
  refine (trplain_lit _ _).mono ?_
  rintro e x ⟨rfl, rfl⟩
  go_wp2_with fail
  refine (trarg_lit _ _).mono ?_
  rintro e x ⟨rfl, rfl⟩
  go_wp2_with fail
  refine (trget_lit _ _).mono ?_
  rintro e x ⟨rfl, rfl⟩
  go_wp2_with fail
  refine (trof_lit _ _).mono ?_
  rintro e x ⟨rfl, rfl⟩
  go_wp2_with fail
  refine (trplain_lit _ _).mono ?_
  rintro e x ⟨rfl, rfl⟩
  go_wp2_with fail
  refine (trdo_lit H2.out [.cells #[.int .i64 ((((s0).labels : Nat) : Int))] 3, .cells #[.int .i64 6] 3, .cells #[.int .i64 0] 3, .cells #[.int .i64 7] 3, .cells #[.int .i64 2] 3, .cells #[.int .i64 0] 3, .cells #[.int .i64 17] 3, .cells #[.int .i64 0] 3, .cells #[.int .i64 6] 3, .cells #[.int .i64 1] 3, .cells #[.int .i64 7] 3, .cells #[.int .i64 2] 3, .cells #[.int .i64 1] 3, .cells #[.int .i64 17] 3, .cells #[.int .i64 0] 3] [(.func (.func 128) #[] #[.pointer (some ⟨_ + 0, 0, none⟩)], 1, (fun base room s => s.mark ((((s0).labels : Nat) : Int)))), (.func (.func 81) #[] #[], 34, (fun base room s => trNode base room s)), (.func (.func 166) #[] #[.pointer (some ⟨_ + 1, 0, none⟩), .pointer (some ⟨_ + 2, 0, none⟩)], 1, (fun base room s => s.add 6 0)), (.func (.func 166) #[] #[.pointer (some ⟨_ + 3, 0, none⟩), .pointer (some ⟨_ + 4, 0, none⟩)], 1, (fun base room s => s.add 7 2)), (.func (.func 129) #[] #[.pointer (some ⟨_ + 5, 0, none⟩)], 4, (fun base room s => trOf base room 0 s)), (.func (.func 166) #[] #[.pointer (some ⟨_ + 6, 0, none⟩), .pointer (some ⟨_ + 7, 0, none⟩)], 1, (fun base room s => s.add 17 0)), (.func (.func 166) #[] #[.pointer (some ⟨_ + 8, 0, none⟩), .pointer (some ⟨_ + 9, 0, none⟩)], 1, (fun base room s => s.add 6 1)), (.func (.func 166) #[] #[.pointer (some ⟨_ + 10, 0, none⟩), .pointer (some ⟨_ + 11, 0, none⟩)], 1, (fun base room s => s.add 7 2)), (.func (.func 129) #[] #[.pointer (some ⟨_ + 12, 0, none⟩)], 4, (fun base room s => trOf base room 1 s)), (.func (.func 166) #[] #[.pointer (some ⟨_ + 13, 0, none⟩), .pointer (some ⟨_ + 14, 0, none⟩)], 1, (fun base room s => s.add 17 0))] (fun F hF => ⟨trmark_ok hF 0 _ rfl, trNode_ok, tradd_ok hF 1 _  _ rfl rfl, tradd_ok hF 3 _  _ rfl rfl, trof_ok hF 5 _ rfl, tradd_ok hF 6 _  _ rfl rfl, tradd_ok hF 8 _  _ rfl rfl, tradd_ok hF 10 _  _ rfl rfl, trof_ok hF 12 _ rfl, tradd_ok hF 13 _  _ rfl rfl, trivial⟩) (by have := HN.out; simp only [sumD, List.foldl]; omega) (by simp)).mono ?_
  clear c0 c1 c2 lm
  rintro e w3 ⟨rfl, h'⟩
  have h : Mk G w0 w3 m p base room ((trOf base room 1 ((((trOf base room 0 (((trNode base room ((trAnswer base room 0 ((trOf base room 1 (((trMatch base room ((((s0).labels : Nat) : Int)) (trSeek base room s0.label)).add 6 1).add 7 0)).add 17 0)).mark ((((s0).labels : Nat) : Int)))).add 6 0).add 7 2)).add 17 0).add 6 1).add 7 2)).add 17 0) (n + 101) := h'
  clear h'
  have c0 := h.c0
  have c1 := h.c1
  have c2 := h.c2
  have lm := cell_lt c0
  simp only at lm
  have H3 := Lib.hid h
  clear h
  go_wp2_with fail
  refine (trget_lit _ _).mono ?_
  rintro e x ⟨rfl, rfl⟩
  go_wp2_with fail
  refine (trget_lit _ _).mono ?_
  rintro e x ⟨rfl, rfl⟩
  go_wp2_with fail
  refine (trof_lit _ _).mono ?_
  rintro e x ⟨rfl, rfl⟩
  go_wp2_with fail
  refine (trplain_lit _ _).mono ?_
  rintro e x ⟨rfl, rfl⟩
  go_wp2_with fail
  refine (trget_lit _ _).mono ?_
  rintro e x ⟨rfl, rfl⟩
  go_wp2_with fail
  refine (trmore_lit _ _).mono ?_
  rintro e x ⟨rfl, rfl⟩
  go_wp2_with fail
  refine (transwer_lit _ _).mono ?_
  rintro e x ⟨rfl, rfl⟩
  go_wp2_with fail
  refine (trdo_lit H3.out [.cells #[.int .i64 7] 3, .cells #[.int .i64 0] 3, .cells #[.int .i64 7] 3, .cells #[.int .i64 2] 3, .cells #[.int .i64 2] 3, .cells #[.int .i64 17] 3, .cells #[.int .i64 0] 3, .cells #[.int .i64 7] 3, .cells #[.int .i64 2] 3, .cells #[fl 4607182418800017408] 61, .cells #[fl 4607182418800017408] 61] [(.func (.func 166) #[] #[.pointer (some ⟨_ + 0, 0, none⟩), .pointer (some ⟨_ + 1, 0, none⟩)], 1, (fun base room s => s.add 7 0)), (.func (.func 166) #[] #[.pointer (some ⟨_ + 2, 0, none⟩), .pointer (some ⟨_ + 3, 0, none⟩)], 1, (fun base room s => s.add 7 2)), (.func (.func 129) #[] #[.pointer (some ⟨_ + 4, 0, none⟩)], 4, (fun base room s => trOf base room 2 s)), (.func (.func 166) #[] #[.pointer (some ⟨_ + 5, 0, none⟩), .pointer (some ⟨_ + 6, 0, none⟩)], 1, (fun base room s => s.add 17 0)), (.func (.func 166) #[] #[.pointer (some ⟨_ + 7, 0, none⟩), .pointer (some ⟨_ + 8, 0, none⟩)], 1, (fun base room s => s.add 7 2)), (.func (.func 82) #[] #[], 15, (fun base room s => trLink base room s)), (.func (.func 133) #[] #[.pointer (some ⟨_ + 9, 0, none⟩)], 6, (fun base room s => trMore base room 4607182418800017408 s)), (.func (.func 131) #[] #[.pointer (some ⟨_ + 10, 0, none⟩)], 3, (fun base room s => trAnswer base room 4607182418800017408 s))] (fun F hF => ⟨tradd_ok hF 0 _  _ rfl rfl, tradd_ok hF 2 _  _ rfl rfl, trof_ok hF 4 _ rfl, tradd_ok hF 5 _  _ rfl rfl, tradd_ok hF 7 _  _ rfl rfl, trLink_ok, trmore_ok hF 9 _ rfl, transwer_ok hF 10 _ rfl, trivial⟩) (by have := HN.out; simp only [sumD, List.foldl]; omega) (by simp)).mono ?_
  clear c0 c1 c2 lm
  rintro e w4 ⟨rfl, h'⟩
  have h : Mk G w0 w4 m p base room (trAnswer base room 4607182418800017408 (trMore base room 4607182418800017408 (trLink base room (((trOf base room 2 ((((trOf base room 1 ((((trOf base room 0 (((trNode base room ((trAnswer base room 0 ((trOf base room 1 (((trMatch base room ((((s0).labels : Nat) : Int)) (trSeek base room s0.label)).add 6 1).add 7 0)).add 17 0)).mark ((((s0).labels : Nat) : Int)))).add 6 0).add 7 2)).add 17 0).add 6 1).add 7 2)).add 17 0).add 7 0).add 7 2)).add 17 0).add 7 2)))) (n + 133) := h'
  clear h'
  have c0 := h.c0
  have c1 := h.c1
  have c2 := h.c2
  have lm := cell_lt c0
  simp only at lm
  have H4 := Lib.hid h
  clear h
  go_wp2_with fail
  go_end0
  exact ⟨rfl, H4.out⟩
set_option maxRecDepth 100000 in
set_option maxHeartbeats 4000000 in
theorem trDoDel_any {G : Nat → Prop} {w0 w : World} {m p : Nat} {base room : Int} {s0 : Asm} {n : Nat} (h : Mk G w0 w m p base room s0 n) (hn : n + 87 < 240) :
    Calls Tryz.prog 35 #[.pointer (some ⟨m, 0, none⟩)] w fun e w' => e = .returned (.tuple #[]) ∧ Mk G w0 w' m p base room (trDoDel base room s0) (n + 87) := by
  have c0 := h.c0
  have c1 := h.c1
  have c2 := h.c2
  have lm := cell_lt c0
  simp only at lm
  have H0 := Lib.hid h
  have HN := Lib.hid hn
  clear h hn
  go_enter Tryz.func35, Tryz.ntmps35
  go_wp2_with fail
  refine (mk_label H0.out (by have := HN.out; omega)).mono ?_
  clear c0 c1 c2 lm
  rintro e w1 ⟨rfl, h⟩
  have c0 := h.c0
  have c1 := h.c1
  have c2 := h.c2
  have lm := cell_lt c0
  simp only at lm
  have H1 := Lib.hid h
  clear h
  go_wp2_with fail
  refine (trmatch_lit _ _).mono ?_
  rintro e x ⟨rfl, rfl⟩
  go_wp2_with fail
  refine (trpart_lit _ _).mono ?_
  rintro e x ⟨rfl, rfl⟩
  go_wp2_with fail
  refine (trcell_lit _ _).mono ?_
  rintro e x ⟨rfl, rfl⟩
  go_wp2_with fail
  refine (trplain_lit _ _).mono ?_
  rintro e x ⟨rfl, rfl⟩
  go_wp2_with fail
  refine (trget_lit _ _).mono ?_
  rintro e x ⟨rfl, rfl⟩
  go_wp2_with fail
  refine (trof_lit _ _).mono ?_
  rintro e x ⟨rfl, rfl⟩
  go_wp2_with fail
  refine (trplain_lit _ _).mono ?_
  rintro e x ⟨rfl, rfl⟩
  go_wp2_with fail
  refine (trdo_lit H1.out [.cells #[.int .i64 ((((s0).labels : Nat) : Int))] 3, .cells #[.int .i64 2] 3, .cells #[.int .i64 1] 3, .cells #[.int .i64 16] 3, .cells #[.int .i64 0] 3, .cells #[.int .i64 7] 3, .cells #[.int .i64 0] 3, .cells #[.int .i64 2] 3, .cells #[.int .i64 17] 3, .cells #[.int .i64 0] 3] [(.func (.func 72) #[] #[], 30, (fun base room s => trSeek base room s)), (.func (.func 125) #[] #[.pointer (some ⟨_ + 0, 0, none⟩)], 11, (fun base room s => trMatch base room ((((s0).labels : Nat) : Int)) s)), (.func (.func 126) #[] #[.pointer (some ⟨_ + 1, 0, none⟩)], 6, (fun base room s => trPart base room 2 s)), (.func (.func 82) #[] #[], 15, (fun base room s => trLink base room s)), (.func (.func 134) #[] #[.pointer (some ⟨_ + 2, 0, none⟩)], 1, (fun base room s => s.push (floatOfInt .f64 (wrap64 (base + 1))))), (.func (.func 166) #[] #[.pointer (some ⟨_ + 3, 0, none⟩), .pointer (some ⟨_ + 4, 0, none⟩)], 1, (fun base room s => s.add 16 0)), (.func (.func 166) #[] #[.pointer (some ⟨_ + 5, 0, none⟩), .pointer (some ⟨_ + 6, 0, none⟩)], 1, (fun base room s => s.add 7 0)), (.func (.func 129) #[] #[.pointer (some ⟨_ + 7, 0, none⟩)], 4, (fun base room s => trOf base room 2 s)), (.func (.func 166) #[] #[.pointer (some ⟨_ + 8, 0, none⟩), .pointer (some ⟨_ + 9, 0, none⟩)], 1, (fun base room s => s.add 17 0))] (fun F hF => ⟨trSeek_ok, trmatch_ok hF 0 _ rfl, trpart_ok hF 1 _ rfl, trLink_ok, trcell_ok hF 2 _ rfl, tradd_ok hF 3 _  _ rfl rfl, tradd_ok hF 5 _  _ rfl rfl, trof_ok hF 7 _ rfl, tradd_ok hF 8 _  _ rfl rfl, trivial⟩) (by have := HN.out; simp only [sumD, List.foldl]; omega) (by simp)).mono ?_
  clear c0 c1 c2 lm
  rintro e w2 ⟨rfl, h'⟩
  have h : Mk G w0 w2 m p base room ((trOf base room 2 ((((trLink base room (trPart base room 2 (trMatch base room ((((s0).labels : Nat) : Int)) (trSeek base room s0.label)))).push (floatOfInt .f64 (wrap64 (base + 1)))).add 16 0).add 7 0)).add 17 0) (n + 71) := h'
  clear h'
  have c0 := h.c0
  have c1 := h.c1
  have c2 := h.c2
  have lm := cell_lt c0
  simp only at lm
  have H2 := Lib.hid h
  clear h
  go_wp2_with fail
  refine (trget_lit _ _).mono ?_
  rintro e x ⟨rfl, rfl⟩
  go_wp2_with fail
  refine (trcell_lit _ _).mono ?_
  rintro e x ⟨rfl, rfl⟩
  go_wp2_with fail
  refine (trplain_lit _ _).mono ?_
  rintro e x ⟨rfl, rfl⟩
  go_wp2_with fail
  refine (trmore_lit _ _).mono ?_
  rintro e x ⟨rfl, rfl⟩
  go_wp2_with fail
  refine (transwer_lit _ _).mono ?_
  rintro e x ⟨rfl, rfl⟩
  go_wp2_with fail
  refine (trmark_lit _ _).mono ?_
  rintro e x ⟨rfl, rfl⟩
  go_wp2_with fail
  refine (transwer_lit _ _).mono ?_
  rintro e x ⟨rfl, rfl⟩
  go_wp2_with fail
  refine (trdo_lit H2.out [.cells #[.int .i64 7] 3, .cells #[.int .i64 0] 3, .cells #[.int .i64 1] 3, .cells #[.int .i64 17] 3, .cells #[.int .i64 0] 3, .cells #[fl 13830554455654793216] 61, .cells #[fl 4607182418800017408] 61, .cells #[.int .i64 ((((s0).labels : Nat) : Int))] 3, .cells #[fl 0] 61] [(.func (.func 166) #[] #[.pointer (some ⟨_ + 0, 0, none⟩), .pointer (some ⟨_ + 1, 0, none⟩)], 1, (fun base room s => s.add 7 0)), (.func (.func 134) #[] #[.pointer (some ⟨_ + 2, 0, none⟩)], 1, (fun base room s => s.push (floatOfInt .f64 (wrap64 (base + 1))))), (.func (.func 166) #[] #[.pointer (some ⟨_ + 3, 0, none⟩), .pointer (some ⟨_ + 4, 0, none⟩)], 1, (fun base room s => s.add 17 0)), (.func (.func 133) #[] #[.pointer (some ⟨_ + 5, 0, none⟩)], 6, (fun base room s => trMore base room 13830554455654793216 s)), (.func (.func 131) #[] #[.pointer (some ⟨_ + 6, 0, none⟩)], 3, (fun base room s => trAnswer base room 4607182418800017408 s)), (.func (.func 128) #[] #[.pointer (some ⟨_ + 7, 0, none⟩)], 1, (fun base room s => s.mark ((((s0).labels : Nat) : Int)))), (.func (.func 131) #[] #[.pointer (some ⟨_ + 8, 0, none⟩)], 3, (fun base room s => trAnswer base room 0 s))] (fun F hF => ⟨tradd_ok hF 0 _  _ rfl rfl, trcell_ok hF 2 _ rfl, tradd_ok hF 3 _  _ rfl rfl, trmore_ok hF 5 _ rfl, transwer_ok hF 6 _ rfl, trmark_ok hF 7 _ rfl, transwer_ok hF 8 _ rfl, trivial⟩) (by have := HN.out; simp only [sumD, List.foldl]; omega) (by simp)).mono ?_
  clear c0 c1 c2 lm
  rintro e w3 ⟨rfl, h'⟩
  have h : Mk G w0 w3 m p base room (trAnswer base room 0 ((trAnswer base room 4607182418800017408 (trMore base room 13830554455654793216 (((((trOf base room 2 ((((trLink base room (trPart base room 2 (trMatch base room ((((s0).labels : Nat) : Int)) (trSeek base room s0.label)))).push (floatOfInt .f64 (wrap64 (base + 1)))).add 16 0).add 7 0)).add 17 0).add 7 0).push (floatOfInt .f64 (wrap64 (base + 1)))).add 17 0))).mark ((((s0).labels : Nat) : Int)))) (n + 87) := h'
  clear h'
  have c0 := h.c0
  have c1 := h.c1
  have c2 := h.c2
  have lm := cell_lt c0
  simp only at lm
  have H3 := Lib.hid h
  clear h
  go_wp2_with fail
  go_end0
  exact ⟨rfl, H3.out⟩
set_option maxRecDepth 100000 in
set_option maxHeartbeats 4000000 in
theorem trDoLeast_any {G : Nat → Prop} {w0 w : World} {m p : Nat} {base room : Int} {s0 : Asm} {n : Nat} (h : Mk G w0 w m p base room s0 n) (hn : n + 24 < 240) :
    Calls Tryz.prog 36 #[.pointer (some ⟨m, 0, none⟩)] w fun e w' => e = .returned (.tuple #[]) ∧ Mk G w0 w' m p base room (trDoLeast base room s0) (n + 24) := by
  have c0 := h.c0
  have c1 := h.c1
  have c2 := h.c2
  have lm := cell_lt c0
  simp only at lm
  have H0 := Lib.hid h
  have HN := Lib.hid hn
  clear h hn
  go_enter Tryz.func36, Tryz.ntmps36
  go_wp2_with fail
  refine (mk_label H0.out (by have := HN.out; omega)).mono ?_
  clear c0 c1 c2 lm
  rintro e w1 ⟨rfl, h⟩
  have c0 := h.c0
  have c1 := h.c1
  have c2 := h.c2
  have lm := cell_lt c0
  simp only at lm
  have H1 := Lib.hid h
  clear h
  go_wp2_with fail
  refine (trget_lit _ _).mono ?_
  rintro e x ⟨rfl, rfl⟩
  go_wp2_with fail
  refine (trto_lit _ _ _).mono ?_
  rintro e x ⟨rfl, rfl⟩
  go_wp2_with fail
  refine (trmark_lit _ _).mono ?_
  rintro e x ⟨rfl, rfl⟩
  go_wp2_with fail
  refine (trplain_lit _ _).mono ?_
  rintro e x ⟨rfl, rfl⟩
  go_wp2_with fail
  refine (trdo_lit H1.out [.cells #[.int .i64 7] 3, .cells #[.int .i64 0] 3, .cells #[.int .i64 13] 3, .cells #[.int .i64 ((((s0).labels : Nat) : Int))] 3, .cells #[.int .i64 ((((s0).labels : Nat) : Int))] 3, .cells #[.int .i64 20] 3, .cells #[.int .i64 0] 3] [(.func (.func 85) #[] #[], 5, (fun base room s => trFirst base room s)), (.func (.func 166) #[] #[.pointer (some ⟨_ + 0, 0, none⟩), .pointer (some ⟨_ + 1, 0, none⟩)], 1, (fun base room s => s.add 7 0)), (.func (.func 135) #[] #[.pointer (some ⟨_ + 2, 0, none⟩), .pointer (some ⟨_ + 3, 0, none⟩)], 1, (fun base room s => s.to 13 ((((s0).labels : Nat) : Int)))), (.func (.func 87) #[] #[], 14, (fun base room s => trPair base room s)), (.func (.func 128) #[] #[.pointer (some ⟨_ + 4, 0, none⟩)], 1, (fun base room s => s.mark ((((s0).labels : Nat) : Int)))), (.func (.func 166) #[] #[.pointer (some ⟨_ + 5, 0, none⟩), .pointer (some ⟨_ + 6, 0, none⟩)], 1, (fun base room s => s.add 20 0))] (fun F hF => ⟨trFirst_ok, tradd_ok hF 0 _  _ rfl rfl, trto_ok hF 2 _  _ rfl rfl, trPair_ok, trmark_ok hF 4 _ rfl, tradd_ok hF 5 _  _ rfl rfl, trivial⟩) (by have := HN.out; simp only [sumD, List.foldl]; omega) (by simp)).mono ?_
  clear c0 c1 c2 lm
  rintro e w2 ⟨rfl, h'⟩
  have h : Mk G w0 w2 m p base room (((trPair base room (((trFirst base room s0.label).add 7 0).to 13 ((((s0).labels : Nat) : Int)))).mark ((((s0).labels : Nat) : Int))).add 20 0) (n + 24) := h'
  clear h'
  have c0 := h.c0
  have c1 := h.c1
  have c2 := h.c2
  have lm := cell_lt c0
  simp only at lm
  have H2 := Lib.hid h
  clear h
  go_wp2_with fail
  go_end0
  exact ⟨rfl, H2.out⟩
set_option maxRecDepth 100000 in
set_option maxHeartbeats 4000000 in
theorem trDoAfter_any {G : Nat → Prop} {w0 w : World} {m p : Nat} {base room : Int} {s0 : Asm} {n : Nat} (h : Mk G w0 w m p base room s0 n) (hn : n + 47 < 240) :
    Calls Tryz.prog 37 #[.pointer (some ⟨m, 0, none⟩)] w fun e w' => e = .returned (.tuple #[]) ∧ Mk G w0 w' m p base room (trDoAfter base room s0) (n + 47) := by
  have c0 := h.c0
  have c1 := h.c1
  have c2 := h.c2
  have lm := cell_lt c0
  simp only at lm
  have H0 := Lib.hid h
  have HN := Lib.hid hn
  clear h hn
  go_enter Tryz.func37, Tryz.ntmps37
  go_upto_region 0 with fail
  go_cut [2, 3, 4] (fun v0 v1 v2 wx => v0 = .int .i64 ((s0).labels : Int) ∧ v1 = .int .i64 ((s0.label).labels : Int) ∧ v2 = .int .i64 ((s0.label.label).labels : Int) ∧ Mk G w0 wx m p base room s0.label.label.label (n + 3))
  case first =>
    have HL := Lib.hid (fun w' => H0.out.quiet (w' := w'))
    go_region_law (first | (go_simp; go_at_call 70; refine (mk_label (by first | exact h2 | exact h2.quiet (Chg.refl _ _).drew) (by have := HN.out; omega)).mono ?_; rintro e x3 ⟨rfl, h3⟩; have d3 := h3.c0) | (go_simp; go_at_call 70; refine (mk_label (by first | exact h1 | exact h1.quiet (Chg.refl _ _).drew) (by have := HN.out; omega)).mono ?_; rintro e x2 ⟨rfl, h2⟩; have d2 := h2.c0) | (go_simp; go_at_call 70; refine (mk_label (HL.out _ (by first | exact (Chg.refl _ _).drew | exact Chg.refl _ _)) (by have := HN.out; omega)).mono ?_; rintro e x1 ⟨rfl, h1⟩; have d1 := h1.c0))
    all_goals
      go_wp2_with fail
      go_meet
      exact ⟨rfl, rfl, rfl, h3⟩
  obtain ⟨rfl, rfl, rfl, h⟩ := hcut
  clear c0 c1 c2 lm
  have c0 := h.c0
  have c1 := h.c1
  have c2 := h.c2
  have lm := cell_lt c0
  simp only at lm
  have H1 := Lib.hid h
  clear h
  go_wp2_with fail
  refine (trmark_lit _ _).mono ?_
  rintro e x ⟨rfl, rfl⟩
  go_wp2_with fail
  refine (trget_lit _ _).mono ?_
  rintro e x ⟨rfl, rfl⟩
  go_wp2_with fail
  refine (trto_lit _ _ _).mono ?_
  rintro e x ⟨rfl, rfl⟩
  go_wp2_with fail
  refine (trarg_lit _ _).mono ?_
  rintro e x ⟨rfl, rfl⟩
  go_wp2_with fail
  refine (trpart_lit _ _).mono ?_
  rintro e x ⟨rfl, rfl⟩
  go_wp2_with fail
  refine (trtwo_lit _ _).mono ?_
  rintro e x ⟨rfl, rfl⟩
  go_wp2_with fail
  refine (trto_lit _ _ _).mono ?_
  rintro e x ⟨rfl, rfl⟩
  go_wp2_with fail
  refine (trto_lit _ _ _).mono ?_
  rintro e x ⟨rfl, rfl⟩
  go_wp2_with fail
  refine (trdo_lit H1.out [.cells #[.int .i64 ((((s0).labels : Nat) : Int))] 3, .cells #[.int .i64 7] 3, .cells #[.int .i64 0] 3, .cells #[.int .i64 13] 3, .cells #[.int .i64 ((((s0.label.label).labels : Nat) : Int))] 3, .cells #[.int .i64 6] 3, .cells #[.int .i64 0] 3, .cells #[.int .i64 0] 3, .cells #[.int .i64 10] 3, .cells #[.int .i64 12] 3, .cells #[.int .i64 12] 3, .cells #[.int .i64 ((((s0.label).labels : Nat) : Int))] 3, .cells #[.int .i64 11] 3, .cells #[.int .i64 ((((s0).labels : Nat) : Int))] 3] [(.func (.func 85) #[] #[], 5, (fun base room s => trFirst base room s)), (.func (.func 128) #[] #[.pointer (some ⟨_ + 0, 0, none⟩)], 1, (fun base room s => s.mark ((((s0).labels : Nat) : Int)))), (.func (.func 166) #[] #[.pointer (some ⟨_ + 1, 0, none⟩), .pointer (some ⟨_ + 2, 0, none⟩)], 1, (fun base room s => s.add 7 0)), (.func (.func 135) #[] #[.pointer (some ⟨_ + 3, 0, none⟩), .pointer (some ⟨_ + 4, 0, none⟩)], 1, (fun base room s => s.to 13 ((((s0.label.label).labels : Nat) : Int)))), (.func (.func 166) #[] #[.pointer (some ⟨_ + 5, 0, none⟩), .pointer (some ⟨_ + 6, 0, none⟩)], 1, (fun base room s => s.add 6 0)), (.func (.func 126) #[] #[.pointer (some ⟨_ + 7, 0, none⟩)], 6, (fun base room s => trPart base room 0 s)), (.func (.func 166) #[] #[.pointer (some ⟨_ + 8, 0, none⟩), .pointer (some ⟨_ + 9, 0, none⟩)], 1, (fun base room s => s.add 10 12)), (.func (.func 135) #[] #[.pointer (some ⟨_ + 10, 0, none⟩), .pointer (some ⟨_ + 11, 0, none⟩)], 1, (fun base room s => s.to 12 ((((s0.label).labels : Nat) : Int)))), (.func (.func 89) #[] #[], 9, (fun base room s => trOn base room s)), (.func (.func 135) #[] #[.pointer (some ⟨_ + 12, 0, none⟩), .pointer (some ⟨_ + 13, 0, none⟩)], 1, (fun base room s => s.to 11 ((((s0).labels : Nat) : Int))))] (fun F hF => ⟨trFirst_ok, trmark_ok hF 0 _ rfl, tradd_ok hF 1 _  _ rfl rfl, trto_ok hF 3 _  _ rfl rfl, tradd_ok hF 5 _  _ rfl rfl, trpart_ok hF 7 _ rfl, tradd_ok hF 8 _  _ rfl rfl, trto_ok hF 10 _  _ rfl rfl, trOn_ok, trto_ok hF 12 _  _ rfl rfl, trivial⟩) (by have := HN.out; simp only [sumD, List.foldl]; omega) (by simp)).mono ?_
  clear c0 c1 c2 lm
  rintro e w2 ⟨rfl, h'⟩
  have h : Mk G w0 w2 m p base room ((trOn base room (((trPart base room 0 (((((trFirst base room s0.label.label.label).mark ((((s0).labels : Nat) : Int))).add 7 0).to 13 ((((s0.label.label).labels : Nat) : Int))).add 6 0)).add 10 12).to 12 ((((s0.label).labels : Nat) : Int)))).to 11 ((((s0).labels : Nat) : Int))) (n + 30) := h'
  clear h'
  have c0 := h.c0
  have c1 := h.c1
  have c2 := h.c2
  have lm := cell_lt c0
  simp only at lm
  have H2 := Lib.hid h
  clear h
  go_wp2_with fail
  refine (trmark_lit _ _).mono ?_
  rintro e x ⟨rfl, rfl⟩
  go_wp2_with fail
  refine (trmark_lit _ _).mono ?_
  rintro e x ⟨rfl, rfl⟩
  go_wp2_with fail
  refine (trplain_lit _ _).mono ?_
  rintro e x ⟨rfl, rfl⟩
  go_wp2_with fail
  refine (trdo_lit H2.out [.cells #[.int .i64 ((((s0.label).labels : Nat) : Int))] 3, .cells #[.int .i64 ((((s0.label.label).labels : Nat) : Int))] 3, .cells #[.int .i64 20] 3, .cells #[.int .i64 0] 3] [(.func (.func 128) #[] #[.pointer (some ⟨_ + 0, 0, none⟩)], 1, (fun base room s => s.mark ((((s0.label).labels : Nat) : Int)))), (.func (.func 87) #[] #[], 14, (fun base room s => trPair base room s)), (.func (.func 128) #[] #[.pointer (some ⟨_ + 1, 0, none⟩)], 1, (fun base room s => s.mark ((((s0.label.label).labels : Nat) : Int)))), (.func (.func 166) #[] #[.pointer (some ⟨_ + 2, 0, none⟩), .pointer (some ⟨_ + 3, 0, none⟩)], 1, (fun base room s => s.add 20 0))] (fun F hF => ⟨trmark_ok hF 0 _ rfl, trPair_ok, trmark_ok hF 1 _ rfl, tradd_ok hF 2 _  _ rfl rfl, trivial⟩) (by have := HN.out; simp only [sumD, List.foldl]; omega) (by simp)).mono ?_
  clear c0 c1 c2 lm
  rintro e w3 ⟨rfl, h'⟩
  have h : Mk G w0 w3 m p base room (((trPair base room (((trOn base room (((trPart base room 0 (((((trFirst base room s0.label.label.label).mark ((((s0).labels : Nat) : Int))).add 7 0).to 13 ((((s0.label.label).labels : Nat) : Int))).add 6 0)).add 10 12).to 12 ((((s0.label).labels : Nat) : Int)))).to 11 ((((s0).labels : Nat) : Int))).mark ((((s0.label).labels : Nat) : Int)))).mark ((((s0.label.label).labels : Nat) : Int))).add 20 0) (n + 47) := h'
  clear h'
  have c0 := h.c0
  have c1 := h.c1
  have c2 := h.c2
  have lm := cell_lt c0
  simp only at lm
  have H3 := Lib.hid h
  clear h
  go_wp2_with fail
  go_end0
  exact ⟨rfl, H3.out⟩
set_option maxRecDepth 100000 in
set_option maxHeartbeats 4000000 in
theorem trDoLen_any {G : Nat → Prop} {w0 w : World} {m p : Nat} {base room : Int} {s0 : Asm} {n : Nat} (h : Mk G w0 w m p base room s0 n) (hn : n + 4 < 240) :
    Calls Tryz.prog 38 #[.pointer (some ⟨m, 0, none⟩)] w fun e w' => e = .returned (.tuple #[]) ∧ Mk G w0 w' m p base room (trDoLen base room s0) (n + 4) := by
  have c0 := h.c0
  have c1 := h.c1
  have c2 := h.c2
  have lm := cell_lt c0
  simp only at lm
  have H0 := Lib.hid h
  have HN := Lib.hid hn
  clear h hn
  go_enter Tryz.func38, Tryz.ntmps38
  go_wp2_with fail
  refine (trcell_lit _ _).mono ?_
  rintro e x ⟨rfl, rfl⟩
  go_wp2_with fail
  refine (trplain_lit _ _).mono ?_
  rintro e x ⟨rfl, rfl⟩
  go_wp2_with fail
  refine (trplain_lit _ _).mono ?_
  rintro e x ⟨rfl, rfl⟩
  go_wp2_with fail
  refine (trplain_lit _ _).mono ?_
  rintro e x ⟨rfl, rfl⟩
  go_wp2_with fail
  refine (trdo_lit H0.out [.cells #[.int .i64 3] 3, .cells #[.int .i64 16] 3, .cells #[.int .i64 0] 3, .cells #[.int .i64 18] 3, .cells #[.int .i64 0] 3, .cells #[.int .i64 20] 3, .cells #[.int .i64 0] 3] [(.func (.func 134) #[] #[.pointer (some ⟨_ + 0, 0, none⟩)], 1, (fun base room s => s.push (floatOfInt .f64 (wrap64 (base + 3))))), (.func (.func 166) #[] #[.pointer (some ⟨_ + 1, 0, none⟩), .pointer (some ⟨_ + 2, 0, none⟩)], 1, (fun base room s => s.add 16 0)), (.func (.func 166) #[] #[.pointer (some ⟨_ + 3, 0, none⟩), .pointer (some ⟨_ + 4, 0, none⟩)], 1, (fun base room s => s.add 18 0)), (.func (.func 166) #[] #[.pointer (some ⟨_ + 5, 0, none⟩), .pointer (some ⟨_ + 6, 0, none⟩)], 1, (fun base room s => s.add 20 0))] (fun F hF => ⟨trcell_ok hF 0 _ rfl, tradd_ok hF 1 _  _ rfl rfl, tradd_ok hF 3 _  _ rfl rfl, tradd_ok hF 5 _  _ rfl rfl, trivial⟩) (by have := HN.out; simp only [sumD, List.foldl]; omega) (by simp)).mono ?_
  clear c0 c1 c2 lm
  rintro e w1 ⟨rfl, h'⟩
  have h : Mk G w0 w1 m p base room ((((s0.push (floatOfInt .f64 (wrap64 (base + 3)))).add 16 0).add 18 0).add 20 0) (n + 4) := h'
  clear h'
  have c0 := h.c0
  have c1 := h.c1
  have c2 := h.c2
  have lm := cell_lt c0
  simp only at lm
  have H1 := Lib.hid h
  clear h
  go_wp2_with fail
  go_end0
  exact ⟨rfl, H1.out⟩
set_option maxRecDepth 100000 in
set_option maxHeartbeats 4000000 in
theorem trDoAll_any {G : Nat → Prop} {w0 w : World} {m p : Nat} {base room : Int} {s0 : Asm} {n : Nat} (h : Mk G w0 w m p base room s0 n) (hn : n + 36 < 240) :
    Calls Tryz.prog 39 #[.pointer (some ⟨m, 0, none⟩)] w fun e w' => e = .returned (.tuple #[]) ∧ Mk G w0 w' m p base room (trDoAll base room s0) (n + 36) := by
  have c0 := h.c0
  have c1 := h.c1
  have c2 := h.c2
  have lm := cell_lt c0
  simp only at lm
  have H0 := Lib.hid h
  have HN := Lib.hid hn
  clear h hn
  go_enter Tryz.func39, Tryz.ntmps39
  go_upto_region 0 with fail
  go_cut [2, 3] (fun v0 v1 wx => v0 = .int .i64 ((s0).labels : Int) ∧ v1 = .int .i64 ((s0.label).labels : Int) ∧ Mk G w0 wx m p base room s0.label.label (n + 2))
  case first =>
    have HL := Lib.hid (fun w' => H0.out.quiet (w' := w'))
    go_region_law (first | (go_simp; go_at_call 70; refine (mk_label (by first | exact h1 | exact h1.quiet (Chg.refl _ _).drew) (by have := HN.out; omega)).mono ?_; rintro e x2 ⟨rfl, h2⟩; have d2 := h2.c0) | (go_simp; go_at_call 70; refine (mk_label (HL.out _ (by first | exact (Chg.refl _ _).drew | exact Chg.refl _ _)) (by have := HN.out; omega)).mono ?_; rintro e x1 ⟨rfl, h1⟩; have d1 := h1.c0))
    all_goals
      go_wp2_with fail
      go_meet
      exact ⟨rfl, rfl, h2⟩
  obtain ⟨rfl, rfl, h⟩ := hcut
  clear c0 c1 c2 lm
  have c0 := h.c0
  have c1 := h.c1
  have c2 := h.c2
  have lm := cell_lt c0
  simp only at lm
  have H1 := Lib.hid h
  clear h
  go_wp2_with fail
  refine (trmark_lit _ _).mono ?_
  rintro e x ⟨rfl, rfl⟩
  go_wp2_with fail
  refine (trget_lit _ _).mono ?_
  rintro e x ⟨rfl, rfl⟩
  go_wp2_with fail
  refine (trto_lit _ _ _).mono ?_
  rintro e x ⟨rfl, rfl⟩
  go_wp2_with fail
  refine (trto_lit _ _ _).mono ?_
  rintro e x ⟨rfl, rfl⟩
  go_wp2_with fail
  refine (trmark_lit _ _).mono ?_
  rintro e x ⟨rfl, rfl⟩
  go_wp2_with fail
  refine (trplain_lit _ _).mono ?_
  rintro e x ⟨rfl, rfl⟩
  go_wp2_with fail
  refine (trdo_lit H1.out [.cells #[.int .i64 ((((s0).labels : Nat) : Int))] 3, .cells #[.int .i64 7] 3, .cells #[.int .i64 0] 3, .cells #[.int .i64 13] 3, .cells #[.int .i64 ((((s0.label).labels : Nat) : Int))] 3, .cells #[.int .i64 11] 3, .cells #[.int .i64 ((((s0).labels : Nat) : Int))] 3, .cells #[.int .i64 ((((s0.label).labels : Nat) : Int))] 3, .cells #[.int .i64 20] 3, .cells #[.int .i64 0] 3] [(.func (.func 85) #[] #[], 5, (fun base room s => trFirst base room s)), (.func (.func 128) #[] #[.pointer (some ⟨_ + 0, 0, none⟩)], 1, (fun base room s => s.mark ((((s0).labels : Nat) : Int)))), (.func (.func 166) #[] #[.pointer (some ⟨_ + 1, 0, none⟩), .pointer (some ⟨_ + 2, 0, none⟩)], 1, (fun base room s => s.add 7 0)), (.func (.func 135) #[] #[.pointer (some ⟨_ + 3, 0, none⟩), .pointer (some ⟨_ + 4, 0, none⟩)], 1, (fun base room s => s.to 13 ((((s0.label).labels : Nat) : Int)))), (.func (.func 87) #[] #[], 14, (fun base room s => trPair base room s)), (.func (.func 89) #[] #[], 9, (fun base room s => trOn base room s)), (.func (.func 135) #[] #[.pointer (some ⟨_ + 5, 0, none⟩), .pointer (some ⟨_ + 6, 0, none⟩)], 1, (fun base room s => s.to 11 ((((s0).labels : Nat) : Int)))), (.func (.func 128) #[] #[.pointer (some ⟨_ + 7, 0, none⟩)], 1, (fun base room s => s.mark ((((s0.label).labels : Nat) : Int)))), (.func (.func 166) #[] #[.pointer (some ⟨_ + 8, 0, none⟩), .pointer (some ⟨_ + 9, 0, none⟩)], 1, (fun base room s => s.add 20 0))] (fun F hF => ⟨trFirst_ok, trmark_ok hF 0 _ rfl, tradd_ok hF 1 _  _ rfl rfl, trto_ok hF 3 _  _ rfl rfl, trPair_ok, trOn_ok, trto_ok hF 5 _  _ rfl rfl, trmark_ok hF 7 _ rfl, tradd_ok hF 8 _  _ rfl rfl, trivial⟩) (by have := HN.out; simp only [sumD, List.foldl]; omega) (by simp)).mono ?_
  clear c0 c1 c2 lm
  rintro e w2 ⟨rfl, h'⟩
  have h : Mk G w0 w2 m p base room ((((trOn base room (trPair base room ((((trFirst base room s0.label.label).mark ((((s0).labels : Nat) : Int))).add 7 0).to 13 ((((s0.label).labels : Nat) : Int))))).to 11 ((((s0).labels : Nat) : Int))).mark ((((s0.label).labels : Nat) : Int))).add 20 0) (n + 36) := h'
  clear h'
  have c0 := h.c0
  have c1 := h.c1
  have c2 := h.c2
  have lm := cell_lt c0
  simp only at lm
  have H2 := Lib.hid h
  clear h
  go_wp2_with fail
  go_end0
  exact ⟨rfl, H2.out⟩
end Go.Proofs.YtgeapkalabijmaaGreat
