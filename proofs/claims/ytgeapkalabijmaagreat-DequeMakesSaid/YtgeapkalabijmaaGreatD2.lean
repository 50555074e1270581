/- A deque's programs: what Make's literal makes of each part. Printed by gen/deque2.py. -/
import Derived.Test.YtgeapkalabijmaaGreatD1
import Derived.Test.YtgeapkalabijmaaGreatDM
namespace Go.Proofs.YtgeapkalabijmaaGreat
open Go Go.RowKit
set_option maxRecDepth 100000
set_option maxHeartbeats 1000000
set_option linter.unusedVariables false
set_option linter.unusedSimpArgs false

theorem dqmk1_results {tmps : Array Value} {W : World} {r0 : Nat} {a b : Value} {T : TypeId} {fr : Nat × Nat} (h2 : tmps.getD 6 undef = .pointer (some ⟨r0, 0, none⟩)) (hb : W.heap[r0]? = some (.cells #[a, b] T fr)) :
    (results Tryz.f44 tmps).run Tryz.prog W = .ok (.agg #[a, b]) W := by
  have h2' : tmps[6]?.getD undef = .pointer (some ⟨r0, 0, none⟩) := by simpa using h2
  have hl := run_loadVar_row (P := Tryz.prog) W r0 T 26 #[a, b] fr _ hb Tryz.underlying26 rfl (by kernel_rfl)
  have k0 : W.cell? ⟨r0, 0, none⟩ = some a := by rw [blk_cell hb]; rfl
  have k1 : W.cell? ⟨r0, 1, none⟩ = some b := by rw [blk_cell hb]; rfl
  simp [results, Tryz.results44, h2', asAddr, hl, k0, k1, go_sem]

set_option maxRecDepth 100000 in
set_option maxHeartbeats 4000000 in
theorem dqMake_PushFront (w : World) (tag base room : Int) (b r : Nat) (hb : w.cell? ⟨b, 0, none⟩ = some (.int .i64 base)) (hr : w.cell? ⟨r, 0, none⟩ = some (.int .i64 room)) (x : Nat) (hx : w.cell? ⟨x, 0, none⟩ = some (.func (.func 47) #[] #[])) :
    Calls Tryz.prog 44 #[.int .i64 tag, .func (.func 93) #[] #[.pointer (some ⟨x, 0, none⟩)], .pointer (some ⟨b, 0, none⟩), .pointer (some ⟨r, 0, none⟩)] w fun e w' => ∃ t a l c, e = .returned (.agg #[.int .i64 t, .slice a l c]) ∧ ProgAt w' w.heap.size ((dqPush_ahead1 base room ⟨tag, [], [], 0, []⟩).add 20 0) (.agg #[.int .i64 t, .slice a l c]) ∧ Chg w w' Nothing := by
  have HB := Lib.hid hb
  have HR := Lib.hid hr
  have HX := Lib.hid hx
  clear hx
  clear hb hr
  go_enter Tryz.func44, Tryz.ntmps44
  obtain ⟨wA, hwA⟩ : ∃ wA, wA = w.alloc (.cells #[.int .i64 0, .slice none 0 0] 26) := ⟨_, rfl⟩
  have hcA : Chg w wA Nothing := by rw [hwA]; exact (Chg.refl _ _).alloc _
  have hzA : wA.heap.size = w.heap.size + 1 := by rw [hwA]; simp
  have hbA : wA.heap[w.heap.size]? = some (.cells #[.int .i64 0, .slice none 0 0] 26 (0, 0)) := by rw [hwA]; exact heap_alloc_new w _
  have cb := hcA.cell HB.out id
  have cr := hcA.cell HR.out id
  have cx := hcA.cell HX.out id
  have CX := Lib.hid cx
  have CA := Lib.hid hcA
  have ZA := Lib.hid hzA
  have BA := Lib.hid hbA
  have WA := Lib.hid hwA
  clear hcA hzA hbA hwA
  go_upto_region 1 with fail
  rw [← WA.out]
  go_cut [7] (fun v wx => ∃ m p, v = .pointer (some ⟨m, 0, none⟩) ∧ Mk Nothing wA wx m p base room ⟨tag, [], [], 0, []⟩ 0)
  case first =>
    go_region_law (first | (go_simp; go_at_call 31; refine (new_any tag _).mono ?_; rintro e w1 ⟨p, rfl, hp, b1, c1'⟩; have c1 : Chg wA w1 Nothing := ⟨c1'.os, c1'.tape, c1'.output, c1'.size, c1'.block⟩; have cb := c1.cell cb id; have cr := c1.cell cr id; have MK := Lib.hid (Mk.ofNew (wA := wA) b1 hp c1 base room 79)))
    all_goals
      go_wp2_with fail
      go_meet
      exact ⟨_, _, rfl, MK.out⟩
  obtain ⟨m, p, rfl, h⟩ := hcut
  clear cb cr cx
  have c0 := h.c0
  have cx := h.old.cell CX.out id
  have H0 := Lib.hid h
  clear h
  go_wp2_with fail
  refine (dqPush_ahead1_any ⟨CX.out, id⟩ H0.out (by decide)).mono ?_
  clear c0 cx
  rintro e w1 ⟨rfl, h⟩
  have c0 := h.c0
  have H1 := Lib.hid h
  clear h
  go_wp2_with fail
  refine (dqop1_any H1.out 20 (by decide)).mono ?_
  clear c0
  rintro e w2 ⟨rfl, h⟩
  have c0 := h.c0
  have H2 := Lib.hid h
  clear h
  go_wp2_with fail
  refine (mk_program H2.out (by decide)).mono ?_
  clear c0
  rintro e w3 ⟨v, rfl, h, hp⟩
  obtain ⟨x1, y1, y2, y3, rfl⟩ := hp.two
  have hbs : w3.heap[w.heap.size]? = some (.cells #[.int .i64 0, .slice none 0 0] 26 (0, 0)) := (h.old.block _ (by rw [ZA.out]; omega) id).trans BA.out
  have e0 : w3.cell? ⟨w.heap.size, 0, none⟩ = some (.int .i64 0) := blk_cell hbs 0
  have e1 : w3.cell? ⟨w.heap.size, 1, none⟩ = some (.slice none 0 0) := blk_cell hbs 1
  have e2 : w3.frozen? ⟨w.heap.size, 0, none⟩ = false := blk_free hbs 0
  have e3 : w3.frozen? ⟨w.heap.size, 1, none⟩ = false := blk_free hbs 1
  have hlt := cell_lt e0
  simp only at hlt
  have hne : ¬ w.heap.size = w3.heap.size := by omega
  have H3 := Lib.hid h
  have HP := Lib.hid hp
  have HZ := Lib.hid (show w.heap.size < w2.heap.size from by have := H2.out.old.size; have := ZA.out; omega)
  have BS := Lib.hid hbs
  clear h hp hbs
  go_wp2_with fail
  refine bodyPost_ret (dqmk1_results rfl (two_done BS.out)) rfl ?_
  exact ⟨_, _, _, _, rfl, prog_done HP.out HZ.out, made_done CA.out H3.out.old⟩

set_option maxRecDepth 100000 in
set_option maxHeartbeats 4000000 in
theorem dqMake_PushBack (w : World) (tag base room : Int) (b r : Nat) (hb : w.cell? ⟨b, 0, none⟩ = some (.int .i64 base)) (hr : w.cell? ⟨r, 0, none⟩ = some (.int .i64 room)) (x : Nat) (hx : w.cell? ⟨x, 0, none⟩ = some (.func (.func 48) #[] #[])) :
    Calls Tryz.prog 44 #[.int .i64 tag, .func (.func 93) #[] #[.pointer (some ⟨x, 0, none⟩)], .pointer (some ⟨b, 0, none⟩), .pointer (some ⟨r, 0, none⟩)] w fun e w' => ∃ t a l c, e = .returned (.agg #[.int .i64 t, .slice a l c]) ∧ ProgAt w' w.heap.size ((dqPush_behind base room ⟨tag, [], [], 0, []⟩).add 20 0) (.agg #[.int .i64 t, .slice a l c]) ∧ Chg w w' Nothing := by
  have HB := Lib.hid hb
  have HR := Lib.hid hr
  have HX := Lib.hid hx
  clear hx
  clear hb hr
  go_enter Tryz.func44, Tryz.ntmps44
  obtain ⟨wA, hwA⟩ : ∃ wA, wA = w.alloc (.cells #[.int .i64 0, .slice none 0 0] 26) := ⟨_, rfl⟩
  have hcA : Chg w wA Nothing := by rw [hwA]; exact (Chg.refl _ _).alloc _
  have hzA : wA.heap.size = w.heap.size + 1 := by rw [hwA]; simp
  have hbA : wA.heap[w.heap.size]? = some (.cells #[.int .i64 0, .slice none 0 0] 26 (0, 0)) := by rw [hwA]; exact heap_alloc_new w _
  have cb := hcA.cell HB.out id
  have cr := hcA.cell HR.out id
  have cx := hcA.cell HX.out id
  have CX := Lib.hid cx
  have CA := Lib.hid hcA
  have ZA := Lib.hid hzA
  have BA := Lib.hid hbA
  have WA := Lib.hid hwA
  clear hcA hzA hbA hwA
  go_upto_region 1 with fail
  rw [← WA.out]
  go_cut [7] (fun v wx => ∃ m p, v = .pointer (some ⟨m, 0, none⟩) ∧ Mk Nothing wA wx m p base room ⟨tag, [], [], 0, []⟩ 0)
  case first =>
    go_region_law (first | (go_simp; go_at_call 31; refine (new_any tag _).mono ?_; rintro e w1 ⟨p, rfl, hp, b1, c1'⟩; have c1 : Chg wA w1 Nothing := ⟨c1'.os, c1'.tape, c1'.output, c1'.size, c1'.block⟩; have cb := c1.cell cb id; have cr := c1.cell cr id; have MK := Lib.hid (Mk.ofNew (wA := wA) b1 hp c1 base room 79)))
    all_goals
      go_wp2_with fail
      go_meet
      exact ⟨_, _, rfl, MK.out⟩
  obtain ⟨m, p, rfl, h⟩ := hcut
  clear cb cr cx
  have c0 := h.c0
  have cx := h.old.cell CX.out id
  have H0 := Lib.hid h
  clear h
  go_wp2_with fail
  refine (dqPush_behind_any ⟨CX.out, id⟩ H0.out (by decide)).mono ?_
  clear c0 cx
  rintro e w1 ⟨rfl, h⟩
  have c0 := h.c0
  have H1 := Lib.hid h
  clear h
  go_wp2_with fail
  refine (dqop1_any H1.out 20 (by decide)).mono ?_
  clear c0
  rintro e w2 ⟨rfl, h⟩
  have c0 := h.c0
  have H2 := Lib.hid h
  clear h
  go_wp2_with fail
  refine (mk_program H2.out (by decide)).mono ?_
  clear c0
  rintro e w3 ⟨v, rfl, h, hp⟩
  obtain ⟨x1, y1, y2, y3, rfl⟩ := hp.two
  have hbs : w3.heap[w.heap.size]? = some (.cells #[.int .i64 0, .slice none 0 0] 26 (0, 0)) := (h.old.block _ (by rw [ZA.out]; omega) id).trans BA.out
  have e0 : w3.cell? ⟨w.heap.size, 0, none⟩ = some (.int .i64 0) := blk_cell hbs 0
  have e1 : w3.cell? ⟨w.heap.size, 1, none⟩ = some (.slice none 0 0) := blk_cell hbs 1
  have e2 : w3.frozen? ⟨w.heap.size, 0, none⟩ = false := blk_free hbs 0
  have e3 : w3.frozen? ⟨w.heap.size, 1, none⟩ = false := blk_free hbs 1
  have hlt := cell_lt e0
  simp only at hlt
  have hne : ¬ w.heap.size = w3.heap.size := by omega
  have H3 := Lib.hid h
  have HP := Lib.hid hp
  have HZ := Lib.hid (show w.heap.size < w2.heap.size from by have := H2.out.old.size; have := ZA.out; omega)
  have BS := Lib.hid hbs
  clear h hp hbs
  go_wp2_with fail
  refine bodyPost_ret (dqmk1_results rfl (two_done BS.out)) rfl ?_
  exact ⟨_, _, _, _, rfl, prog_done HP.out HZ.out, made_done CA.out H3.out.old⟩

set_option maxRecDepth 100000 in
set_option maxHeartbeats 4000000 in
theorem dqMake_PopFront (w : World) (tag base room : Int) (b r : Nat) (hb : w.cell? ⟨b, 0, none⟩ = some (.int .i64 base)) (hr : w.cell? ⟨r, 0, none⟩ = some (.int .i64 room)) (x : Nat) (hx : w.cell? ⟨x, 0, none⟩ = some (.func (.func 50) #[] #[])) :
    Calls Tryz.prog 44 #[.int .i64 tag, .func (.func 103) #[] #[.pointer (some ⟨x, 0, none⟩)], .pointer (some ⟨b, 0, none⟩), .pointer (some ⟨r, 0, none⟩)] w fun e w' => ∃ t a l c, e = .returned (.agg #[.int .i64 t, .slice a l c]) ∧ ProgAt w' w.heap.size ((dqPop_front base room ⟨tag, [], [], 0, []⟩).add 20 0) (.agg #[.int .i64 t, .slice a l c]) ∧ Chg w w' Nothing := by
  have HB := Lib.hid hb
  have HR := Lib.hid hr
  have HX := Lib.hid hx
  clear hx
  clear hb hr
  go_enter Tryz.func44, Tryz.ntmps44
  obtain ⟨wA, hwA⟩ : ∃ wA, wA = w.alloc (.cells #[.int .i64 0, .slice none 0 0] 26) := ⟨_, rfl⟩
  have hcA : Chg w wA Nothing := by rw [hwA]; exact (Chg.refl _ _).alloc _
  have hzA : wA.heap.size = w.heap.size + 1 := by rw [hwA]; simp
  have hbA : wA.heap[w.heap.size]? = some (.cells #[.int .i64 0, .slice none 0 0] 26 (0, 0)) := by rw [hwA]; exact heap_alloc_new w _
  have cb := hcA.cell HB.out id
  have cr := hcA.cell HR.out id
  have cx := hcA.cell HX.out id
  have CX := Lib.hid cx
  have CA := Lib.hid hcA
  have ZA := Lib.hid hzA
  have BA := Lib.hid hbA
  have WA := Lib.hid hwA
  clear hcA hzA hbA hwA
  go_upto_region 1 with fail
  rw [← WA.out]
  go_cut [7] (fun v wx => ∃ m p, v = .pointer (some ⟨m, 0, none⟩) ∧ Mk Nothing wA wx m p base room ⟨tag, [], [], 0, []⟩ 0)
  case first =>
    go_region_law (first | (go_simp; go_at_call 31; refine (new_any tag _).mono ?_; rintro e w1 ⟨p, rfl, hp, b1, c1'⟩; have c1 : Chg wA w1 Nothing := ⟨c1'.os, c1'.tape, c1'.output, c1'.size, c1'.block⟩; have cb := c1.cell cb id; have cr := c1.cell cr id; have MK := Lib.hid (Mk.ofNew (wA := wA) b1 hp c1 base room 79)))
    all_goals
      go_wp2_with fail
      go_meet
      exact ⟨_, _, rfl, MK.out⟩
  obtain ⟨m, p, rfl, h⟩ := hcut
  clear cb cr cx
  have c0 := h.c0
  have cx := h.old.cell CX.out id
  have H0 := Lib.hid h
  clear h
  go_wp2_with fail
  refine (dqPop_front_any ⟨CX.out, id⟩ H0.out (by decide)).mono ?_
  clear c0 cx
  rintro e w1 ⟨rfl, h⟩
  have c0 := h.c0
  have H1 := Lib.hid h
  clear h
  go_wp2_with fail
  refine (dqop1_any H1.out 20 (by decide)).mono ?_
  clear c0
  rintro e w2 ⟨rfl, h⟩
  have c0 := h.c0
  have H2 := Lib.hid h
  clear h
  go_wp2_with fail
  refine (mk_program H2.out (by decide)).mono ?_
  clear c0
  rintro e w3 ⟨v, rfl, h, hp⟩
  obtain ⟨x1, y1, y2, y3, rfl⟩ := hp.two
  have hbs : w3.heap[w.heap.size]? = some (.cells #[.int .i64 0, .slice none 0 0] 26 (0, 0)) := (h.old.block _ (by rw [ZA.out]; omega) id).trans BA.out
  have e0 : w3.cell? ⟨w.heap.size, 0, none⟩ = some (.int .i64 0) := blk_cell hbs 0
  have e1 : w3.cell? ⟨w.heap.size, 1, none⟩ = some (.slice none 0 0) := blk_cell hbs 1
  have e2 : w3.frozen? ⟨w.heap.size, 0, none⟩ = false := blk_free hbs 0
  have e3 : w3.frozen? ⟨w.heap.size, 1, none⟩ = false := blk_free hbs 1
  have hlt := cell_lt e0
  simp only at hlt
  have hne : ¬ w.heap.size = w3.heap.size := by omega
  have H3 := Lib.hid h
  have HP := Lib.hid hp
  have HZ := Lib.hid (show w.heap.size < w2.heap.size from by have := H2.out.old.size; have := ZA.out; omega)
  have BS := Lib.hid hbs
  clear h hp hbs
  go_wp2_with fail
  refine bodyPost_ret (dqmk1_results rfl (two_done BS.out)) rfl ?_
  exact ⟨_, _, _, _, rfl, prog_done HP.out HZ.out, made_done CA.out H3.out.old⟩

set_option maxRecDepth 100000 in
set_option maxHeartbeats 4000000 in
theorem dqMake_PopBack (w : World) (tag base room : Int) (b r : Nat) (hb : w.cell? ⟨b, 0, none⟩ = some (.int .i64 base)) (hr : w.cell? ⟨r, 0, none⟩ = some (.int .i64 room)) (x : Nat) (hx : w.cell? ⟨x, 0, none⟩ = some (.func (.func 51) #[] #[])) :
    Calls Tryz.prog 44 #[.int .i64 tag, .func (.func 103) #[] #[.pointer (some ⟨x, 0, none⟩)], .pointer (some ⟨b, 0, none⟩), .pointer (some ⟨r, 0, none⟩)] w fun e w' => ∃ t a l c, e = .returned (.agg #[.int .i64 t, .slice a l c]) ∧ ProgAt w' w.heap.size ((dqPop_back base room ⟨tag, [], [], 0, []⟩).add 20 0) (.agg #[.int .i64 t, .slice a l c]) ∧ Chg w w' Nothing := by
  have HB := Lib.hid hb
  have HR := Lib.hid hr
  have HX := Lib.hid hx
  clear hx
  clear hb hr
  go_enter Tryz.func44, Tryz.ntmps44
  obtain ⟨wA, hwA⟩ : ∃ wA, wA = w.alloc (.cells #[.int .i64 0, .slice none 0 0] 26) := ⟨_, rfl⟩
  have hcA : Chg w wA Nothing := by rw [hwA]; exact (Chg.refl _ _).alloc _
  have hzA : wA.heap.size = w.heap.size + 1 := by rw [hwA]; simp
  have hbA : wA.heap[w.heap.size]? = some (.cells #[.int .i64 0, .slice none 0 0] 26 (0, 0)) := by rw [hwA]; exact heap_alloc_new w _
  have cb := hcA.cell HB.out id
  have cr := hcA.cell HR.out id
  have cx := hcA.cell HX.out id
  have CX := Lib.hid cx
  have CA := Lib.hid hcA
  have ZA := Lib.hid hzA
  have BA := Lib.hid hbA
  have WA := Lib.hid hwA
  clear hcA hzA hbA hwA
  go_upto_region 1 with fail
  rw [← WA.out]
  go_cut [7] (fun v wx => ∃ m p, v = .pointer (some ⟨m, 0, none⟩) ∧ Mk Nothing wA wx m p base room ⟨tag, [], [], 0, []⟩ 0)
  case first =>
    go_region_law (first | (go_simp; go_at_call 31; refine (new_any tag _).mono ?_; rintro e w1 ⟨p, rfl, hp, b1, c1'⟩; have c1 : Chg wA w1 Nothing := ⟨c1'.os, c1'.tape, c1'.output, c1'.size, c1'.block⟩; have cb := c1.cell cb id; have cr := c1.cell cr id; have MK := Lib.hid (Mk.ofNew (wA := wA) b1 hp c1 base room 79)))
    all_goals
      go_wp2_with fail
      go_meet
      exact ⟨_, _, rfl, MK.out⟩
  obtain ⟨m, p, rfl, h⟩ := hcut
  clear cb cr cx
  have c0 := h.c0
  have cx := h.old.cell CX.out id
  have H0 := Lib.hid h
  clear h
  go_wp2_with fail
  refine (dqPop_back_any ⟨CX.out, id⟩ H0.out (by decide)).mono ?_
  clear c0 cx
  rintro e w1 ⟨rfl, h⟩
  have c0 := h.c0
  have H1 := Lib.hid h
  clear h
  go_wp2_with fail
  refine (dqop1_any H1.out 20 (by decide)).mono ?_
  clear c0
  rintro e w2 ⟨rfl, h⟩
  have c0 := h.c0
  have H2 := Lib.hid h
  clear h
  go_wp2_with fail
  refine (mk_program H2.out (by decide)).mono ?_
  clear c0
  rintro e w3 ⟨v, rfl, h, hp⟩
  obtain ⟨x1, y1, y2, y3, rfl⟩ := hp.two
  have hbs : w3.heap[w.heap.size]? = some (.cells #[.int .i64 0, .slice none 0 0] 26 (0, 0)) := (h.old.block _ (by rw [ZA.out]; omega) id).trans BA.out
  have e0 : w3.cell? ⟨w.heap.size, 0, none⟩ = some (.int .i64 0) := blk_cell hbs 0
  have e1 : w3.cell? ⟨w.heap.size, 1, none⟩ = some (.slice none 0 0) := blk_cell hbs 1
  have e2 : w3.frozen? ⟨w.heap.size, 0, none⟩ = false := blk_free hbs 0
  have e3 : w3.frozen? ⟨w.heap.size, 1, none⟩ = false := blk_free hbs 1
  have hlt := cell_lt e0
  simp only at hlt
  have hne : ¬ w.heap.size = w3.heap.size := by omega
  have H3 := Lib.hid h
  have HP := Lib.hid hp
  have HZ := Lib.hid (show w.heap.size < w2.heap.size from by have := H2.out.old.size; have := ZA.out; omega)
  have BS := Lib.hid hbs
  clear h hp hbs
  go_wp2_with fail
  refine bodyPost_ret (dqmk1_results rfl (two_done BS.out)) rfl ?_
  exact ⟨_, _, _, _, rfl, prog_done HP.out HZ.out, made_done CA.out H3.out.old⟩

set_option maxRecDepth 100000 in
set_option maxHeartbeats 4000000 in
theorem dqMake_At (w : World) (tag base room : Int) (b r : Nat) (hb : w.cell? ⟨b, 0, none⟩ = some (.int .i64 base)) (hr : w.cell? ⟨r, 0, none⟩ = some (.int .i64 room)) :
    Calls Tryz.prog 44 #[.int .i64 tag, .func (.func 52) #[] #[], .pointer (some ⟨b, 0, none⟩), .pointer (some ⟨r, 0, none⟩)] w fun e w' => ∃ t a l c, e = .returned (.agg #[.int .i64 t, .slice a l c]) ∧ ProgAt w' w.heap.size ((dqAt base room ⟨tag, [], [], 0, []⟩).add 20 0) (.agg #[.int .i64 t, .slice a l c]) ∧ Chg w w' Nothing := by
  have HB := Lib.hid hb
  have HR := Lib.hid hr
  clear hb hr
  go_enter Tryz.func44, Tryz.ntmps44
  obtain ⟨wA, hwA⟩ : ∃ wA, wA = w.alloc (.cells #[.int .i64 0, .slice none 0 0] 26) := ⟨_, rfl⟩
  have hcA : Chg w wA Nothing := by rw [hwA]; exact (Chg.refl _ _).alloc _
  have hzA : wA.heap.size = w.heap.size + 1 := by rw [hwA]; simp
  have hbA : wA.heap[w.heap.size]? = some (.cells #[.int .i64 0, .slice none 0 0] 26 (0, 0)) := by rw [hwA]; exact heap_alloc_new w _
  have cb := hcA.cell HB.out id
  have cr := hcA.cell HR.out id
  have CA := Lib.hid hcA
  have ZA := Lib.hid hzA
  have BA := Lib.hid hbA
  have WA := Lib.hid hwA
  clear hcA hzA hbA hwA
  go_upto_region 1 with fail
  rw [← WA.out]
  go_cut [7] (fun v wx => ∃ m p, v = .pointer (some ⟨m, 0, none⟩) ∧ Mk Nothing wA wx m p base room ⟨tag, [], [], 0, []⟩ 0)
  case first =>
    go_region_law (first | (go_simp; go_at_call 31; refine (new_any tag _).mono ?_; rintro e w1 ⟨p, rfl, hp, b1, c1'⟩; have c1 : Chg wA w1 Nothing := ⟨c1'.os, c1'.tape, c1'.output, c1'.size, c1'.block⟩; have cb := c1.cell cb id; have cr := c1.cell cr id; have MK := Lib.hid (Mk.ofNew (wA := wA) b1 hp c1 base room 79)))
    all_goals
      go_wp2_with fail
      go_meet
      exact ⟨_, _, rfl, MK.out⟩
  obtain ⟨m, p, rfl, h⟩ := hcut
  clear cb cr
  have c0 := h.c0
  have H0 := Lib.hid h
  clear h
  go_wp2_with fail
  refine (dqAt_any H0.out (by decide)).mono ?_
  clear c0
  rintro e w1 ⟨rfl, h⟩
  have c0 := h.c0
  have H1 := Lib.hid h
  clear h
  go_wp2_with fail
  refine (dqop1_any H1.out 20 (by decide)).mono ?_
  clear c0
  rintro e w2 ⟨rfl, h⟩
  have c0 := h.c0
  have H2 := Lib.hid h
  clear h
  go_wp2_with fail
  refine (mk_program H2.out (by decide)).mono ?_
  clear c0
  rintro e w3 ⟨v, rfl, h, hp⟩
  obtain ⟨x1, y1, y2, y3, rfl⟩ := hp.two
  have hbs : w3.heap[w.heap.size]? = some (.cells #[.int .i64 0, .slice none 0 0] 26 (0, 0)) := (h.old.block _ (by rw [ZA.out]; omega) id).trans BA.out
  have e0 : w3.cell? ⟨w.heap.size, 0, none⟩ = some (.int .i64 0) := blk_cell hbs 0
  have e1 : w3.cell? ⟨w.heap.size, 1, none⟩ = some (.slice none 0 0) := blk_cell hbs 1
  have e2 : w3.frozen? ⟨w.heap.size, 0, none⟩ = false := blk_free hbs 0
  have e3 : w3.frozen? ⟨w.heap.size, 1, none⟩ = false := blk_free hbs 1
  have hlt := cell_lt e0
  simp only at hlt
  have hne : ¬ w.heap.size = w3.heap.size := by omega
  have H3 := Lib.hid h
  have HP := Lib.hid hp
  have HZ := Lib.hid (show w.heap.size < w2.heap.size from by have := H2.out.old.size; have := ZA.out; omega)
  have BS := Lib.hid hbs
  clear h hp hbs
  go_wp2_with fail
  refine bodyPost_ret (dqmk1_results rfl (two_done BS.out)) rfl ?_
  exact ⟨_, _, _, _, rfl, prog_done HP.out HZ.out, made_done CA.out H3.out.old⟩

set_option maxRecDepth 100000 in
set_option maxHeartbeats 4000000 in
theorem dqMake_Len (w : World) (tag base room : Int) (b r : Nat) (hb : w.cell? ⟨b, 0, none⟩ = some (.int .i64 base)) (hr : w.cell? ⟨r, 0, none⟩ = some (.int .i64 room)) :
    Calls Tryz.prog 44 #[.int .i64 tag, .func (.func 53) #[] #[], .pointer (some ⟨b, 0, none⟩), .pointer (some ⟨r, 0, none⟩)] w fun e w' => ∃ t a l c, e = .returned (.agg #[.int .i64 t, .slice a l c]) ∧ ProgAt w' w.heap.size ((dqLength base room ⟨tag, [], [], 0, []⟩).add 20 0) (.agg #[.int .i64 t, .slice a l c]) ∧ Chg w w' Nothing := by
  have HB := Lib.hid hb
  have HR := Lib.hid hr
  clear hb hr
  go_enter Tryz.func44, Tryz.ntmps44
  obtain ⟨wA, hwA⟩ : ∃ wA, wA = w.alloc (.cells #[.int .i64 0, .slice none 0 0] 26) := ⟨_, rfl⟩
  have hcA : Chg w wA Nothing := by rw [hwA]; exact (Chg.refl _ _).alloc _
  have hzA : wA.heap.size = w.heap.size + 1 := by rw [hwA]; simp
  have hbA : wA.heap[w.heap.size]? = some (.cells #[.int .i64 0, .slice none 0 0] 26 (0, 0)) := by rw [hwA]; exact heap_alloc_new w _
  have cb := hcA.cell HB.out id
  have cr := hcA.cell HR.out id
  have CA := Lib.hid hcA
  have ZA := Lib.hid hzA
  have BA := Lib.hid hbA
  have WA := Lib.hid hwA
  clear hcA hzA hbA hwA
  go_upto_region 1 with fail
  rw [← WA.out]
  go_cut [7] (fun v wx => ∃ m p, v = .pointer (some ⟨m, 0, none⟩) ∧ Mk Nothing wA wx m p base room ⟨tag, [], [], 0, []⟩ 0)
  case first =>
    go_region_law (first | (go_simp; go_at_call 31; refine (new_any tag _).mono ?_; rintro e w1 ⟨p, rfl, hp, b1, c1'⟩; have c1 : Chg wA w1 Nothing := ⟨c1'.os, c1'.tape, c1'.output, c1'.size, c1'.block⟩; have cb := c1.cell cb id; have cr := c1.cell cr id; have MK := Lib.hid (Mk.ofNew (wA := wA) b1 hp c1 base room 79)))
    all_goals
      go_wp2_with fail
      go_meet
      exact ⟨_, _, rfl, MK.out⟩
  obtain ⟨m, p, rfl, h⟩ := hcut
  clear cb cr
  have c0 := h.c0
  have H0 := Lib.hid h
  clear h
  go_wp2_with fail
  refine (dqLength_any H0.out (by decide)).mono ?_
  clear c0
  rintro e w1 ⟨rfl, h⟩
  have c0 := h.c0
  have H1 := Lib.hid h
  clear h
  go_wp2_with fail
  refine (dqop1_any H1.out 20 (by decide)).mono ?_
  clear c0
  rintro e w2 ⟨rfl, h⟩
  have c0 := h.c0
  have H2 := Lib.hid h
  clear h
  go_wp2_with fail
  refine (mk_program H2.out (by decide)).mono ?_
  clear c0
  rintro e w3 ⟨v, rfl, h, hp⟩
  obtain ⟨x1, y1, y2, y3, rfl⟩ := hp.two
  have hbs : w3.heap[w.heap.size]? = some (.cells #[.int .i64 0, .slice none 0 0] 26 (0, 0)) := (h.old.block _ (by rw [ZA.out]; omega) id).trans BA.out
  have e0 : w3.cell? ⟨w.heap.size, 0, none⟩ = some (.int .i64 0) := blk_cell hbs 0
  have e1 : w3.cell? ⟨w.heap.size, 1, none⟩ = some (.slice none 0 0) := blk_cell hbs 1
  have e2 : w3.frozen? ⟨w.heap.size, 0, none⟩ = false := blk_free hbs 0
  have e3 : w3.frozen? ⟨w.heap.size, 1, none⟩ = false := blk_free hbs 1
  have hlt := cell_lt e0
  simp only at hlt
  have hne : ¬ w.heap.size = w3.heap.size := by omega
  have H3 := Lib.hid h
  have HP := Lib.hid hp
  have HZ := Lib.hid (show w.heap.size < w2.heap.size from by have := H2.out.old.size; have := ZA.out; omega)
  have BS := Lib.hid hbs
  clear h hp hbs
  go_wp2_with fail
  refine bodyPost_ret (dqmk1_results rfl (two_done BS.out)) rfl ?_
  exact ⟨_, _, _, _, rfl, prog_done HP.out HZ.out, made_done CA.out H3.out.old⟩

set_option maxRecDepth 100000 in
set_option maxHeartbeats 4000000 in
theorem dqMake_All (w : World) (tag base room : Int) (b r : Nat) (hb : w.cell? ⟨b, 0, none⟩ = some (.int .i64 base)) (hr : w.cell? ⟨r, 0, none⟩ = some (.int .i64 room)) :
    Calls Tryz.prog 44 #[.int .i64 tag, .func (.func 54) #[] #[], .pointer (some ⟨b, 0, none⟩), .pointer (some ⟨r, 0, none⟩)] w fun e w' => ∃ t a l c, e = .returned (.agg #[.int .i64 t, .slice a l c]) ∧ ProgAt w' w.heap.size ((dqAll base room ⟨tag, [], [], 0, []⟩).add 20 0) (.agg #[.int .i64 t, .slice a l c]) ∧ Chg w w' Nothing := by
  have HB := Lib.hid hb
  have HR := Lib.hid hr
  clear hb hr
  go_enter Tryz.func44, Tryz.ntmps44
  obtain ⟨wA, hwA⟩ : ∃ wA, wA = w.alloc (.cells #[.int .i64 0, .slice none 0 0] 26) := ⟨_, rfl⟩
  have hcA : Chg w wA Nothing := by rw [hwA]; exact (Chg.refl _ _).alloc _
  have hzA : wA.heap.size = w.heap.size + 1 := by rw [hwA]; simp
  have hbA : wA.heap[w.heap.size]? = some (.cells #[.int .i64 0, .slice none 0 0] 26 (0, 0)) := by rw [hwA]; exact heap_alloc_new w _
  have cb := hcA.cell HB.out id
  have cr := hcA.cell HR.out id
  have CA := Lib.hid hcA
  have ZA := Lib.hid hzA
  have BA := Lib.hid hbA
  have WA := Lib.hid hwA
  clear hcA hzA hbA hwA
  go_upto_region 1 with fail
  rw [← WA.out]
  go_cut [7] (fun v wx => ∃ m p, v = .pointer (some ⟨m, 0, none⟩) ∧ Mk Nothing wA wx m p base room ⟨tag, [], [], 0, []⟩ 0)
  case first =>
    go_region_law (first | (go_simp; go_at_call 31; refine (new_any tag _).mono ?_; rintro e w1 ⟨p, rfl, hp, b1, c1'⟩; have c1 : Chg wA w1 Nothing := ⟨c1'.os, c1'.tape, c1'.output, c1'.size, c1'.block⟩; have cb := c1.cell cb id; have cr := c1.cell cr id; have MK := Lib.hid (Mk.ofNew (wA := wA) b1 hp c1 base room 79)))
    all_goals
      go_wp2_with fail
      go_meet
      exact ⟨_, _, rfl, MK.out⟩
  obtain ⟨m, p, rfl, h⟩ := hcut
  clear cb cr
  have c0 := h.c0
  have H0 := Lib.hid h
  clear h
  go_wp2_with fail
  refine (dqAll_any H0.out (by decide)).mono ?_
  clear c0
  rintro e w1 ⟨rfl, h⟩
  have c0 := h.c0
  have H1 := Lib.hid h
  clear h
  go_wp2_with fail
  refine (dqop1_any H1.out 20 (by decide)).mono ?_
  clear c0
  rintro e w2 ⟨rfl, h⟩
  have c0 := h.c0
  have H2 := Lib.hid h
  clear h
  go_wp2_with fail
  refine (mk_program H2.out (by decide)).mono ?_
  clear c0
  rintro e w3 ⟨v, rfl, h, hp⟩
  obtain ⟨x1, y1, y2, y3, rfl⟩ := hp.two
  have hbs : w3.heap[w.heap.size]? = some (.cells #[.int .i64 0, .slice none 0 0] 26 (0, 0)) := (h.old.block _ (by rw [ZA.out]; omega) id).trans BA.out
  have e0 : w3.cell? ⟨w.heap.size, 0, none⟩ = some (.int .i64 0) := blk_cell hbs 0
  have e1 : w3.cell? ⟨w.heap.size, 1, none⟩ = some (.slice none 0 0) := blk_cell hbs 1
  have e2 : w3.frozen? ⟨w.heap.size, 0, none⟩ = false := blk_free hbs 0
  have e3 : w3.frozen? ⟨w.heap.size, 1, none⟩ = false := blk_free hbs 1
  have hlt := cell_lt e0
  simp only at hlt
  have hne : ¬ w.heap.size = w3.heap.size := by omega
  have H3 := Lib.hid h
  have HP := Lib.hid hp
  have HZ := Lib.hid (show w.heap.size < w2.heap.size from by have := H2.out.old.size; have := ZA.out; omega)
  have BS := Lib.hid hbs
  clear h hp hbs
  go_wp2_with fail
  refine bodyPost_ret (dqmk1_results rfl (two_done BS.out)) rfl ?_
  exact ⟨_, _, _, _, rfl, prog_done HP.out HZ.out, made_done CA.out H3.out.old⟩

end Go.Proofs.YtgeapkalabijmaaGreat
