/- A tree's programs: what Make's literal makes of each part; its Room. Printed by gen/tree3.py. -/
import Derived.Test.YtgeapkalabijmaaGreatDJ
namespace Go.Proofs.YtgeapkalabijmaaGreat
open Go Go.RowKit
set_option maxRecDepth 100000
set_option maxHeartbeats 1000000
set_option linter.unusedVariables false
set_option linter.unusedSimpArgs false

theorem trmk1_results {tmps : Array Value} {W : World} {r0 : Nat} {a b : Value} {T : TypeId} {fr : Nat × Nat} (h2 : tmps.getD 6 undef = .pointer (some ⟨r0, 0, none⟩)) (hb : W.heap[r0]? = some (.cells #[a, b] T fr)) :
    (results Tryz.f30 tmps).run Tryz.prog W = .ok (.agg #[a, b]) W := by
  have h2' : tmps[6]?.getD undef = .pointer (some ⟨r0, 0, none⟩) := by simpa using h2
  have hl := run_loadVar_row (P := Tryz.prog) W r0 T 26 #[a, b] fr _ hb Tryz.underlying26 rfl (by kernel_rfl)
  have k0 : W.cell? ⟨r0, 0, none⟩ = some a := by rw [blk_cell hb]; rfl
  have k1 : W.cell? ⟨r0, 1, none⟩ = some b := by rw [blk_cell hb]; rfl
  simp [results, Tryz.results30, h2', asAddr, hl, k0, k1, go_sem]

set_option maxRecDepth 100000 in
set_option maxHeartbeats 4000000 in
theorem trMake_Get (w : World) (tag base room : Int) (b r : Nat) (hb : w.cell? ⟨b, 0, none⟩ = some (.int .i64 base)) (hr : w.cell? ⟨r, 0, none⟩ = some (.int .i64 room)) :
    Calls Tryz.prog 30 #[.int .i64 tag, .func (.func 33) #[] #[], .pointer (some ⟨b, 0, none⟩), .pointer (some ⟨r, 0, none⟩)] w fun e w' => ∃ t a l c, e = .returned (.agg #[.int .i64 t, .slice a l c]) ∧ ProgAt w' w.heap.size (trDoGet base room ⟨tag, [], [], 0, []⟩) (.agg #[.int .i64 t, .slice a l c]) ∧ Chg w w' Nothing := by
  have HB := Lib.hid hb
  have HR := Lib.hid hr
  clear hb hr
  go_enter Tryz.func30, Tryz.ntmps30
  obtain ⟨wA, hwA⟩ : ∃ wA, wA = w.alloc (.cells #[.int .i64 0, .slice none 0 0] 26) := ⟨_, rfl⟩
  have hcA : Chg w wA Nothing := by rw [hwA]; exact (Chg.refl _ _).alloc _
  have hzA : wA.heap.size = w.heap.size + 1 := by rw [hwA]; simp
  have hbA : wA.heap[w.heap.size]? = some (.cells #[.int .i64 0, .slice none 0 0] 26 (0, 0)) := by rw [hwA]; exact heap_alloc_new w _
  have cb := hcA.cell HB.out id
  have cr := hcA.cell HR.out id
  have CA := Lib.hid hcA
  have ZA := Lib.hid hzA
  have BA := Lib.hid hbA
  have WA := Lib.hid hwA
  clear hcA hzA hbA hwA
  go_upto_region 1 with fail
  rw [← WA.out]
  go_cut [7] (fun v wx => ∃ m p, v = .pointer (some ⟨m, 0, none⟩) ∧ Mk Nothing wA wx m p base room ⟨tag, [], [], 0, []⟩ 0)
  case first =>
    go_region_law (first | (go_simp; go_at_call 31; refine (new_any tag _).mono ?_; rintro e w1 ⟨p, rfl, hp, b1, c1'⟩; have c1 : Chg wA w1 Nothing := ⟨c1'.os, c1'.tape, c1'.output, c1'.size, c1'.block⟩; have cb := c1.cell cb id; have cr := c1.cell cr id; have MK := Lib.hid (Mk.ofNew (wA := wA) b1 hp c1 base room 68)))
    all_goals
      go_wp2_with fail
      go_meet
      exact ⟨_, _, rfl, MK.out⟩
  obtain ⟨m, p, rfl, h⟩ := hcut
  clear cb cr
  have c0 := h.c0
  have H0 := Lib.hid h
  clear h
  go_wp2_with fail
  refine (trDoGet_any H0.out (by decide)).mono ?_
  clear c0
  rintro e w2 ⟨rfl, h⟩
  have c0 := h.c0
  have H2 := Lib.hid h
  clear h
  go_wp2_with fail
  refine (mk_program H2.out (by decide)).mono ?_
  clear c0
  rintro e w3 ⟨v, rfl, h, hp⟩
  obtain ⟨x1, y1, y2, y3, rfl⟩ := hp.two
  have hbs : w3.heap[w.heap.size]? = some (.cells #[.int .i64 0, .slice none 0 0] 26 (0, 0)) := (h.old.block _ (by rw [ZA.out]; omega) id).trans BA.out
  have e0 : w3.cell? ⟨w.heap.size, 0, none⟩ = some (.int .i64 0) := blk_cell hbs 0
  have e1 : w3.cell? ⟨w.heap.size, 1, none⟩ = some (.slice none 0 0) := blk_cell hbs 1
  have e2 : w3.frozen? ⟨w.heap.size, 0, none⟩ = false := blk_free hbs 0
  have e3 : w3.frozen? ⟨w.heap.size, 1, none⟩ = false := blk_free hbs 1
  have hlt := cell_lt e0
  simp only at hlt
  have hne : ¬ w.heap.size = w3.heap.size := by omega
  have H3 := Lib.hid h
  have HP := Lib.hid hp
  have HZ := Lib.hid (show w.heap.size < w2.heap.size from by have := H2.out.old.size; have := ZA.out; omega)
  have BS := Lib.hid hbs
  clear h hp hbs
  go_wp2_with fail
  refine bodyPost_ret (trmk1_results rfl (two_done BS.out)) rfl ?_
  exact ⟨_, _, _, _, rfl, prog_done HP.out HZ.out, made_done CA.out H3.out.old⟩

set_option maxRecDepth 100000 in
set_option maxHeartbeats 4000000 in
theorem trMake_Put (w : World) (tag base room : Int) (b r : Nat) (hb : w.cell? ⟨b, 0, none⟩ = some (.int .i64 base)) (hr : w.cell? ⟨r, 0, none⟩ = some (.int .i64 room)) :
    Calls Tryz.prog 30 #[.int .i64 tag, .func (.func 34) #[] #[], .pointer (some ⟨b, 0, none⟩), .pointer (some ⟨r, 0, none⟩)] w fun e w' => ∃ t a l c, e = .returned (.agg #[.int .i64 t, .slice a l c]) ∧ ProgAt w' w.heap.size (trDoPut base room ⟨tag, [], [], 0, []⟩) (.agg #[.int .i64 t, .slice a l c]) ∧ Chg w w' Nothing := by
  have HB := Lib.hid hb
  have HR := Lib.hid hr
  clear hb hr
  go_enter Tryz.func30, Tryz.ntmps30
  obtain ⟨wA, hwA⟩ : ∃ wA, wA = w.alloc (.cells #[.int .i64 0, .slice none 0 0] 26) := ⟨_, rfl⟩
  have hcA : Chg w wA Nothing := by rw [hwA]; exact (Chg.refl _ _).alloc _
  have hzA : wA.heap.size = w.heap.size + 1 := by rw [hwA]; simp
  have hbA : wA.heap[w.heap.size]? = some (.cells #[.int .i64 0, .slice none 0 0] 26 (0, 0)) := by rw [hwA]; exact heap_alloc_new w _
  have cb := hcA.cell HB.out id
  have cr := hcA.cell HR.out id
  have CA := Lib.hid hcA
  have ZA := Lib.hid hzA
  have BA := Lib.hid hbA
  have WA := Lib.hid hwA
  clear hcA hzA hbA hwA
  go_upto_region 1 with fail
  rw [← WA.out]
  go_cut [7] (fun v wx => ∃ m p, v = .pointer (some ⟨m, 0, none⟩) ∧ Mk Nothing wA wx m p base room ⟨tag, [], [], 0, []⟩ 0)
  case first =>
    go_region_law (first | (go_simp; go_at_call 31; refine (new_any tag _).mono ?_; rintro e w1 ⟨p, rfl, hp, b1, c1'⟩; have c1 : Chg wA w1 Nothing := ⟨c1'.os, c1'.tape, c1'.output, c1'.size, c1'.block⟩; have cb := c1.cell cb id; have cr := c1.cell cr id; have MK := Lib.hid (Mk.ofNew (wA := wA) b1 hp c1 base room 68)))
    all_goals
      go_wp2_with fail
      go_meet
      exact ⟨_, _, rfl, MK.out⟩
  obtain ⟨m, p, rfl, h⟩ := hcut
  clear cb cr
  have c0 := h.c0
  have H0 := Lib.hid h
  clear h
  go_wp2_with fail
  refine (trDoPut_any H0.out (by decide)).mono ?_
  clear c0
  rintro e w2 ⟨rfl, h⟩
  have c0 := h.c0
  have H2 := Lib.hid h
  clear h
  go_wp2_with fail
  refine (mk_program H2.out (by decide)).mono ?_
  clear c0
  rintro e w3 ⟨v, rfl, h, hp⟩
  obtain ⟨x1, y1, y2, y3, rfl⟩ := hp.two
  have hbs : w3.heap[w.heap.size]? = some (.cells #[.int .i64 0, .slice none 0 0] 26 (0, 0)) := (h.old.block _ (by rw [ZA.out]; omega) id).trans BA.out
  have e0 : w3.cell? ⟨w.heap.size, 0, none⟩ = some (.int .i64 0) := blk_cell hbs 0
  have e1 : w3.cell? ⟨w.heap.size, 1, none⟩ = some (.slice none 0 0) := blk_cell hbs 1
  have e2 : w3.frozen? ⟨w.heap.size, 0, none⟩ = false := blk_free hbs 0
  have e3 : w3.frozen? ⟨w.heap.size, 1, none⟩ = false := blk_free hbs 1
  have hlt := cell_lt e0
  simp only at hlt
  have hne : ¬ w.heap.size = w3.heap.size := by omega
  have H3 := Lib.hid h
  have HP := Lib.hid hp
  have HZ := Lib.hid (show w.heap.size < w2.heap.size from by have := H2.out.old.size; have := ZA.out; omega)
  have BS := Lib.hid hbs
  clear h hp hbs
  go_wp2_with fail
  refine bodyPost_ret (trmk1_results rfl (two_done BS.out)) rfl ?_
  exact ⟨_, _, _, _, rfl, prog_done HP.out HZ.out, made_done CA.out H3.out.old⟩

set_option maxRecDepth 100000 in
set_option maxHeartbeats 4000000 in
theorem trMake_Del (w : World) (tag base room : Int) (b r : Nat) (hb : w.cell? ⟨b, 0, none⟩ = some (.int .i64 base)) (hr : w.cell? ⟨r, 0, none⟩ = some (.int .i64 room)) :
    Calls Tryz.prog 30 #[.int .i64 tag, .func (.func 35) #[] #[], .pointer (some ⟨b, 0, none⟩), .pointer (some ⟨r, 0, none⟩)] w fun e w' => ∃ t a l c, e = .returned (.agg #[.int .i64 t, .slice a l c]) ∧ ProgAt w' w.heap.size (trDoDel base room ⟨tag, [], [], 0, []⟩) (.agg #[.int .i64 t, .slice a l c]) ∧ Chg w w' Nothing := by
  have HB := Lib.hid hb
  have HR := Lib.hid hr
  clear hb hr
  go_enter Tryz.func30, Tryz.ntmps30
  obtain ⟨wA, hwA⟩ : ∃ wA, wA = w.alloc (.cells #[.int .i64 0, .slice none 0 0] 26) := ⟨_, rfl⟩
  have hcA : Chg w wA Nothing := by rw [hwA]; exact (Chg.refl _ _).alloc _
  have hzA : wA.heap.size = w.heap.size + 1 := by rw [hwA]; simp
  have hbA : wA.heap[w.heap.size]? = some (.cells #[.int .i64 0, .slice none 0 0] 26 (0, 0)) := by rw [hwA]; exact heap_alloc_new w _
  have cb := hcA.cell HB.out id
  have cr := hcA.cell HR.out id
  have CA := Lib.hid hcA
  have ZA := Lib.hid hzA
  have BA := Lib.hid hbA
  have WA := Lib.hid hwA
  clear hcA hzA hbA hwA
  go_upto_region 1 with fail
  rw [← WA.out]
  go_cut [7] (fun v wx => ∃ m p, v = .pointer (some ⟨m, 0, none⟩) ∧ Mk Nothing wA wx m p base room ⟨tag, [], [], 0, []⟩ 0)
  case first =>
    go_region_law (first | (go_simp; go_at_call 31; refine (new_any tag _).mono ?_; rintro e w1 ⟨p, rfl, hp, b1, c1'⟩; have c1 : Chg wA w1 Nothing := ⟨c1'.os, c1'.tape, c1'.output, c1'.size, c1'.block⟩; have cb := c1.cell cb id; have cr := c1.cell cr id; have MK := Lib.hid (Mk.ofNew (wA := wA) b1 hp c1 base room 68)))
    all_goals
      go_wp2_with fail
      go_meet
      exact ⟨_, _, rfl, MK.out⟩
  obtain ⟨m, p, rfl, h⟩ := hcut
  clear cb cr
  have c0 := h.c0
  have H0 := Lib.hid h
  clear h
  go_wp2_with fail
  refine (trDoDel_any H0.out (by decide)).mono ?_
  clear c0
  rintro e w2 ⟨rfl, h⟩
  have c0 := h.c0
  have H2 := Lib.hid h
  clear h
  go_wp2_with fail
  refine (mk_program H2.out (by decide)).mono ?_
  clear c0
  rintro e w3 ⟨v, rfl, h, hp⟩
  obtain ⟨x1, y1, y2, y3, rfl⟩ := hp.two
  have hbs : w3.heap[w.heap.size]? = some (.cells #[.int .i64 0, .slice none 0 0] 26 (0, 0)) := (h.old.block _ (by rw [ZA.out]; omega) id).trans BA.out
  have e0 : w3.cell? ⟨w.heap.size, 0, none⟩ = some (.int .i64 0) := blk_cell hbs 0
  have e1 : w3.cell? ⟨w.heap.size, 1, none⟩ = some (.slice none 0 0) := blk_cell hbs 1
  have e2 : w3.frozen? ⟨w.heap.size, 0, none⟩ = false := blk_free hbs 0
  have e3 : w3.frozen? ⟨w.heap.size, 1, none⟩ = false := blk_free hbs 1
  have hlt := cell_lt e0
  simp only at hlt
  have hne : ¬ w.heap.size = w3.heap.size := by omega
  have H3 := Lib.hid h
  have HP := Lib.hid hp
  have HZ := Lib.hid (show w.heap.size < w2.heap.size from by have := H2.out.old.size; have := ZA.out; omega)
  have BS := Lib.hid hbs
  clear h hp hbs
  go_wp2_with fail
  refine bodyPost_ret (trmk1_results rfl (two_done BS.out)) rfl ?_
  exact ⟨_, _, _, _, rfl, prog_done HP.out HZ.out, made_done CA.out H3.out.old⟩

set_option maxRecDepth 100000 in
set_option maxHeartbeats 4000000 in
theorem trMake_Least (w : World) (tag base room : Int) (b r : Nat) (hb : w.cell? ⟨b, 0, none⟩ = some (.int .i64 base)) (hr : w.cell? ⟨r, 0, none⟩ = some (.int .i64 room)) :
    Calls Tryz.prog 30 #[.int .i64 tag, .func (.func 36) #[] #[], .pointer (some ⟨b, 0, none⟩), .pointer (some ⟨r, 0, none⟩)] w fun e w' => ∃ t a l c, e = .returned (.agg #[.int .i64 t, .slice a l c]) ∧ ProgAt w' w.heap.size (trDoLeast base room ⟨tag, [], [], 0, []⟩) (.agg #[.int .i64 t, .slice a l c]) ∧ Chg w w' Nothing := by
  have HB := Lib.hid hb
  have HR := Lib.hid hr
  clear hb hr
  go_enter Tryz.func30, Tryz.ntmps30
  obtain ⟨wA, hwA⟩ : ∃ wA, wA = w.alloc (.cells #[.int .i64 0, .slice none 0 0] 26) := ⟨_, rfl⟩
  have hcA : Chg w wA Nothing := by rw [hwA]; exact (Chg.refl _ _).alloc _
  have hzA : wA.heap.size = w.heap.size + 1 := by rw [hwA]; simp
  have hbA : wA.heap[w.heap.size]? = some (.cells #[.int .i64 0, .slice none 0 0] 26 (0, 0)) := by rw [hwA]; exact heap_alloc_new w _
  have cb := hcA.cell HB.out id
  have cr := hcA.cell HR.out id
  have CA := Lib.hid hcA
  have ZA := Lib.hid hzA
  have BA := Lib.hid hbA
  have WA := Lib.hid hwA
  clear hcA hzA hbA hwA
  go_upto_region 1 with fail
  rw [← WA.out]
  go_cut [7] (fun v wx => ∃ m p, v = .pointer (some ⟨m, 0, none⟩) ∧ Mk Nothing wA wx m p base room ⟨tag, [], [], 0, []⟩ 0)
  case first =>
    go_region_law (first | (go_simp; go_at_call 31; refine (new_any tag _).mono ?_; rintro e w1 ⟨p, rfl, hp, b1, c1'⟩; have c1 : Chg wA w1 Nothing := ⟨c1'.os, c1'.tape, c1'.output, c1'.size, c1'.block⟩; have cb := c1.cell cb id; have cr := c1.cell cr id; have MK := Lib.hid (Mk.ofNew (wA := wA) b1 hp c1 base room 68)))
    all_goals
      go_wp2_with fail
      go_meet
      exact ⟨_, _, rfl, MK.out⟩
  obtain ⟨m, p, rfl, h⟩ := hcut
  clear cb cr
  have c0 := h.c0
  have H0 := Lib.hid h
  clear h
  go_wp2_with fail
  refine (trDoLeast_any H0.out (by decide)).mono ?_
  clear c0
  rintro e w2 ⟨rfl, h⟩
  have c0 := h.c0
  have H2 := Lib.hid h
  clear h
  go_wp2_with fail
  refine (mk_program H2.out (by decide)).mono ?_
  clear c0
  rintro e w3 ⟨v, rfl, h, hp⟩
  obtain ⟨x1, y1, y2, y3, rfl⟩ := hp.two
  have hbs : w3.heap[w.heap.size]? = some (.cells #[.int .i64 0, .slice none 0 0] 26 (0, 0)) := (h.old.block _ (by rw [ZA.out]; omega) id).trans BA.out
  have e0 : w3.cell? ⟨w.heap.size, 0, none⟩ = some (.int .i64 0) := blk_cell hbs 0
  have e1 : w3.cell? ⟨w.heap.size, 1, none⟩ = some (.slice none 0 0) := blk_cell hbs 1
  have e2 : w3.frozen? ⟨w.heap.size, 0, none⟩ = false := blk_free hbs 0
  have e3 : w3.frozen? ⟨w.heap.size, 1, none⟩ = false := blk_free hbs 1
  have hlt := cell_lt e0
  simp only at hlt
  have hne : ¬ w.heap.size = w3.heap.size := by omega
  have H3 := Lib.hid h
  have HP := Lib.hid hp
  have HZ := Lib.hid (show w.heap.size < w2.heap.size from by have := H2.out.old.size; have := ZA.out; omega)
  have BS := Lib.hid hbs
  clear h hp hbs
  go_wp2_with fail
  refine bodyPost_ret (trmk1_results rfl (two_done BS.out)) rfl ?_
  exact ⟨_, _, _, _, rfl, prog_done HP.out HZ.out, made_done CA.out H3.out.old⟩

set_option maxRecDepth 100000 in
set_option maxHeartbeats 4000000 in
theorem trMake_After (w : World) (tag base room : Int) (b r : Nat) (hb : w.cell? ⟨b, 0, none⟩ = some (.int .i64 base)) (hr : w.cell? ⟨r, 0, none⟩ = some (.int .i64 room)) :
    Calls Tryz.prog 30 #[.int .i64 tag, .func (.func 37) #[] #[], .pointer (some ⟨b, 0, none⟩), .pointer (some ⟨r, 0, none⟩)] w fun e w' => ∃ t a l c, e = .returned (.agg #[.int .i64 t, .slice a l c]) ∧ ProgAt w' w.heap.size (trDoAfter base room ⟨tag, [], [], 0, []⟩) (.agg #[.int .i64 t, .slice a l c]) ∧ Chg w w' Nothing := by
  have HB := Lib.hid hb
  have HR := Lib.hid hr
  clear hb hr
  go_enter Tryz.func30, Tryz.ntmps30
  obtain ⟨wA, hwA⟩ : ∃ wA, wA = w.alloc (.cells #[.int .i64 0, .slice none 0 0] 26) := ⟨_, rfl⟩
  have hcA : Chg w wA Nothing := by rw [hwA]; exact (Chg.refl _ _).alloc _
  have hzA : wA.heap.size = w.heap.size + 1 := by rw [hwA]; simp
  have hbA : wA.heap[w.heap.size]? = some (.cells #[.int .i64 0, .slice none 0 0] 26 (0, 0)) := by rw [hwA]; exact heap_alloc_new w _
  have cb := hcA.cell HB.out id
  have cr := hcA.cell HR.out id
  have CA := Lib.hid hcA
  have ZA := Lib.hid hzA
  have BA := Lib.hid hbA
  have WA := Lib.hid hwA
  clear hcA hzA hbA hwA
  go_upto_region 1 with fail
  rw [← WA.out]
  go_cut [7] (fun v wx => ∃ m p, v = .pointer (some ⟨m, 0, none⟩) ∧ Mk Nothing wA wx m p base room ⟨tag, [], [], 0, []⟩ 0)
  case first =>
    go_region_law (first | (go_simp; go_at_call 31; refine (new_any tag _).mono ?_; rintro e w1 ⟨p, rfl, hp, b1, c1'⟩; have c1 : Chg wA w1 Nothing := ⟨c1'.os, c1'.tape, c1'.output, c1'.size, c1'.block⟩; have cb := c1.cell cb id; have cr := c1.cell cr id; have MK := Lib.hid (Mk.ofNew (wA := wA) b1 hp c1 base room 68)))
    all_goals
      go_wp2_with fail
      go_meet
      exact ⟨_, _, rfl, MK.out⟩
  obtain ⟨m, p, rfl, h⟩ := hcut
  clear cb cr
  have c0 := h.c0
  have H0 := Lib.hid h
  clear h
  go_wp2_with fail
  refine (trDoAfter_any H0.out (by decide)).mono ?_
  clear c0
  rintro e w2 ⟨rfl, h⟩
  have c0 := h.c0
  have H2 := Lib.hid h
  clear h
  go_wp2_with fail
  refine (mk_program H2.out (by decide)).mono ?_
  clear c0
  rintro e w3 ⟨v, rfl, h, hp⟩
  obtain ⟨x1, y1, y2, y3, rfl⟩ := hp.two
  have hbs : w3.heap[w.heap.size]? = some (.cells #[.int .i64 0, .slice none 0 0] 26 (0, 0)) := (h.old.block _ (by rw [ZA.out]; omega) id).trans BA.out
  have e0 : w3.cell? ⟨w.heap.size, 0, none⟩ = some (.int .i64 0) := blk_cell hbs 0
  have e1 : w3.cell? ⟨w.heap.size, 1, none⟩ = some (.slice none 0 0) := blk_cell hbs 1
  have e2 : w3.frozen? ⟨w.heap.size, 0, none⟩ = false := blk_free hbs 0
  have e3 : w3.frozen? ⟨w.heap.size, 1, none⟩ = false := blk_free hbs 1
  have hlt := cell_lt e0
  simp only at hlt
  have hne : ¬ w.heap.size = w3.heap.size := by omega
  have H3 := Lib.hid h
  have HP := Lib.hid hp
  have HZ := Lib.hid (show w.heap.size < w2.heap.size from by have := H2.out.old.size; have := ZA.out; omega)
  have BS := Lib.hid hbs
  clear h hp hbs
  go_wp2_with fail
  refine bodyPost_ret (trmk1_results rfl (two_done BS.out)) rfl ?_
  exact ⟨_, _, _, _, rfl, prog_done HP.out HZ.out, made_done CA.out H3.out.old⟩

set_option maxRecDepth 100000 in
set_option maxHeartbeats 4000000 in
theorem trMake_Len (w : World) (tag base room : Int) (b r : Nat) (hb : w.cell? ⟨b, 0, none⟩ = some (.int .i64 base)) (hr : w.cell? ⟨r, 0, none⟩ = some (.int .i64 room)) :
    Calls Tryz.prog 30 #[.int .i64 tag, .func (.func 38) #[] #[], .pointer (some ⟨b, 0, none⟩), .pointer (some ⟨r, 0, none⟩)] w fun e w' => ∃ t a l c, e = .returned (.agg #[.int .i64 t, .slice a l c]) ∧ ProgAt w' w.heap.size (trDoLen base room ⟨tag, [], [], 0, []⟩) (.agg #[.int .i64 t, .slice a l c]) ∧ Chg w w' Nothing := by
  have HB := Lib.hid hb
  have HR := Lib.hid hr
  clear hb hr
  go_enter Tryz.func30, Tryz.ntmps30
  obtain ⟨wA, hwA⟩ : ∃ wA, wA = w.alloc (.cells #[.int .i64 0, .slice none 0 0] 26) := ⟨_, rfl⟩
  have hcA : Chg w wA Nothing := by rw [hwA]; exact (Chg.refl _ _).alloc _
  have hzA : wA.heap.size = w.heap.size + 1 := by rw [hwA]; simp
  have hbA : wA.heap[w.heap.size]? = some (.cells #[.int .i64 0, .slice none 0 0] 26 (0, 0)) := by rw [hwA]; exact heap_alloc_new w _
  have cb := hcA.cell HB.out id
  have cr := hcA.cell HR.out id
  have CA := Lib.hid hcA
  have ZA := Lib.hid hzA
  have BA := Lib.hid hbA
  have WA := Lib.hid hwA
  clear hcA hzA hbA hwA
  go_upto_region 1 with fail
  rw [← WA.out]
  go_cut [7] (fun v wx => ∃ m p, v = .pointer (some ⟨m, 0, none⟩) ∧ Mk Nothing wA wx m p base room ⟨tag, [], [], 0, []⟩ 0)
  case first =>
    go_region_law (first | (go_simp; go_at_call 31; refine (new_any tag _).mono ?_; rintro e w1 ⟨p, rfl, hp, b1, c1'⟩; have c1 : Chg wA w1 Nothing := ⟨c1'.os, c1'.tape, c1'.output, c1'.size, c1'.block⟩; have cb := c1.cell cb id; have cr := c1.cell cr id; have MK := Lib.hid (Mk.ofNew (wA := wA) b1 hp c1 base room 68)))
    all_goals
      go_wp2_with fail
      go_meet
      exact ⟨_, _, rfl, MK.out⟩
  obtain ⟨m, p, rfl, h⟩ := hcut
  clear cb cr
  have c0 := h.c0
  have H0 := Lib.hid h
  clear h
  go_wp2_with fail
  refine (trDoLen_any H0.out (by decide)).mono ?_
  clear c0
  rintro e w2 ⟨rfl, h⟩
  have c0 := h.c0
  have H2 := Lib.hid h
  clear h
  go_wp2_with fail
  refine (mk_program H2.out (by decide)).mono ?_
  clear c0
  rintro e w3 ⟨v, rfl, h, hp⟩
  obtain ⟨x1, y1, y2, y3, rfl⟩ := hp.two
  have hbs : w3.heap[w.heap.size]? = some (.cells #[.int .i64 0, .slice none 0 0] 26 (0, 0)) := (h.old.block _ (by rw [ZA.out]; omega) id).trans BA.out
  have e0 : w3.cell? ⟨w.heap.size, 0, none⟩ = some (.int .i64 0) := blk_cell hbs 0
  have e1 : w3.cell? ⟨w.heap.size, 1, none⟩ = some (.slice none 0 0) := blk_cell hbs 1
  have e2 : w3.frozen? ⟨w.heap.size, 0, none⟩ = false := blk_free hbs 0
  have e3 : w3.frozen? ⟨w.heap.size, 1, none⟩ = false := blk_free hbs 1
  have hlt := cell_lt e0
  simp only at hlt
  have hne : ¬ w.heap.size = w3.heap.size := by omega
  have H3 := Lib.hid h
  have HP := Lib.hid hp
  have HZ := Lib.hid (show w.heap.size < w2.heap.size from by have := H2.out.old.size; have := ZA.out; omega)
  have BS := Lib.hid hbs
  clear h hp hbs
  go_wp2_with fail
  refine bodyPost_ret (trmk1_results rfl (two_done BS.out)) rfl ?_
  exact ⟨_, _, _, _, rfl, prog_done HP.out HZ.out, made_done CA.out H3.out.old⟩

set_option maxRecDepth 100000 in
set_option maxHeartbeats 4000000 in
theorem trMake_All (w : World) (tag base room : Int) (b r : Nat) (hb : w.cell? ⟨b, 0, none⟩ = some (.int .i64 base)) (hr : w.cell? ⟨r, 0, none⟩ = some (.int .i64 room)) :
    Calls Tryz.prog 30 #[.int .i64 tag, .func (.func 39) #[] #[], .pointer (some ⟨b, 0, none⟩), .pointer (some ⟨r, 0, none⟩)] w fun e w' => ∃ t a l c, e = .returned (.agg #[.int .i64 t, .slice a l c]) ∧ ProgAt w' w.heap.size (trDoAll base room ⟨tag, [], [], 0, []⟩) (.agg #[.int .i64 t, .slice a l c]) ∧ Chg w w' Nothing := by
  have HB := Lib.hid hb
  have HR := Lib.hid hr
  clear hb hr
  go_enter Tryz.func30, Tryz.ntmps30
  obtain ⟨wA, hwA⟩ : ∃ wA, wA = w.alloc (.cells #[.int .i64 0, .slice none 0 0] 26) := ⟨_, rfl⟩
  have hcA : Chg w wA Nothing := by rw [hwA]; exact (Chg.refl _ _).alloc _
  have hzA : wA.heap.size = w.heap.size + 1 := by rw [hwA]; simp
  have hbA : wA.heap[w.heap.size]? = some (.cells #[.int .i64 0, .slice none 0 0] 26 (0, 0)) := by rw [hwA]; exact heap_alloc_new w _
  have cb := hcA.cell HB.out id
  have cr := hcA.cell HR.out id
  have CA := Lib.hid hcA
  have ZA := Lib.hid hzA
  have BA := Lib.hid hbA
  have WA := Lib.hid hwA
  clear hcA hzA hbA hwA
  go_upto_region 1 with fail
  rw [← WA.out]
  go_cut [7] (fun v wx => ∃ m p, v = .pointer (some ⟨m, 0, none⟩) ∧ Mk Nothing wA wx m p base room ⟨tag, [], [], 0, []⟩ 0)
  case first =>
    go_region_law (first | (go_simp; go_at_call 31; refine (new_any tag _).mono ?_; rintro e w1 ⟨p, rfl, hp, b1, c1'⟩; have c1 : Chg wA w1 Nothing := ⟨c1'.os, c1'.tape, c1'.output, c1'.size, c1'.block⟩; have cb := c1.cell cb id; have cr := c1.cell cr id; have MK := Lib.hid (Mk.ofNew (wA := wA) b1 hp c1 base room 68)))
    all_goals
      go_wp2_with fail
      go_meet
      exact ⟨_, _, rfl, MK.out⟩
  obtain ⟨m, p, rfl, h⟩ := hcut
  clear cb cr
  have c0 := h.c0
  have H0 := Lib.hid h
  clear h
  go_wp2_with fail
  refine (trDoAll_any H0.out (by decide)).mono ?_
  clear c0
  rintro e w2 ⟨rfl, h⟩
  have c0 := h.c0
  have H2 := Lib.hid h
  clear h
  go_wp2_with fail
  refine (mk_program H2.out (by decide)).mono ?_
  clear c0
  rintro e w3 ⟨v, rfl, h, hp⟩
  obtain ⟨x1, y1, y2, y3, rfl⟩ := hp.two
  have hbs : w3.heap[w.heap.size]? = some (.cells #[.int .i64 0, .slice none 0 0] 26 (0, 0)) := (h.old.block _ (by rw [ZA.out]; omega) id).trans BA.out
  have e0 : w3.cell? ⟨w.heap.size, 0, none⟩ = some (.int .i64 0) := blk_cell hbs 0
  have e1 : w3.cell? ⟨w.heap.size, 1, none⟩ = some (.slice none 0 0) := blk_cell hbs 1
  have e2 : w3.frozen? ⟨w.heap.size, 0, none⟩ = false := blk_free hbs 0
  have e3 : w3.frozen? ⟨w.heap.size, 1, none⟩ = false := blk_free hbs 1
  have hlt := cell_lt e0
  simp only at hlt
  have hne : ¬ w.heap.size = w3.heap.size := by omega
  have H3 := Lib.hid h
  have HP := Lib.hid hp
  have HZ := Lib.hid (show w.heap.size < w2.heap.size from by have := H2.out.old.size; have := ZA.out; omega)
  have BS := Lib.hid hbs
  clear h hp hbs
  go_wp2_with fail
  refine bodyPost_ret (trmk1_results rfl (two_done BS.out)) rfl ?_
  exact ⟨_, _, _, _, rfl, prog_done HP.out HZ.out, made_done CA.out H3.out.old⟩

def trRoom (c : Int) : Int := if c < 7 then 0 else if (c - 4) / 3 ≤ 16 then (c - 4) / 3 else 16
theorem trroom_any (w : World) (c : Int) (h1 : -9223372036854775808 ≤ c) (h2 : c < 9223372036854775808) :
    Calls Tryz.prog 10 #[.int .i64 c] w fun e w' => e = .returned (.int .i64 (trRoom c)) ∧ w' = w := by
  by_cases h : c < 7
  · have hd : decide (c < 7) = true := decide_eq_true h
    have hr : trRoom c = 0 := by unfold trRoom; rw [if_pos h]
    rw [hr]
    clear hr h1 h2
    go_enter Tryz.func10, Tryz.ntmps10
    go_wp2_with fail
    go_ret
    exact ⟨rfl, rfl⟩
  · have hd : decide (c < 7) = false := decide_eq_false h
    have hw : wrap64 (c - 4) = c - 4 := IntWalk.wrap64_in _ ⟨by omega, by omega⟩
    have hq : wrap64 ((c - 4).tdiv 3) = (c - 4) / 3 := by rw [Int.tdiv_eq_ediv_of_nonneg (by omega)]; exact IntWalk.wrap64_in _ ⟨by omega, by omega⟩
    by_cases h3 : (c - 4) / 3 ≤ 16
    · have hr : trRoom c = (c - 4) / 3 := by unfold trRoom; rw [if_neg h, if_pos h3]
      have hm : min ((c - 4) / 3) 16 = (c - 4) / 3 := Int.min_eq_left h3
      rw [hr]
      clear hr h1 h2
      go_enter Tryz.func10, Tryz.ntmps10
      go_wp2_with fail
      go_ret
      exact ⟨rfl, rfl⟩
    · have hr : trRoom c = 16 := by unfold trRoom; rw [if_neg h, if_neg h3]
      have hm : min ((c - 4) / 3) 16 = 16 := Int.min_eq_right (by omega)
      rw [hr]
      clear hr h1 h2
      go_enter Tryz.func10, Tryz.ntmps10
      go_wp2_with fail
      go_ret
      exact ⟨rfl, rfl⟩
end Go.Proofs.YtgeapkalabijmaaGreat
