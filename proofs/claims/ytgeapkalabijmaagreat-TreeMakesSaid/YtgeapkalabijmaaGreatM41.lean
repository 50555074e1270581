/- alone.Run. -/
import Derived.Test.YtgeapkalabijmaaGreatM40
namespace Go.Proofs.YtgeapkalabijmaaGreat
open Go Go.RowKit
set_option maxRecDepth 100000
set_option maxHeartbeats 1000000
set_option linter.unusedVariables false
set_option linter.unusedSimpArgs false

abbrev Sta := St 93 61
theorem may_bad (c t f r : Int) (p : Nat) (F : Nat → Prop) (fs : List Nat) (w : World) (h : Sta w p F (fs.map fl)) (hno : ¬ (CfgOk c t f r ∧ (fs.length : Int) = c)) :
    Calls Tryz.prog 58 #[.agg #[.int .i64 c, .int .i64 t, .int .i64 f, .int .i64 r], .pointer (some ⟨p, 0, none⟩)] w fun e w' => e = .returned (.bool false) ∧ Chg w w' Nothing := by
  by_cases hc : CfgOk c t f r
  · have hl : ((fs.length : Int) == c) = false := beq_eq_false_iff_ne.2 (fun e => hno ⟨hc, e⟩)
    have HC := Lib.hid hc
    have H := Lib.hid h
    clear h hc hno
    go_enter Tryz.func58, Tryz.ntmps58
    go_wp2_with fail
    with_reducible refine (place_good c t f r _ HC.out).mono ?_
    rintro e w1 ⟨⟨x0, x1, x2, x3, x4, x5, rfl⟩, hc1⟩
    have i0 : w1.cell? ⟨w.heap.size, 0, none⟩ = some (.int .i64 c) := hc1.cell (blk_cell (heap_alloc_new w _) 0) id
    have hz : w.heap.size < w1.heap.size := by have := hc1.size; simp at this; omega
    have H1 := Lib.hid ((H.out.chg ((Chg.refl w Nothing).alloc _) (fun _ _ h => h)).chg hc1 (fun _ _ h => h))
    have C1 := Lib.hid (show Chg w w1 Nothing from ((Chg.refl w Nothing).alloc _).trans hc1 (fun _ _ h => h))
    clear hc1
    go_wp2_with fail
    go_quiet ((go_at_call 111; exact Calls.quiet_of_same ((T6.len_any p F _ _ ((H1.out.chg ((Chg.refl _ _).alloc _) (fun _ _ h => h)).drewN _)).mono fun e w' h => ⟨by rw [h.1, List.length_map], h.2.symm⟩)))
    go_wp2_with fail
    go_ret
    exact ⟨rfl, (C1.out.alloc _).drewN _⟩
  · have HC := Lib.hid hc
    clear h hc hno
    go_enter Tryz.func58, Tryz.ntmps58
    go_wp2_with fail
    with_reducible refine (place_bad c t f r _ HC.out).mono ?_
    rintro e w1 ⟨⟨x0, x1, x2, x3, x4, x5, rfl⟩, hc1⟩
    have C1 := Lib.hid (show Chg w w1 Nothing from ((Chg.refl w Nothing).alloc _).trans hc1 (fun _ _ h => h))
    clear hc1
    go_wp2_with fail
    go_quiet (fail)
    go_wp2_with fail
    go_ret
    exact ⟨rfl, (C1.out.alloc _).drewN _⟩
theorem may_good (c t f r : Int) (p : Nat) (F : Nat → Prop) (fs : List Nat) (w : World) (h : Sta w p F (fs.map fl)) (hc : CfgOk c t f r) (hcl : (fs.length : Int) = c) :
    Calls Tryz.prog 58 #[.agg #[.int .i64 c, .int .i64 t, .int .i64 f, .int .i64 r], .pointer (some ⟨p, 0, none⟩)] w fun e w' => e = .returned (.bool true) ∧ Chg w w' Nothing := by
  have hl : ((fs.length : Int) == c) = true := by rw [hcl]; simp
  have HC := Lib.hid hc
  have H := Lib.hid h
  clear h hc hcl
  go_enter Tryz.func58, Tryz.ntmps58
  go_wp2_with fail
  with_reducible refine (place_good c t f r _ HC.out).mono ?_
  rintro e w1 ⟨⟨x0, x1, x2, x3, x4, x5, rfl⟩, hc1⟩
  have i0 : w1.cell? ⟨w.heap.size, 0, none⟩ = some (.int .i64 c) := hc1.cell (blk_cell (heap_alloc_new w _) 0) id
  have hz : w.heap.size < w1.heap.size := by have := hc1.size; simp at this; omega
  have H1 := Lib.hid ((H.out.chg ((Chg.refl w Nothing).alloc _) (fun _ _ h => h)).chg hc1 (fun _ _ h => h))
  have C1 := Lib.hid (show Chg w w1 Nothing from ((Chg.refl w Nothing).alloc _).trans hc1 (fun _ _ h => h))
  clear hc1
  go_wp2_with fail
  go_quiet ((go_at_call 111; exact Calls.quiet_of_same ((T6.len_any p F _ _ ((H1.out.chg ((Chg.refl _ _).alloc _) (fun _ _ h => h)).drewN _)).mono fun e w' h => ⟨by rw [h.1, List.length_map], h.2.symm⟩)))
  go_wp2_with fail
  go_ret
  exact ⟨rfl, (C1.out.alloc _).drewN _⟩
end Go.Proofs.YtgeapkalabijmaaGreat
