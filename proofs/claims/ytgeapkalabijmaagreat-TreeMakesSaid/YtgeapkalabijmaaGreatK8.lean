/- What a machine tells of itself. -/
import Derived.Test.YtgeapkalabijmaaGreatK7
namespace Go.Proofs.YtgeapkalabijmaaGreat
open Go Go.RowKit
set_option maxRecDepth 100000
set_option maxHeartbeats 1000000
set_option linter.unusedVariables false
set_option linter.unusedSimpArgs false

theorem mend_results {tmps : Array Value} {W : World} {r0 : Nat} {x y z : Int} {T : TypeId} {fr : Nat × Nat} (h : tmps.getD 2 undef = .pointer (some ⟨r0, 0, none⟩)) (hb : W.heap[r0]? = some (.cells #[.int .i64 x, .int .i64 y, .int .i64 z] T fr)) :
    (results Tryz.f60 tmps).run Tryz.prog W = .ok (.agg #[.int .i64 x, .int .i64 y, .int .i64 z]) W := by
  have h' : tmps[2]?.getD undef = .pointer (some ⟨r0, 0, none⟩) := by simpa using h
  have hl := run_loadVar_row (P := Tryz.prog) W r0 T 54 #[.int .i64 x, .int .i64 y, .int .i64 z] fr _ hb Tryz.underlying54 rfl (by kernel_rfl)
  have k0 : W.cell? ⟨r0, 0, none⟩ = some (.int .i64 x) := blk_cell hb 0
  have k1 : W.cell? ⟨r0, 1, none⟩ = some (.int .i64 y) := blk_cell hb 1
  have k2 : W.cell? ⟨r0, 2, none⟩ = some (.int .i64 z) := blk_cell hb 2
  simp [results, Tryz.results60, h', asAddr, hl, k0, k1, k2, go_sem]
section
variable (m : Nat) (F : Nat → Prop) (s : Mc) (w : World)
theorem mused_any (h : Ma w m F s) : Calls Tryz.prog 67 #[.pointer (some ⟨m, 0, none⟩)] w fun e w' => e = .returned (.int .i64 (s.used : Int)) ∧ Chg w w' Nothing := by
  have c26 : w.cell? ⟨m, 26, none⟩ = some (.int .i64 (s.used : Int)) := h.cell 26 (fun pn pc pb ac cc ao co ar cr => rfl)
  clear h
  go_enter Tryz.func67, Tryz.ntmps67
  go_wp2_with fail
  go_ret
  exact ⟨rfl, Chg.refl _ _⟩
theorem mwrites_any (h : Ma w m F s) : Calls Tryz.prog 66 #[.pointer (some ⟨m, 0, none⟩)] w fun e w' => ∃ a c, e = .returned (.slice a s.buf.length c) ∧ w'.ownsRow w.heap.size 152 2 (.slice a s.buf.length c) s.buf.length (tchV s.buf) ∧ Chg w w' Nothing := by
  obtain ⟨hF, T, pn, pc, pb, ac, cc, ao, co, ar, cr, hM, hT⟩ := h
  have c34 : w.cell? ⟨m, 34, none⟩ = some (.pointer (some ⟨pb, 0, none⟩)) := blk_cell hM.blk 34
  have HM := Lib.hid hM.buf
  clear hM
  go_enter Tryz.func66, Tryz.ntmps66
  go_wp2_with fail
  with_reducible refine (all_any pb _ _ _ _ HM.out).mono ?_
  rintro e w1 ⟨a, c, rfl, ho, hc⟩
  have R := Lib.hid (And.intro ho hc)
  clear ho hc
  go_wp2_with fail
  go_ret
  exact ⟨_, _, rfl, R.out⟩
theorem mend_any (h : Ma w m F s) : Calls Tryz.prog 60 #[.pointer (some ⟨m, 0, none⟩)] w fun e w' => e = .returned (.agg #[.int .i64 s.how.1, .int .i64 s.how.2.1, .int .i64 s.how.2.2]) ∧ Chg w w' Nothing := by
  have c29 : w.cell? ⟨m, 29, none⟩ = some (.int .i64 s.how.1) := h.cell 29 (fun pn pc pb ac cc ao co ar cr => rfl)
  have c30 : w.cell? ⟨m, 30, none⟩ = some (.int .i64 s.how.2.1) := h.cell 30 (fun pn pc pb ac cc ao co ar cr => rfl)
  have c31 : w.cell? ⟨m, 31, none⟩ = some (.int .i64 s.how.2.2) := h.cell 31 (fun pn pc pb ac cc ao co ar cr => rfl)
  have hm := h.has.2
  clear h
  go_enter Tryz.func60, Tryz.ntmps60
  go_wp2_with fail
  exact bodyPost_ret (v := .agg #[.int .i64 s.how.1, .int .i64 s.how.2.1, .int .i64 s.how.2.2]) (mend_results rfl (heap_alloc_new w _)) rfl ⟨rfl, (Chg.refl _ _).alloc _⟩
end
end Go.Proofs.YtgeapkalabijmaaGreat

/- What a machine tells of itself: its rows. -/
namespace Go.Proofs.YtgeapkalabijmaaGreat
open Go Go.RowKit
set_option maxRecDepth 100000
set_option maxHeartbeats 1000000
set_option linter.unusedVariables false
set_option linter.unusedSimpArgs false

theorem fl_one (l : List Nat) : ∀ u ∈ l.map fl, u.oneCell' = true := by
  intro u hu
  obtain ⟨y, _, rfl⟩ := List.mem_map.1 hu
  simp [Value.oneCell', fl]
theorem tch_one (l : List (Int × Nat)) : ∀ u ∈ tchV l, u.oneCell' = true := by
  intro u hu
  unfold tchV at hu
  rw [List.mem_flatMap] at hu
  obtain ⟨t, _, h⟩ := hu
  simp at h
  rcases h with rfl | rfl <;> rfl
section
variable (m : Nat) (F : Nat → Prop) (s : Mc) (w : World)
theorem mout_any (h : Ma w m F s) (hl : s.out.length ≤ 4096) : Calls Tryz.prog 64 #[.pointer (some ⟨m, 0, none⟩)] w fun e w' => ∃ a c, e = .returned (.slice a s.out.length c) ∧ w'.ownsRow w.heap.size 61 1 (.slice a s.out.length c) s.out.length (s.out.map fl) ∧ Chg w w' Nothing := by
  obtain ⟨hF, T, pn, pc, pb, ac, cc, ao, co, ar, cr, hM, hT⟩ := h
  have c32 : w.cell? ⟨m, 32, none⟩ = some (.slice ao s.out.length co) := blk_cell hM.blk 32
  have HO := Lib.hid hM.out.1
  have HL := Lib.hid hl
  clear hM hl
  cases ao with
  | none =>
    have h0 : s.out = [] := by
      rcases HO.out.2 with ⟨hv, h0⟩ | ⟨g, cap, cur, hv, _⟩
      · exact List.eq_nil_of_length_eq_zero h0
      · simp at hv
    rw [h0] at c32 ⊢
    clear HO h0
    go_enter Tryz.func64, Tryz.ntmps64
    go_wp2_with fail
    go_ret
    exact ⟨none, 0, rfl, World.ownsRow_nil _ _ _ _, Chg.refl _ _⟩
  | some ad =>
    have hc : ∀ j u, (s.out.map fl)[j]? = some u → w.cell? (ad.add j) = some u := by
      rcases HO.out.2 with ⟨hv, h0⟩ | ⟨g, cap, cur, hv, _⟩
      · simp at hv
      · injection hv with hv; cases hv; exact HO.out.cells (g := g) rfl
    have HC := Lib.hid hc
    clear hc HO
    go_enter Tryz.func64, Tryz.ntmps64
    go_wp2_with (at_builtin; refine append_any rfl _ _ 55 61 rfl (.float .f64 0) 1 8 Tryz.underlying55 (by kernel_rfl) rfl (by decide) _ 0 [] rfl (World.ownsRow_nil _ _ _ _) ad s.out.length co rfl (s.out.map fl) (by rw [List.length_map, Nat.mul_one]) ?c1 (fl_one _) ?c3 ?c4 ?c5)
    case c1 => exact fun j u hu => HC.out j u hu
    case c3 => have := HL.out; unfold maxLen; omega
    case c4 => have := HL.out; omega
    case c5 =>
      intro v w2 hown2 hg2 hgg
      obtain ⟨a', c', rfl⟩ := (ownsRow_shape hown2).1
      (try simp only [Nat.zero_add, List.nil_append] at hown2)
      have R := Lib.hid (show w2.ownsRow w.heap.size 61 1 (.slice a' s.out.length c') s.out.length (s.out.map fl) ∧ Chg w w2 Nothing from
        ⟨ownsRow_rebase hown2 (fun g hg => by rcases hgg g hg with h | h; simp [Value.ownBlock] at h; omega), (Chg.refl w Nothing).grown hg2 (by intro k hk; simp [Value.ownBlock] at hk)⟩)
      clear hown2 hg2 hgg
      go_wp2_with fail
      go_ret
      exact ⟨_, _, rfl, R.out⟩
theorem mreads_any (h : Ma w m F s) (hl : s.reads.length ≤ 4096) : Calls Tryz.prog 65 #[.pointer (some ⟨m, 0, none⟩)] w fun e w' => ∃ a c, e = .returned (.slice a s.reads.length c) ∧ w'.ownsRow w.heap.size 152 2 (.slice a s.reads.length c) s.reads.length (tchV s.reads) ∧ Chg w w' Nothing := by
  obtain ⟨hF, T, pn, pc, pb, ac, cc, ao, co, ar, cr, hM, hT⟩ := h
  have c33 : w.cell? ⟨m, 33, none⟩ = some (.slice ar s.reads.length cr) := blk_cell hM.blk 33
  have HO := Lib.hid hM.reads.1
  have HL := Lib.hid hl
  clear hM hl
  cases ar with
  | none =>
    have h0 : s.reads = [] := by
      rcases HO.out.2 with ⟨hv, h0⟩ | ⟨g, cap, cur, hv, _⟩
      · exact List.eq_nil_of_length_eq_zero h0
      · simp at hv
    rw [h0] at c33 ⊢
    clear HO h0
    go_enter Tryz.func65, Tryz.ntmps65
    go_wp2_with fail
    go_ret
    exact ⟨none, 0, rfl, World.ownsRow_nil _ _ _ _, Chg.refl _ _⟩
  | some ad =>
    have hc : ∀ j u, (tchV s.reads)[j]? = some u → w.cell? (ad.add j) = some u := by
      rcases HO.out.2 with ⟨hv, h0⟩ | ⟨g, cap, cur, hv, _⟩
      · simp at hv
      · injection hv with hv; cases hv; exact HO.out.cells (g := g) rfl
    have HC := Lib.hid hc
    clear hc HO
    go_enter Tryz.func65, Tryz.ntmps65
    go_wp2_with (at_builtin; refine append_any rfl _ _ 56 152 rfl (.agg #[.int .i64 0, fl 0]) 2 16 Tryz.underlying56 (by kernel_rfl) rfl (by decide) _ 0 [] rfl (World.ownsRow_nil _ _ _ _) ad s.reads.length cr rfl (tchV s.reads) (tchV_len _) ?c1 (tch_one _) ?c3 ?c4 ?c5)
    case c1 => exact fun j u hu => HC.out j u hu
    case c3 => have := HL.out; unfold maxLen; omega
    case c4 => have := HL.out; omega
    case c5 =>
      intro v w2 hown2 hg2 hgg
      obtain ⟨a', c', rfl⟩ := (ownsRow_shape hown2).1
      (try simp only [Nat.zero_add, List.nil_append] at hown2)
      have R := Lib.hid (show w2.ownsRow w.heap.size 152 2 (.slice a' s.reads.length c') s.reads.length (tchV s.reads) ∧ Chg w w2 Nothing from
        ⟨ownsRow_rebase hown2 (fun g hg => by rcases hgg g hg with h | h; simp [Value.ownBlock] at h; omega), (Chg.refl w Nothing).grown hg2 (by intro k hk; simp [Value.ownBlock] at hk)⟩)
      clear hown2 hg2 hgg
      go_wp2_with fail
      go_ret
      exact ⟨_, _, rfl, R.out⟩
end
end Go.Proofs.YtgeapkalabijmaaGreat

/- What a machine tells of itself: its locals. -/
namespace Go.Proofs.YtgeapkalabijmaaGreat
open Go Go.RowKit
set_option maxRecDepth 100000
set_option maxHeartbeats 1000000
set_option linter.unusedVariables false
set_option linter.unusedSimpArgs false

def eightL (f : Nat → Nat) : List Nat := [f 0, f 1, f 2, f 3, f 4, f 5, f 6, f 7]
section
variable (m : Nat) (F : Nat → Prop) (s : Mc) (w : World)
end
end Go.Proofs.YtgeapkalabijmaaGreat

/- mem.Place: which configurations may be. -/
namespace Go.Proofs.YtgeapkalabijmaaGreat
open Go Go.RowKit
set_option maxRecDepth 100000
set_option maxHeartbeats 1000000
set_option linter.unusedVariables false
set_option linter.unusedSimpArgs false

/-- A configuration that may be. -/
def CfgOk (c t f r : Int) : Prop := (1 ≤ c ∧ c ≤ 256) ∧ (1 ≤ t ∧ t ≤ 8) ∧ (1 ≤ f ∧ f ≤ 1024) ∧ (1 ≤ r ∧ r ≤ 32)
instance (c t f r : Int) : Decidable (CfgOk c t f r) := by unfold CfgOk; infer_instance
theorem place_results {tmps : Array Value} {W : World} {r0 : Nat} {x0 x1 x2 x3 x4 x5 ee : Int} {T : TypeId} {fr : Nat × Nat} (h : tmps.getD 2 undef = .pointer (some ⟨r0, 0, none⟩)) (h3 : tmps.getD 3 undef = .int .i64 ee) (hb : W.heap[r0]? = some (.cells #[.int .i64 x0, .int .i64 x1, .int .i64 x2, .int .i64 x3, .int .i64 x4, .int .i64 x5] T fr)) :
    (results Tryz.f110 tmps).run Tryz.prog W = .ok (.tuple #[.agg #[.int .i64 x0, .int .i64 x1, .int .i64 x2, .int .i64 x3, .int .i64 x4, .int .i64 x5], .int .i64 ee]) W := by
  have h' : tmps[2]?.getD undef = .pointer (some ⟨r0, 0, none⟩) := by simpa using h
  have h3' : tmps[3]?.getD undef = .int .i64 ee := by simpa using h3
  have hl := run_loadVar_row (P := Tryz.prog) W r0 T 130 #[.int .i64 x0, .int .i64 x1, .int .i64 x2, .int .i64 x3, .int .i64 x4, .int .i64 x5] fr _ hb Tryz.underlying130 rfl (by kernel_rfl)
  have k0 : W.cell? ⟨r0, 0, none⟩ = some (.int .i64 x0) := blk_cell hb 0
  have k1 : W.cell? ⟨r0, 1, none⟩ = some (.int .i64 x1) := blk_cell hb 1
  have k2 : W.cell? ⟨r0, 2, none⟩ = some (.int .i64 x2) := blk_cell hb 2
  have k3 : W.cell? ⟨r0, 3, none⟩ = some (.int .i64 x3) := blk_cell hb 3
  have k4 : W.cell? ⟨r0, 4, none⟩ = some (.int .i64 x4) := blk_cell hb 4
  have k5 : W.cell? ⟨r0, 5, none⟩ = some (.int .i64 x5) := blk_cell hb 5
  simp [results, Tryz.results110, h', h3', asAddr, hl, k0, k1, k2, k3, k4, k5, go_sem]
theorem place_good (c t f r : Int) (w : World) (h : CfgOk c t f r) :
    Calls Tryz.prog 110 #[.agg #[.int .i64 c, .int .i64 t, .int .i64 f, .int .i64 r]] w fun e w' => (∃ x0 x1 x2 x3 x4 x5 : Int, e = .returned (.tuple #[.agg #[.int .i64 x0, .int .i64 x1, .int .i64 x2, .int .i64 x3, .int .i64 x4, .int .i64 x5], .int .i64 0])) ∧ Chg w w' Nothing := by
  obtain ⟨⟨h1, h2⟩, ⟨h3, h4⟩, ⟨h5, h6⟩, h7, h8⟩ := h
  have b1 : decide (c < 1) = false := decide_eq_false (by omega)
  have b2 : decide (256 < c) = false := decide_eq_false (by omega)
  have b3 : decide (t < 1) = false := decide_eq_false (by omega)
  have b4 : decide (8 < t) = false := decide_eq_false (by omega)
  have b5 : decide (f < 1) = false := decide_eq_false (by omega)
  have b6 : decide (1024 < f) = false := decide_eq_false (by omega)
  have b7 : decide (r < 1) = false := decide_eq_false (by omega)
  have b8 : decide (32 < r) = false := decide_eq_false (by omega)
  go_enter Tryz.func110, Tryz.ntmps110
  go_wp2_with fail
  exact bodyPost_ret (place_results rfl rfl ((Below.heap_alloc _ _ _ (by simp)).trans step_blk)) rfl ⟨⟨_, _, _, _, _, _, rfl⟩, (((Chg.refl _ _).alloc _).alloc _).alloc _⟩
theorem place_bad (c t f r : Int) (w : World) (h : ¬ CfgOk c t f r) :
    Calls Tryz.prog 110 #[.agg #[.int .i64 c, .int .i64 t, .int .i64 f, .int .i64 r]] w fun e w' => (∃ x0 x1 x2 x3 x4 x5 : Int, e = .returned (.tuple #[.agg #[.int .i64 x0, .int .i64 x1, .int .i64 x2, .int .i64 x3, .int .i64 x4, .int .i64 x5], .int .i64 1])) ∧ Chg w w' Nothing := by
  unfold CfgOk at h
  by_cases g1 : c < 1
  · have b1 : decide (c < 1) = true := decide_eq_true g1
    clear h g1
    go_enter Tryz.func110, Tryz.ntmps110
    go_wp2_with fail
    exact bodyPost_ret (place_results rfl rfl step_blk) rfl ⟨⟨_, _, _, _, _, _, rfl⟩, ((Chg.refl _ _).alloc _).alloc _⟩
  have b1 : decide (c < 1) = false := decide_eq_false g1
  by_cases g2 : 256 < c
  · have b2 : decide (256 < c) = true := decide_eq_true g2
    clear h g1 g2
    go_enter Tryz.func110, Tryz.ntmps110
    go_wp2_with fail
    exact bodyPost_ret (place_results rfl rfl step_blk) rfl ⟨⟨_, _, _, _, _, _, rfl⟩, ((Chg.refl _ _).alloc _).alloc _⟩
  have b2 : decide (256 < c) = false := decide_eq_false g2
  by_cases g3 : t < 1
  · have b3 : decide (t < 1) = true := decide_eq_true g3
    clear h g1 g2 g3
    go_enter Tryz.func110, Tryz.ntmps110
    go_wp2_with fail
    exact bodyPost_ret (place_results rfl rfl step_blk) rfl ⟨⟨_, _, _, _, _, _, rfl⟩, ((Chg.refl _ _).alloc _).alloc _⟩
  have b3 : decide (t < 1) = false := decide_eq_false g3
  by_cases g4 : 8 < t
  · have b4 : decide (8 < t) = true := decide_eq_true g4
    clear h g1 g2 g3 g4
    go_enter Tryz.func110, Tryz.ntmps110
    go_wp2_with fail
    exact bodyPost_ret (place_results rfl rfl step_blk) rfl ⟨⟨_, _, _, _, _, _, rfl⟩, ((Chg.refl _ _).alloc _).alloc _⟩
  have b4 : decide (8 < t) = false := decide_eq_false g4
  by_cases g5 : f < 1
  · have b5 : decide (f < 1) = true := decide_eq_true g5
    clear h g1 g2 g3 g4 g5
    go_enter Tryz.func110, Tryz.ntmps110
    go_wp2_with fail
    exact bodyPost_ret (place_results rfl rfl step_blk) rfl ⟨⟨_, _, _, _, _, _, rfl⟩, ((Chg.refl _ _).alloc _).alloc _⟩
  have b5 : decide (f < 1) = false := decide_eq_false g5
  by_cases g6 : 1024 < f
  · have b6 : decide (1024 < f) = true := decide_eq_true g6
    clear h g1 g2 g3 g4 g5 g6
    go_enter Tryz.func110, Tryz.ntmps110
    go_wp2_with fail
    exact bodyPost_ret (place_results rfl rfl step_blk) rfl ⟨⟨_, _, _, _, _, _, rfl⟩, ((Chg.refl _ _).alloc _).alloc _⟩
  have b6 : decide (1024 < f) = false := decide_eq_false g6
  by_cases g7 : r < 1
  · have b7 : decide (r < 1) = true := decide_eq_true g7
    clear h g1 g2 g3 g4 g5 g6 g7
    go_enter Tryz.func110, Tryz.ntmps110
    go_wp2_with fail
    exact bodyPost_ret (place_results rfl rfl step_blk) rfl ⟨⟨_, _, _, _, _, _, rfl⟩, ((Chg.refl _ _).alloc _).alloc _⟩
  have b7 : decide (r < 1) = false := decide_eq_false g7
  · have b8 : decide (32 < r) = true := decide_eq_true (by omega)
    clear h g1 g2 g3 g4 g5 g6 g7
    go_enter Tryz.func110, Tryz.ntmps110
    go_wp2_with fail
    exact bodyPost_ret (place_results rfl rfl step_blk) rfl ⟨⟨_, _, _, _, _, _, rfl⟩, ((Chg.refl _ _).alloc _).alloc _⟩
end Go.Proofs.YtgeapkalabijmaaGreat

/- A machine that is new. -/
namespace Go.Proofs.YtgeapkalabijmaaGreat
open Go Go.RowKit
set_option maxRecDepth 100000
set_option maxHeartbeats 1000000
set_option linter.unusedVariables false
set_option linter.unusedSimpArgs false

/-- Parts whose blocks lie apart make a machine. -/
theorem Ma.parts {w : World} {m : Nat} {s : Mc} {pn pc pb : Nat} {ac ao ar : Option Addr} {cc co cr : Nat} {G : Nat → Prop} (P : Nat → Nat → Prop)
    (hP : ∀ i k, P i k → 1 ≤ i ∧ i ≤ 7 ∧ k < w.heap.size ∧ G k) (hd : ∀ i j k, P i k → P j k → i = j) (hG : ∀ k, G k → k < w.heap.size)
    (hm : P 1 m) (blk : w.heap[m]? = some (.cells (mcells s pn pc pb ac cc ao co ar cr) 142 (0, 0)))
    (code : w.ownsRow 0 73 3 (.slice ac s.code.length cc) s.code.length (insV s.code)) (code' : ∀ b, (Value.slice ac s.code.length cc).ownBlock = some b → P 2 b)
    (out : w.ownsRow 0 61 1 (.slice ao s.out.length co) s.out.length (s.out.map fl)) (out' : ∀ b, (Value.slice ao s.out.length co).ownBlock = some b → P 3 b)
    (reads : w.ownsRow 0 152 2 (.slice ar s.reads.length cr) s.reads.length (tchV s.reads)) (reads' : ∀ b, (Value.slice ar s.reads.length cr).ownBlock = some b → P 4 b)
    (num : SFk w pn (P 5) (s.s.map (Value.float .f64)) 64) (cal : SIk w pc (P 6) (s.calls.map (Value.int .i64)) 16) (buf : Bf w pb (P 7) s.buf s.writes) : Ma w m G s := by
  classical
  have hT : ∃ T : Nat → Nat, (∀ i k, i ≠ 0 → (T k = i ↔ P i k)) := by
    refine ⟨fun k => if h : ∃ i, P i k then Classical.choose h else 0, fun i k hi => ?_⟩
    constructor
    · intro h
      dsimp only at h
      split at h
      · rename_i h'
        have := Classical.choose_spec h'
        rw [h] at this
        exact this
      · exact absurd h.symm hi
    · intro h
      dsimp only
      rw [dif_pos ⟨i, h⟩]
      exact hd _ _ k (Classical.choose_spec (⟨i, h⟩ : ∃ i, P i k)) h
  obtain ⟨T, hT⟩ := hT
  have e : ∀ i, i ≠ 0 → (fun k => T k = i) = P i := fun i hi => funext fun k => propext (hT i k hi)
  refine ⟨hG, T, pn, pc, pb, ac, cc, ao, co, ar, cr, ⟨blk, (hT 1 m (by decide)).2 hm, ⟨code, fun b hb => (hT 2 b (by decide)).2 (code' b hb)⟩, ⟨out, fun b hb => (hT 3 b (by decide)).2 (out' b hb)⟩, ⟨reads, fun b hb => (hT 4 b (by decide)).2 (reads' b hb)⟩, ?_, ?_, ?_, fun k hk => (hP _ k ((hT _ k hk).1 rfl)).2.2.1⟩, fun k hk => (hP _ k ((hT _ k hk).1 rfl)).2.2.2⟩
  · rw [e 5 (by decide)]; exact num
  · rw [e 6 (by decide)]; exact cal
  · rw [e 7 (by decide)]; exact buf
/-- What is new. -/
def newP (m a2 b2 a5 b5 a6 b6 a7 b7 : Nat) (i k : Nat) : Prop := (i = 1 ∧ k = m) ∨ (i = 2 ∧ a2 ≤ k ∧ k < b2) ∨ (i = 5 ∧ a5 ≤ k ∧ k < b5) ∨ (i = 6 ∧ a6 ≤ k ∧ k < b6) ∨ (i = 7 ∧ a7 ≤ k ∧ k < b7)
theorem Ma.new {w : World} {m base a2 b2 a5 b5 a6 b6 a7 b7 : Nat} {s : Mc} {pn pc pb : Nat} {ac : Option Addr} {cc : Nat} (ho : s.out = []) (hr : s.reads = [])
    (blk : w.heap[m]? = some (.cells (mcells s pn pc pb ac cc none 0 none 0) 142 (0, 0)))
    (code : w.ownsRow 0 73 3 (.slice ac s.code.length cc) s.code.length (insV s.code)) (code' : ∀ b, (Value.slice ac s.code.length cc).ownBlock = some b → a2 ≤ b ∧ b < b2)
    (num : SFk w pn (fun k => a5 ≤ k ∧ k < b5) (s.s.map (Value.float .f64)) 64) (cal : SIk w pc (fun k => a6 ≤ k ∧ k < b6) (s.calls.map (Value.int .i64)) 16) (buf : Bf w pb (fun k => a7 ≤ k ∧ k < b7) s.buf s.writes)
    (h7 : base ≤ a7) (h72 : b7 ≤ a2) (h75 : b7 ≤ a5) (h76 : b7 ≤ a6) (h25 : b2 ≤ a5) (h26 : b2 ≤ a6) (h56 : b5 ≤ a6 ∨ b6 ≤ a5) (hm5 : b5 ≤ m) (hm6 : b6 ≤ m) (hm2 : b2 ≤ m) (hm7 : b7 ≤ m) (h2 : base ≤ a2) (h5 : base ≤ a5) (h6 : base ≤ a6) (hm : base ≤ m) : Ma w m (fun k => base ≤ k ∧ k < w.heap.size) s := by
  have hml := blk_lt blk
  have e5 : newP m a2 b2 a5 b5 a6 b6 a7 b7 5 = fun k => a5 ≤ k ∧ k < b5 := by funext k; unfold newP; simp
  have e6 : newP m a2 b2 a5 b5 a6 b6 a7 b7 6 = fun k => a6 ≤ k ∧ k < b6 := by funext k; unfold newP; simp
  have e7 : newP m a2 b2 a5 b5 a6 b6 a7 b7 7 = fun k => a7 ≤ k ∧ k < b7 := by funext k; unfold newP; simp
  refine Ma.parts (newP m a2 b2 a5 b5 a6 b6 a7 b7) (fun i k h => ?_) (fun i j k hi hj => ?_) (fun k hk => hk.2) (.inl ⟨rfl, rfl⟩) blk code (fun b hb => .inr (.inl ⟨rfl, code' b hb⟩)) ?_ ?_ ?_ ?_ (by rw [e5]; exact num) (by rw [e6]; exact cal) (by rw [e7]; exact buf)
  · unfold newP at h
    rcases h with ⟨rfl, h⟩ | ⟨rfl, h⟩ | ⟨rfl, h⟩ | ⟨rfl, h⟩ | ⟨rfl, h⟩
    · exact ⟨by decide, by decide, by omega, by omega, by omega⟩
    · exact ⟨by decide, by decide, by omega, by omega, by omega⟩
    · exact ⟨by decide, by decide, by omega, by omega, by omega⟩
    · exact ⟨by decide, by decide, by omega, by omega, by omega⟩
    · exact ⟨by decide, by decide, by omega, by omega, by omega⟩
  · unfold newP at hi hj
    rcases hi with ⟨rfl, hi⟩ | ⟨rfl, hi⟩ | ⟨rfl, hi⟩ | ⟨rfl, hi⟩ | ⟨rfl, hi⟩ <;> rcases hj with ⟨rfl, hj⟩ | ⟨rfl, hj⟩ | ⟨rfl, hj⟩ | ⟨rfl, hj⟩ | ⟨rfl, hj⟩ <;> first | rfl | omega
  · rw [ho]; exact World.ownsRow_nil _ _ _ _
  · intro b hb; simp [Value.ownBlock] at hb
  · rw [hr]; exact World.ownsRow_nil _ _ _ _
  · intro b hb; simp [Value.ownBlock] at hb
end Go.Proofs.YtgeapkalabijmaaGreat

/- machine.New. -/
namespace Go.Proofs.YtgeapkalabijmaaGreat
open Go Go.RowKit
set_option maxRecDepth 100000
set_option maxHeartbeats 1000000
set_option linter.unusedVariables false
set_option linter.unusedSimpArgs false

/-- 'append(nil, x...)', x nil or not. -/
theorem append_see {P : Program} {w : World} {ops : Array Oper} {rest : List Oper} {o : Oper} {a : Act} {Q : Exit → Act → World → Prop} (hgd : o.guard = none) (s x : Operand) (t e : TypeId)
    (ho : o.op = .call { callee := .builtin .append, args := #[s, x], argTypes := #[t, t] }) (z : Value) (size bytes : Nat) (ht : P.underlying t = some (.slice e))
    (hinf : (P.info? e).map (fun i => (i.zero, i.size, i.bytes)) = some (some z, size, bytes)) (hzs : z.cells.size = size) (hsz : 0 < size)
    (hs : a.eval s = .slice none 0 0) (A : Option Addr) (m c : Nat) (hx : a.eval x = .slice A m c) (news : List Value) (hl : news.length = m * size) (hnews : Sees w A news) (h1 : ∀ u ∈ news, u.oneCell' = true)
    (h63 : m ≤ maxLen) (hbytes : m * bytes ≤ 140737488355328)
    (h : ∀ a' c' w', w'.ownsRow w.heap.size e size (.slice a' m c') m news → Chg w w' Nothing → wpList P ops Q rest (a.put o.dst (.slice a' m c')) w') : wpList P ops Q (o :: rest) a w := by
  obtain ⟨i, hi, hz, hsize, hby⟩ := info_parts hinf
  cases A with
  | none =>
    have hn : news = [] := by
      rcases hnews with h | ⟨b, o, h, _⟩
      · exact h
      · simp at h
    subst hn
    obtain rfl : m = 0 := by
      rcases Nat.eq_zero_or_pos m with h | h
      · exact h
      · have := Nat.mul_pos h hsz
        rw [List.length_nil] at hl
        omega
    refine wpList_plain hgd fun K hK => ?_
    have hrun : (Builtin.append_ #[t, t] o.type #[.slice none 0 0, .slice none 0 c]).run P w = .ok (.slice none 0 0) w := by
      simp [Builtin.append_, run_underlying ht, sizeOf, typeInfo, hi, Builtin.lenOf, Builtin.firstCells]
    unfold Oper.wp
    simp [execOp, ho, resolve, invoke, builtin, hs, hx, hrun, Result.andThen]
    exact hK _ _ (h none 0 w (World.ownsRow_nil _ _ _ _) (Chg.refl _ _))
  | some ad =>
    have hc : ∀ j u, news[j]? = some u → w.cell? (ad.add j) = some u := by
      rcases hnews with rfl | ⟨b, o, h, hc⟩
      · intro j u hu; simp at hu
      · injection h with h
        subst h
        intro j u hu
        rw [Addr.add_lit]
        exact hc j u hu
    refine append_any hgd s x t e ho z size bytes ht hinf hzs hsz (.slice none 0 0) 0 [] hs (World.ownsRow_nil _ _ _ _) ad m c hx news hl hc h1 (by omega) (by rw [Nat.zero_add]; exact hbytes) ?_
    intro v w' hown hg hgg
    obtain ⟨a', c', rfl⟩ := (ownsRow_shape hown).1
    simp only [Nat.zero_add, List.nil_append] at hown hgg ⊢
    exact h a' c' w' (ownsRow_rebase hown (fun g hg => by rcases hgg g hg with h | h; simp [Value.ownBlock] at h; omega)) ((Chg.refl w Nothing).grown hg (by intro k hk; simp [Value.ownBlock] at hk))

/-- The machine at its beginning, the first n arguments laid. -/
def mcN (c t f r tag : Int) (code : List Ins) (args : List Nat) (n : Nat) : Mc :=
  { cells := c, threads := t, fuel := f, writes := r, tag := tag, code := code, args := fun k => if k < n then fixB (args.getD k 0) else 0, locals := fun _ => 0, s := [], calls := [], at_ := 0, used := 0, waits := false, cell := 0, how := (0, 0, 0), out := [], reads := [], buf := [] }
/-- The machine at its beginning. -/
def mc0 (c t f r tag : Int) (code : List Ins) (args : List Nat) : Mc := mcN c t f r tag code args args.length
theorem mcN_arg {c t f r tag : Int} {code : List Ins} {args : List Nat} {n x : Nat} (hx : args[n]? = some x) (pn pc pb : Nat) (ac : Option Addr) (cc : Nat) (ao : Option Addr) (co : Nat) (ar : Option Addr) (cr : Nat) (hn : n < 8) :
    (mcells (mcN c t f r tag code args n) pn pc pb ac cc ao co ar cr).setIfInBounds (7 + n) (fl (fixB x)) = mcells (mcN c t f r tag code args (n + 1)) pn pc pb ac cc ao co ar cr := by
  have e : ∀ k, k ≠ n → (mcN c t f r tag code args (n + 1)).args k = (mcN c t f r tag code args n).args k := fun k hk => by
    show (if k < n + 1 then fixB (args.getD k 0) else 0) = if k < n then fixB (args.getD k 0) else 0
    by_cases h : k < n
    · rw [if_pos h, if_pos (by omega)]
    · rw [if_neg h, if_neg (by omega)]
  have e' : (mcN c t f r tag code args (n + 1)).args n = fixB x := by
    show (if n < n + 1 then fixB (args.getD n 0) else 0) = fixB x
    rw [if_pos (by omega), List.getD_eq_getElem?_getD, hx]; rfl
  unfold mcells
  rcases (by omega : n = 0 ∨ n = 1 ∨ n = 2 ∨ n = 3 ∨ 4 ≤ n) with rfl | rfl | rfl | rfl | h4
  · rw [e', e 1 (by decide), e 2 (by decide), e 3 (by decide), e 4 (by decide), e 5 (by decide), e 6 (by decide), e 7 (by decide)]; rfl
  · rw [e', e 0 (by decide), e 2 (by decide), e 3 (by decide), e 4 (by decide), e 5 (by decide), e 6 (by decide), e 7 (by decide)]; rfl
  · rw [e', e 0 (by decide), e 1 (by decide), e 3 (by decide), e 4 (by decide), e 5 (by decide), e 6 (by decide), e 7 (by decide)]; rfl
  · rw [e', e 0 (by decide), e 1 (by decide), e 2 (by decide), e 4 (by decide), e 5 (by decide), e 6 (by decide), e 7 (by decide)]; rfl
  rcases (by omega : n = 4 ∨ n = 5 ∨ n = 6 ∨ n = 7) with rfl | rfl | rfl | rfl
  · rw [e', e 0 (by decide), e 1 (by decide), e 2 (by decide), e 3 (by decide), e 5 (by decide), e 6 (by decide), e 7 (by decide)]; rfl
  · rw [e', e 0 (by decide), e 1 (by decide), e 2 (by decide), e 3 (by decide), e 4 (by decide), e 6 (by decide), e 7 (by decide)]; rfl
  · rw [e', e 0 (by decide), e 1 (by decide), e 2 (by decide), e 3 (by decide), e 4 (by decide), e 5 (by decide), e 7 (by decide)]; rfl
  · rw [e', e 0 (by decide), e 1 (by decide), e 2 (by decide), e 3 (by decide), e 4 (by decide), e 5 (by decide), e 6 (by decide)]; rfl
theorem mc0_ok {c t f r tag : Int} {code : List Ins} {args : List Nat} (h : CfgOk c t f r) (hx : ∀ i ∈ code, i.2.2 < 18446744073709551616) (ha : ∀ y ∈ args, y < 18446744073709551616) : (mc0 c t f r tag code args).Ok := by
  obtain ⟨h1, h2, h3, h4⟩ := h
  refine ⟨hx, by intro y hy; exact absurd hy (by show ¬ y ∈ []; simp), ?_, fun _ => Num.zero, h3.2, by show ((0 : Nat) : Int) ≤ f; omega, Nat.le_refl _, by show 0 + (if false then 1 else 0) ≤ 0; simp, by intro y hy; exact absurd hy (by show ¬ y ∈ []; simp), fun _ => ⟨Nat.zero_le _, by intro y hy; exact absurd hy (by show ¬ y ∈ []; simp)⟩, by intro y hy; exact absurd hy (by show ¬ y ∈ []; simp), by intro y hy; exact absurd hy (by show ¬ y ∈ []; simp), by intro y hy; exact absurd hy (by show ¬ y ∈ []; simp)⟩
  intro k
  show Num (if k < args.length then fixB (args.getD k 0) else 0)
  refine Num.ite (Num.fix ?_) Num.zero
  rw [List.getD_eq_getElem?_getD]
  cases e : args[k]? with
  | none => decide
  | some y => exact ha y (List.mem_of_getElem? e)
theorem mnew_bad (c t f r tag : Int) (ac : Option Addr) (ln cc : Nat) (aa : Option Addr) (n na : Nat) (w : World) (h : ¬ (CfgOk c t f r ∧ n ≤ 8)) :
    Calls Tryz.prog 59 #[.agg #[.int .i64 c, .int .i64 t, .int .i64 f, .int .i64 r], .agg #[.int .i64 tag, .slice ac ln cc], .slice aa n na] w fun e w' => e = .returned (.pointer none) ∧ Chg w w' Nothing := by
  by_cases hc : CfgOk c t f r
  · have hn : ¬ n ≤ 8 := fun hn => h ⟨hc, hn⟩
    have b1 : decide ((8 : Int) < (n : Int)) = true := decide_eq_true (by omega)
    have HC := Lib.hid hc
    clear h hc hn
    go_enter Tryz.func59, Tryz.ntmps59
    go_wp2_with fail
    with_reducible refine (place_good c t f r _ HC.out).mono ?_
    rintro e w1 ⟨⟨x0, x1, x2, x3, x4, x5, rfl⟩, hc1⟩
    have R := Lib.hid hc1
    have hs1 := hc1.size
    clear hc1
    go_wp2_with fail
    go_ret
    exact ⟨rfl, ((((Chg.refl w Nothing).alloc _).alloc _).trans R.out (fun _ _ h => h)).alloc _⟩
  · have HC := Lib.hid hc
    clear h hc
    go_enter Tryz.func59, Tryz.ntmps59
    go_wp2_with fail
    with_reducible refine (place_bad c t f r _ HC.out).mono ?_
    rintro e w1 ⟨⟨x0, x1, x2, x3, x4, x5, rfl⟩, hc1⟩
    have R := Lib.hid hc1
    have hs1 := hc1.size
    clear hc1
    go_wp2_with fail
    go_ret
    exact ⟨rfl, ((((Chg.refl w Nothing).alloc _).alloc _).trans R.out (fun _ _ h => h)).alloc _⟩
end Go.Proofs.YtgeapkalabijmaaGreat

/- machine.New, where there is one. -/
namespace Go.Proofs.YtgeapkalabijmaaGreat
open Go Go.RowKit
set_option maxRecDepth 100000
set_option maxHeartbeats 1000000
set_option linter.unusedVariables false
set_option linter.unusedSimpArgs false

theorem insV_ones (l : List Ins) : ∀ u ∈ insV l, u.oneCell' = true := by
  intro u hu
  unfold insV at hu
  rw [List.mem_flatMap] at hu
  obtain ⟨t, _, h⟩ := hu
  simp at h
  rcases h with rfl | rfl | rfl <;> rfl
theorem room64 : roomOf 64 = 64 := by decide
theorem room16 : roomOf 16 = 16 := by decide
theorem Stk.range {T E : TypeId} {w0 w w' : World} {p : Nat} {xs : List Value} {room : Int} (h : Stk T E w p (Grow Nothing w0 w) xs room) (hc : Chg w w' Nothing) : Stk T E w' p (fun k => w0.heap.size ≤ k ∧ k < w.heap.size) xs room :=
  (h.chg hc (fun _ _ h => h)).wider (fun k hk => by rcases hk with hk | hk; exact hk.elim; exact hk) (fun k hk => Nat.lt_of_lt_of_le hk.2 hc.size)
theorem Bf.range {w0 w w' : World} {p : Nat} {l : List (Int × Nat)} {most : Int} (h : Bf w p (Grow Nothing w0 w) l most) (hc : Chg w w' Nothing) : Bf w' p (fun k => w0.heap.size ≤ k ∧ k < w.heap.size) l most :=
  (h.chg hc (fun _ _ h => h)).wider (fun k hk => by rcases hk with hk | hk; exact hk.elim; exact hk) (fun k hk => Nat.lt_of_lt_of_le hk.2 hc.size)

theorem new_lands {W8 w5 w6 w7 : World} {base a7 b7 : Nat} {pb p5 p6 : Nat} {a4 : Option Addr} {c4 : Nat} {c t f r tag : Int} {code : List Ins} {args : List Nat} (h1 : base ≤ a7) (h2 : b7 ≤ W8.heap.size) (h3 : base ≤ b7)
    (buf : Bf W8 pb (fun k => a7 ≤ k ∧ k < b7) [] r) (row : W8.ownsRow b7 73 3 (.slice a4 code.length c4) code.length (insV code)) (c5 : Chg W8 w5 Nothing) (c6 : Chg w5 w6 Nothing) (c7 : Chg w6 w7 Nothing)
    (s5 : SFk w6 p5 (Grow Nothing w5 w6) [] (roomOf 64)) (s6 : SIk w7 p6 (Grow Nothing w6 w7) [] (roomOf 16)) :
    Ma (w7.alloc (.cells (mcells (mcN c t f r tag code args 0) p5 p6 pb a4 c4 none 0 none 0) 142)) w7.heap.size (fun k => base ≤ k ∧ k < (w7.alloc (.cells (mcells (mcN c t f r tag code args 0) p5 p6 pb a4 c4 none 0 none 0) 142)).heap.size) (mcN c t f r tag code args 0) := by
  have z5 := c5.size
  have z6 := c6.size
  have z7 := c7.size
  have cx : Chg w7 (w7.alloc (.cells (mcells (mcN c t f r tag code args 0) p5 p6 pb a4 c4 none 0 none 0) 142)) Nothing := (Chg.refl _ _).alloc _
  have c8 := ((c5.trans c6 (fun _ _ h => h)).trans c7 (fun _ _ h => h)).trans cx (fun _ _ h => h)
  rw [room64] at s5
  rw [room16] at s6
  have n5 := s5.range (c7.trans cx (fun _ _ h => h))
  have n6 := s6.range cx
  have bf := (buf.chg c8 (fun _ _ h => h))
  refine Ma.new (a2 := b7) (b2 := W8.heap.size) (a5 := w5.heap.size) (b5 := w6.heap.size) (a6 := w6.heap.size) (b6 := w7.heap.size) (a7 := a7) (b7 := b7) rfl rfl (heap_alloc_new _ _) (ownsRow_base (ownsRow_heap row (fun k hk => c8.block k (row.lt k hk).2 id)) (Nat.zero_le _)) (fun b hb => row.lt b hb) n5 n6 bf ?_ ?_ ?_ ?_ ?_ ?_ ?_ ?_ ?_ ?_ ?_ ?_ ?_ ?_ ?_ <;> omega
theorem fl_at {w : World} {a : Option Addr} {l : List Nat} {i x : Nat} (h : Sees w a (l.map fl)) (hi : l[i]? = some x) : ∃ b o, a = some ⟨b, o, none⟩ ∧ w.cell? ⟨b, o + i, none⟩ = some (fl x) := by
  rcases h with h | ⟨b, o, rfl, h⟩
  · rw [List.map_eq_nil_iff] at h
    subst h
    simp at hi
  · exact ⟨b, o, rfl, h i _ (by rw [List.getElem?_map, hi]; rfl)⟩
theorem Ma.argd {w : World} {m : Nat} {F : Nat → Prop} {c t f r tag : Int} {code : List Ins} {args : List Nat} {n x : Nat} (h : Ma w m F (mcN c t f r tag code args n)) (hx : args[n]? = some x) (hn : n < 8) :
    MaS w (w.setCell ⟨m, 7 + n, none⟩ (fl (fixB x))) m F (mcN c t f r tag code args (n + 1)) :=
  h.fld (7 + n) (fl (fixB x)) _ (fun pn pc pb ac cc ao co ar cr => mcN_arg hx pn pc pb ac cc ao co ar cr hn) rfl rfl rfl rfl rfl rfl rfl
theorem Ma.growR {w w' : World} {m base : Nat} {s : Mc} (h : MaS w w' m (fun k => base ≤ k ∧ k < w.heap.size) s) (hb : base ≤ w.heap.size) : Ma w' m (fun k => base ≤ k ∧ k < w'.heap.size) s :=
  h.ma.wider (fun k hk => by have := h.chg.size; rcases hk with hk | hk <;> exact ⟨by omega, by omega⟩) (fun k hk => hk.2)

theorem mnew_good (c t f r tag : Int) (ac : Option Addr) (cc : Nat) (code : List Ins) (aa : Option Addr) (na : Nat) (args : List Nat) (w : World) (h : CfgOk c t f r) (hl : args.length ≤ 8)
    (hb : code.length * 24 ≤ 140737488355328) (hs : Sees w ac (insV code)) (ha : Sees w aa (args.map fl)) :
    Calls Tryz.prog 59 #[.agg #[.int .i64 c, .int .i64 t, .int .i64 f, .int .i64 r], .agg #[.int .i64 tag, .slice ac code.length cc], .slice aa args.length na] w fun e w' => ∃ m, e = .returned (.pointer (some ⟨m, 0, none⟩)) ∧
      Ma w' m (fun k => w.heap.size ≤ k ∧ k < w'.heap.size) (mc0 c t f r tag code args) ∧ Chg w w' Nothing := by
  have b1 : decide ((8 : Int) < (args.length : Int)) = false := decide_eq_false (by omega)
  have HC := Lib.hid h
  have HR := Lib.hid (show 1 ≤ r ∧ r ≤ 32 from h.2.2.2)
  have HL := Lib.hid hl
  have HB := Lib.hid hb
  have HS := Lib.hid hs
  have HA := Lib.hid ha
  clear h hl hb hs ha
  go_enter Tryz.func59, Tryz.ntmps59
  go_wp2_with fail
  with_reducible refine (place_good c t f r _ HC.out).mono ?_
  rintro e w1 ⟨⟨x0, x1, x2, x3, x4, x5, rfl⟩, hc1⟩
  have hs1 := hc1.size
  simp at hs1
  have d0 : ∀ j, w1.cell? ⟨w.heap.size, j, none⟩ = (#[Value.int .i64 c, .int .i64 t, .int .i64 f, .int .i64 r])[j]? := fun j => by
    rw [World.cell?_of_block (w := (w.alloc _).alloc _) (hc1.block w.heap.size (by simp; omega) id)]
    rw [World.cell?_of_block (w := w.alloc _) (Below.heap_alloc _ _ _ (by simp))]
    exact blk_cell (heap_alloc_new w _) j
  have p0 : w1.heap[w.heap.size + 1]? = some (.cells #[.int .i64 tag, .slice ac code.length cc] 26 (0, 0)) := (hc1.block (w.heap.size + 1) (by simp) id).trans step_blk
  have q0 : w1.cell? ⟨w.heap.size, 0, none⟩ = some (.int .i64 c) := d0 0
  have q1 : w1.cell? ⟨w.heap.size, 1, none⟩ = some (.int .i64 t) := d0 1
  have q2 : w1.cell? ⟨w.heap.size, 2, none⟩ = some (.int .i64 f) := d0 2
  have q3 : w1.cell? ⟨w.heap.size, 3, none⟩ = some (.int .i64 r) := d0 3
  have hw1 : w.heap.size < w1.heap.size := by omega
  have C1 := Lib.hid (show Chg w w1 Nothing from (((Chg.refl w Nothing).alloc _).alloc _).trans hc1 (fun _ _ h => h))
  have P0 := Lib.hid p0
  clear hc1 d0 p0
  go_wp2_with fail
  with_reducible refine (new_good r _ HR.out.1 HR.out.2).mono ?_
  rintro e w3 ⟨pb, rfl, hpb, hB, hc3⟩
  have C3 := Lib.hid (show Chg w w3 Nothing from (C1.out.alloc _).trans hc3 (fun _ _ h => h))
  have S3 := Lib.hid (show w1.heap.size ≤ w3.heap.size by have := hc3.size; simp at this; omega)
  have p3 : w3.heap[w.heap.size + 1]? = some (.cells #[.int .i64 tag, .slice ac code.length cc] 26 (0, 0)) := by
    rw [hc3.block _ (by simp; omega) id, Below.heap_alloc _ _ _ (by omega)]; exact P0.out
  have y1 : w3.cell? ⟨w.heap.size + 1, 1, none⟩ = some (.slice ac code.length cc) := blk_cell p3 1
  have u0 := hc3.cell (cell_alloc q0 _) id
  have u1 := hc3.cell (cell_alloc q1 _) id
  have u2 := hc3.cell (cell_alloc q2 _) id
  have u3 := hc3.cell (cell_alloc q3 _) id
  have BUF := Lib.hid hB
  have P3 := Lib.hid p3
  have U := Lib.hid (And.intro u0 (And.intro u1 (And.intro u2 u3)))
  have Z1 := Lib.hid hs1
  clear hc3 q0 q1 q2 q3 hB p3 u0 u1 u2 u3 hw1 hs1 hpb
  go_wp2_with (at_builtin; refine append_see rfl _ _ 24 73 rfl (.agg #[.int .i64 0, .int .i64 0, fl 0]) 3 24 Tryz.underlying24 (by kernel_rfl) rfl (by decide) rfl ac code.length cc rfl (insV code) (insV_len _) (HS.out.chg C3.out) (insV_ones _) ?c1 HB.out ?c2)
  case c1 => have := HB.out; unfold maxLen; omega
  case c2 =>
    intro a4 c4 w4 hown4 hc4
    have s4 : w3.heap.size ≤ w4.heap.size := hc4.size
    have p4 : w4.heap[w.heap.size + 1]? = some (.cells #[.int .i64 tag, .slice ac code.length cc] 26 (0, 0)) := by
      rw [hc4.block _ (blk_lt P3.out) id]; exact P3.out
    have y0 : w4.cell? ⟨w.heap.size + 1, 0, none⟩ = some (.int .i64 tag) := blk_cell p4 0
    have y1 : w4.cell? ⟨w.heap.size + 1, 1, none⟩ = some (.slice ac code.length cc) := blk_cell p4 1
    have y2 : w4.frozen? ⟨w.heap.size + 1, 1, none⟩ = false := blk_free p4 1
    have u0 := hc4.cell U.out.1 id
    have u1 := hc4.cell U.out.2.1 id
    have u2 := hc4.cell U.out.2.2.1 id
    have u3 := hc4.cell U.out.2.2.2 id
    have K4 := Lib.hid (And.intro hown4 hc4)
    have S4 := Lib.hid s4
    have P4 := Lib.hid p4
    clear hown4 hc4 s4 p4
    have C8 := Lib.hid (show Chg w (w4.setCell ⟨w.heap.size + 1, 1, none⟩ (.slice a4 code.length c4)) Nothing from (C3.out.trans K4.out.2 (fun _ _ h => h)).setCell (.inl (Nat.le_succ _)) _)
    have p8 : (w4.setCell ⟨w.heap.size + 1, 1, none⟩ (.slice a4 code.length c4)).heap[w.heap.size + 1]? = some (.cells #[.int .i64 tag, .slice a4 code.length c4] 26 (0, 0)) := blk_set P4.out 1 _
    have O8 : ∀ k, k ≠ w.heap.size + 1 → (w4.setCell ⟨w.heap.size + 1, 1, none⟩ (.slice a4 code.length c4)).heap[k]? = w4.heap[k]? := fun k hk => Below.heap_setCell _ _ _ _ hk
    have Z8 : (w4.setCell ⟨w.heap.size + 1, 1, none⟩ (.slice a4 code.length c4)).heap.size = w4.heap.size := by simp
    have B8 := Lib.hid (show Bf (w4.setCell ⟨w.heap.size + 1, 1, none⟩ (.slice a4 code.length c4)) pb (fun k => w1.heap.size + 1 ≤ k ∧ k < w3.heap.size) [] r from
      (BUF.out.frame (by rw [Z8]; exact S4.out) (fun k hk => by
        have hk2 : w1.heap.size + 1 ≤ k ∧ k < w3.heap.size := by rcases hk with hk | hk; exact hk.elim; simpa using hk
        have := Z1.out
        rw [O8 k (by omega)]; exact K4.out.2.block k hk2.2 id)).wider (fun k hk => by rcases hk with hk | hk; exact hk.elim; simpa using hk) (fun k hk => by rw [Z8]; exact Nat.lt_of_lt_of_le hk.2 S4.out))
    have R8 := Lib.hid (show (w4.setCell ⟨w.heap.size + 1, 1, none⟩ (.slice a4 code.length c4)).ownsRow w3.heap.size 73 3 (.slice a4 code.length c4) code.length (insV code) from
      ownsRow_heap K4.out.1 (fun k hk => O8 k (by have := (K4.out.1.lt k hk).1; have := Z1.out; have := S3.out; omega)))
    have i0 : (w4.setCell ⟨w.heap.size + 1, 1, none⟩ (.slice a4 code.length c4)).cell? ⟨w.heap.size, 0, none⟩ = some (.int .i64 c) := (World.cell?_of_block (w := w4) (O8 _ (by show w.heap.size ≠ w.heap.size + 1; omega))).trans u0
    have i1 : (w4.setCell ⟨w.heap.size + 1, 1, none⟩ (.slice a4 code.length c4)).cell? ⟨w.heap.size, 1, none⟩ = some (.int .i64 t) := (World.cell?_of_block (w := w4) (O8 _ (by show w.heap.size ≠ w.heap.size + 1; omega))).trans u1
    have i2 : (w4.setCell ⟨w.heap.size + 1, 1, none⟩ (.slice a4 code.length c4)).cell? ⟨w.heap.size, 2, none⟩ = some (.int .i64 f) := (World.cell?_of_block (w := w4) (O8 _ (by show w.heap.size ≠ w.heap.size + 1; omega))).trans u2
    have i3 : (w4.setCell ⟨w.heap.size + 1, 1, none⟩ (.slice a4 code.length c4)).cell? ⟨w.heap.size, 3, none⟩ = some (.int .i64 r) := (World.cell?_of_block (w := w4) (O8 _ (by show w.heap.size ≠ w.heap.size + 1; omega))).trans u3
    have i4 := blk_cell p8 0
    have i5 := blk_cell p8 1
    have Z9 := Lib.hid (show w.heap.size + 2 ≤ (w4.setCell ⟨w.heap.size + 1, 1, none⟩ (.slice a4 code.length c4)).heap.size by rw [Z8]; have := Z1.out; have := S3.out; have := S4.out; omega)
    have Z10 := Lib.hid (show w3.heap.size ≤ (w4.setCell ⟨w.heap.size + 1, 1, none⟩ (.slice a4 code.length c4)).heap.size by rw [Z8]; exact S4.out)
    have Z11 := Lib.hid (show w1.heap.size + 1 ≤ w3.heap.size by have := B8.out.has; omega)
    clear p8 O8 Z8
    have I0 := Lib.hid i0
    have I1 := Lib.hid i1
    have I2 := Lib.hid i2
    have I3 := Lib.hid i3
    have I4 := Lib.hid (show (w4.setCell ⟨w.heap.size + 1, 1, none⟩ (.slice a4 code.length c4)).cell? ⟨w.heap.size + 1, 0, none⟩ = some (.int .i64 tag) from i4)
    have I5 := Lib.hid (show (w4.setCell ⟨w.heap.size + 1, 1, none⟩ (.slice a4 code.length c4)).cell? ⟨w.heap.size + 1, 1, none⟩ = some (.slice a4 code.length c4) from i5)
    clear i0 i1 i2 i3 i4 i5 K4 P4 P3 U
    go_upto_region 8 with fail
    clear y0 y1 y2 u0 u1 u2 u3
    have i0 := I0.out
    have i1 := I1.out
    have i2 := I2.out
    have i3 := I3.out
    have i4 := I4.out
    have i5 := I5.out
    go_cut [11] (fun v wx => ∃ m, v = .pointer (some ⟨m, 0, none⟩) ∧ Ma wx m (fun k => w.heap.size ≤ k ∧ k < wx.heap.size) (mcN c t f r tag code args 0) ∧ Chg w wx Nothing)
    case first =>
      go_region_held3 (fun w' => w'.cell? ⟨w.heap.size, 0, none⟩ = some (.int .i64 c) ∧ w'.cell? ⟨w.heap.size, 1, none⟩ = some (.int .i64 t) ∧ w'.cell? ⟨w.heap.size, 2, none⟩ = some (.int .i64 f) ∧ w'.cell? ⟨w.heap.size, 3, none⟩ = some (.int .i64 r) ∧ w'.cell? ⟨w.heap.size + 1, 0, none⟩ = some (.int .i64 tag) ∧ w'.cell? ⟨w.heap.size + 1, 1, none⟩ = some (.slice a4 code.length c4))
        (go_keep)
        (first
          | (go_at_call 12; refine (check_any tag a4 c4 code _ (by first | exact Sees.of_owns R8.out | exact (Sees.of_owns R8.out).drewN _)).mono ?_; rintro e w5 ⟨rfl, hc5'⟩; have hc5 : Chg (w4.setCell ⟨w.heap.size + 1, 1, none⟩ (.slice a4 code.length c4)) w5 Nothing := ⟨hc5'.os, hc5'.tape, hc5'.output, hc5'.size, hc5'.block⟩; have k0 := hc5.cell I0.out id; have k1 := hc5.cell I1.out id; have k2 := hc5.cell I2.out id; have k3 := hc5.cell I3.out id; have k4 := hc5.cell I4.out id; have k5 := hc5.cell I5.out id; clear hc5')
          | (go_at_call 113; refine (SF.new_any 64 _).mono ?_; rintro e w6 ⟨p5, rfl, hp5, s5, hc6⟩; have e8 := hc5.trans hc6 (fun _ _ h => h); have k0 := e8.cell I0.out id; have k1 := e8.cell I1.out id; have k2 := e8.cell I2.out id; have k3 := e8.cell I3.out id; have k4 := e8.cell I4.out id; have k5 := e8.cell I5.out id)
          | (go_at_call 114; refine (SI.new_any 16 _).mono ?_; rintro e w7 ⟨p6, rfl, hp6, s6, hc7⟩; have e9 := e8.trans hc7 (fun _ _ h => h); have k0 := e9.cell I0.out id; have k1 := e9.cell I1.out id; have k2 := e9.cell I2.out id; have k3 := e9.cell I3.out id; have k4 := e9.cell I4.out id; have k5 := e9.cell I5.out id))
      all_goals
        go_wp2_with fail
        go_meet
        exact ⟨_, rfl, new_lands (by have := Z1.out; omega) Z10.out (by have := Z1.out; have := Z11.out; omega) B8.out R8.out hc5 hc6 hc7 s5 s6, (C8.out.trans e9 (fun _ _ h => h)).alloc _⟩
    case rest =>
      obtain ⟨m, rfl, hM, hCx⟩ := hcut
      have HM := Lib.hid hM
      have HX := Lib.hid hCx
      clear hM hCx i0 i1 i2 i3 i4 i5 I0 I1 I2 I3 I4 I5 C8 B8 R8
      go_wp2_with fail
      go_loopg [50] args.length (fun k i wr => ∃ n : Nat, n + k = args.length ∧ i = .int .i64 (n : Nat) ∧ Ma wr m (fun k => w.heap.size ≤ k ∧ k < wr.heap.size) (mcN c t f r tag code args n) ∧ Chg w wr Nothing)
      case atStart => exact ⟨0, by simp, rfl, HM.out, HX.out⟩
      case round =>
        obtain ⟨n, hn, rfl, hM, hc⟩ := hrel
        by_cases hlt : n < args.length
        · have hd : decide (n < args.length) = true := by simpa using hlt
          obtain ⟨x, hx⟩ : ∃ x, args[n]? = some x := ⟨_, List.getElem?_eq_getElem hlt⟩
          obtain ⟨b, o, rfl, k0⟩ := fl_at HA.out hx
          have k0 := hc.cell k0 id
          have hn8 : n < 8 := by have := HL.out; omega
          have hni : (n : Int) < 8 := by omega
          have e1 : wr.cell? ⟨m, 7 + n, none⟩ = some (fl ((mcN c t f r tag code args n).args n)) := hM.cell (7 + n) (fun pn pc pb ac cc ao co ar cr => mcells_args _ pn pc pb ac cc ao co ar cr n hn8)
          have e2 : wr.frozen? ⟨m, 7 + n, none⟩ = false := hM.free _
          have hml := hM.has.2
          have R := Lib.hid (show Ma (wr.setCell ⟨m, 7 + n, none⟩ (fl (fixB x))) m (fun k => w.heap.size ≤ k ∧ k < (wr.setCell ⟨m, 7 + n, none⟩ (fl (fixB x))).heap.size) (mcN c t f r tag code args (n + 1)) ∧ Chg w (wr.setCell ⟨m, 7 + n, none⟩ (fl (fixB x))) Nothing from
            ⟨Ma.growR (hM.argd hx hn8) hc.size, hc.setCell (.inl hM.has.1.1) _⟩)
          have HN := Lib.hid hn
          clear hM hc hn hx
          go_wp2_with fail
          go_region_law (first | (go_simp; go_at_call 115; refine (fix_any _ _).mono ?_; rintro e w' ⟨rfl, rfl⟩))
          all_goals
            go_wp2_with fail
            go_roundg (gk - 1)
            case measure => have := HN.out; omega
            case rel => exact ⟨n + 1, by have := HN.out; omega, by go_num, R.out.1.quiet ((Chg.refl _ _).drew), R.out.2.drew⟩
        · have hd : decide (n < args.length) = false := by simpa using hlt
          obtain rfl : n = args.length := by omega
          have R := Lib.hid (And.intro hM hc)
          clear hM hc hn
          go_wp2_with fail
          go_ret
          exact ⟨m, rfl, R.out⟩
end Go.Proofs.YtgeapkalabijmaaGreat

/- The document's Place. -/
namespace Go.Proofs.YtgeapkalabijmaaGreat
open Go Go.RowKit
set_option maxRecDepth 100000
set_option maxHeartbeats 1000000
set_option linter.unusedVariables false
set_option linter.unusedSimpArgs false

end Go.Proofs.YtgeapkalabijmaaGreat

/- The document's machine in memory, and its New. -/
namespace Go.Proofs.YtgeapkalabijmaaGreat
open Go Go.RowKit
set_option maxRecDepth 100000
set_option maxHeartbeats 1000000
set_option linter.unusedVariables false
set_option linter.unusedSimpArgs false

/-- A slice that is read alone: its cells lie in a block of R. -/
def RRow (w : World) (R : Nat → Prop) (v : Value) (n size : Nat) (xs : List Value) : Prop :=
  ∃ a c, v = .slice a n c ∧ n ≤ c ∧ xs.length = n * size ∧ ((n = 0 ∧ (a = none → c = 0)) ∨ ∃ b o, a = some ⟨b, o, none⟩ ∧ R b ∧ ∀ j u, xs[j]? = some u → w.cell? ⟨b, o + j, none⟩ = some u)
/-- Its cells. -/
def rcells (s : Mc) (vc vA vS vC vL vT vR vB : Value) : Array Value :=
  #[.int .i64 s.cells, .int .i64 s.threads, .int .i64 s.fuel, .int .i64 s.writes, .int .i64 s.tag, vc, .bool s.bad, vA, vS, vC, vL, .int .i64 (s.at_ : Int), .int .i64 (s.used : Int), .int .i64 (if s.waits then s.cell else -1), .int .i64 s.how.1, .int .i64 s.how.2.1, .int .i64 s.how.2.2, vT, vR, vB]
def eightN (f : Nat → Nat) : List Nat := [f 0, f 1, f 2, f 3, f 4, f 5, f 6, f 7]
section
variable {w w' : World} {R R' : Nat → Prop} {v : Value} {n size : Nat} {xs : List Value}
theorem RRow.nil (w : World) (R : Nat → Prop) (size : Nat) : RRow w R (.slice none 0 0) 0 size [] := ⟨none, 0, rfl, Nat.le_refl _, by simp, .inl ⟨rfl, fun _ => rfl⟩⟩
theorem RRow.move (h : RRow w R v n size xs) (hR : ∀ b, R b → R' b ∧ w'.heap[b]? = w.heap[b]?) : RRow w' R' v n size xs := by
  obtain ⟨a, c, rfl, h1, h2, h3⟩ := h
  refine ⟨a, c, rfl, h1, h2, h3.imp id ?_⟩
  rintro ⟨b, o, rfl, hb, hc⟩
  exact ⟨b, o, rfl, (hR b hb).1, fun j u hu => (World.cell?_of_block (w := w) (hR b hb).2).trans (hc j u hu)⟩
theorem RRow.sees (h : RRow w R v n size xs) : ∃ a c, v = .slice a n c ∧ n ≤ c ∧ Sees w a xs := by
  obtain ⟨a, c, rfl, h1, h2, h3⟩ := h
  refine ⟨a, c, rfl, h1, ?_⟩
  rcases h3 with ⟨rfl, _⟩ | ⟨b, o, rfl, hb, hc⟩
  · exact .inl (List.eq_nil_of_length_eq_zero (by simpa using h2))
  · exact .inr ⟨b, o, rfl, hc⟩
theorem RRow.of_own {e : TypeId} {base : Nat} (h : w.ownsRow base e size v n xs) (hR : ∀ b, v.ownBlock = some b → R b) (hn : ∀ a c, v = .slice a n c → n ≤ c ∧ (a = none → c = 0)) : RRow w R v n size xs := by
  obtain ⟨⟨a, c, rfl⟩, _⟩ := ownsRow_shape h
  refine ⟨a, c, rfl, (hn a c rfl).1, h.1, ?_⟩
  rcases h.2 with ⟨hv, h0⟩ | ⟨g, cap, cur, hv, _⟩
  · injection hv with h1 h2 h3
    subst h1 h3
    exact .inl ⟨h0, fun _ => rfl⟩
  · injection hv with h1 h2 h3
    subst h1
    refine .inr ⟨g, 0, rfl, hR g rfl, fun j u hu => ?_⟩
    have := h.cells (g := g) rfl j u hu
    rwa [Addr.add_lit] at this
theorem own_cap {e : TypeId} {base : Nat} (h : w.ownsRow base e size v n xs) : ∀ a c, v = .slice a n c → n ≤ c ∧ (a = none → c = 0) := by
  intro a c hv
  subst hv
  rcases h.2 with ⟨hv, h0⟩ | ⟨g, cap, cur, hv, _, _, hnc, _⟩
  · injection hv with h1 h2 h3
    subst h3
    exact ⟨by omega, fun _ => rfl⟩
  · injection hv with h1 h2 h3
    subst h1 h3
    exact ⟨hnc, fun h => by cases h⟩
theorem RRow.owned {e : TypeId} {base : Nat} (h : w.ownsRow base e size v n xs) (hR : ∀ b, v.ownBlock = some b → R b) : RRow w R v n size xs := .of_own h hR (own_cap h)
end
theorem eight_len (f : Nat → Nat) : (eightN f).length = 8 := rfl
theorem eight_at (f : Nat → Nat) : ∀ k, k < 8 → (eightN f)[k]? = some (f k)
  | 0, _ => rfl | 1, _ => rfl | 2, _ => rfl | 3, _ => rfl | 4, _ => rfl | 5, _ => rfl | 6, _ => rfl | 7, _ => rfl | k + 8, h => by omega
/-- The blocks of what was handed in, and what is new but the two of its own. -/
def NewR (C : Nat → Prop) (w w' : World) (q lb : Nat) : Nat → Prop := fun k => C k ∨ (w.heap.size ≤ k ∧ k < w'.heap.size ∧ k ≠ q ∧ k ≠ lb)
end Go.Proofs.YtgeapkalabijmaaGreat

/- The document's New, where there is one. -/
namespace Go.Proofs.YtgeapkalabijmaaGreat
open Go Go.RowKit
set_option maxRecDepth 100000
set_option maxHeartbeats 1000000
set_option linter.unusedVariables false
set_option linter.unusedSimpArgs false

def zero8 : Array Value := #[fl 0, fl 0, fl 0, fl 0, fl 0, fl 0, fl 0, fl 0]
section
variable {w wx w2 : World} {q lb : Nat} {c t f r tag : Int} {code : List Ins} {args : List Nat} {ac : Option Addr} {cc n ca g cap : Nat} {a : Option Addr} {o : Obj}
end
end Go.Proofs.YtgeapkalabijmaaGreat

/- The document's New, walked. -/
namespace Go.Proofs.YtgeapkalabijmaaGreat
open Go Go.RowKit
set_option maxRecDepth 100000
set_option maxHeartbeats 1000000
set_option linter.unusedVariables false
set_option linter.unusedSimpArgs false

end Go.Proofs.YtgeapkalabijmaaGreat
