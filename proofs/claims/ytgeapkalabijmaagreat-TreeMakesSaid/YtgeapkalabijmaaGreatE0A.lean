/- exact and config of layer 20's statements. Printed by gen/live.py. -/
import Derived.Test.YtgeapkalabijmaaGreatM43
namespace Go.Proofs.YtgeapkalabijmaaGreat
open Go Go.RowKit
set_option maxRecDepth 100000
set_option maxHeartbeats 1000000
set_option linter.unusedVariables false
set_option linter.unusedSimpArgs false

set_option maxHeartbeats 2000000 in
theorem exact20_true (a1 a2 : Option Addr) (c1 c2 n0 : Nat) (fs : List Nat) (w : World) (h1 : Sees w a1 (fs.map fl)) (h2 : Sees w a2 (fs.map fl)) (hn0 : fs.length = n0) (hl : fs.length ≤ 140737488355328) :
    Calls Tryz.prog 29 #[.slice a1 n0 c1, .slice a2 n0 c2] w fun e w' => e = .returned (.bool true) ∧ ∃ m, w' = w.drewN m := by
  subst hn0
  have H1 := Lib.hid h1
  have H2 := Lib.hid h2
  clear h1 h2
  have hb : ((fs.length : Int) != (fs.length : Int)) = false := by simp
  go_enter Tryz.func29, Tryz.ntmps29
  go_wp2_with fail
  go_loopg [5] fs.length (fun k i wr => ∃ n : Nat, n + k = fs.length ∧ i = .int .i64 (n : Nat) ∧ ∃ m, wr = w.drewN m)
  case atStart => exact ⟨0, by simp, rfl, 0, rfl⟩
  case round =>
    obtain ⟨n, hn, rfl, hm⟩ := hrel
    have HM := Lib.hid hm
    have hcell : ∀ a, wr.cell? a = w.cell? a := fun a => by obtain ⟨m, rfl⟩ := hm; rfl
    clear hm
    by_cases hlt : n < fs.length
    · have hd : decide (n < fs.length) = true := by simpa using hlt
      rcases H1.out with h | ⟨b1, o1, rfl, g1⟩
      · simp at h; subst h; simp at hlt
      rcases H2.out with h | ⟨b2, o2, rfl, g2⟩
      · simp at h; subst h; simp at hlt
      have k1 := (hcell _).trans (g1 n (fl fs[n]) (by simp [hlt]))
      have k2 := (hcell _).trans (g2 n (fl fs[n]) (by simp [hlt]))
      clear g1 g2 hcell
      generalize fs[n] = x at k1 k2
      have hq : ((x : Int) != (x : Int)) = false := by simp
      go_wp2_with fail
      go_quiet (fail)
      go_wp2_with fail
      go_roundg (gk - 1)
      case measure => omega
      case rel => obtain ⟨m, e⟩ := HM.out; exact ⟨n + 1, by omega, by go_num, m + nq, by rw [e, World.drewN_drewN]⟩
    · have hd : decide (n < fs.length) = false := by simpa using hlt
      clear hcell
      go_wp2_with fail
      go_ret
      exact ⟨rfl, HM.out⟩
theorem cfg20_results {tmps : Array Value} {W : World} {r0 : Nat} {a b c d : Int} {T : TypeId} {fr : Nat × Nat} (h2 : tmps.getD 6 undef = .pointer (some ⟨r0, 0, none⟩)) (hb : W.heap[r0]? = some (.cells #[.int .i64 a, .int .i64 b, .int .i64 c, .int .i64 d] T fr)) :
    (results Tryz.f27 tmps).run Tryz.prog W = .ok (.agg #[.int .i64 a, .int .i64 b, .int .i64 c, .int .i64 d]) W := by
  have h2' : tmps[6]?.getD undef = .pointer (some ⟨r0, 0, none⟩) := by simpa using h2
  have hl := run_loadVar_row (P := Tryz.prog) W r0 T 51 #[.int .i64 a, .int .i64 b, .int .i64 c, .int .i64 d] fr _ hb Tryz.underlying51 rfl (by kernel_rfl)
  have k0 : W.cell? ⟨r0, 0, none⟩ = some (.int .i64 a) := by rw [blk_cell hb]; rfl
  have k1 : W.cell? ⟨r0, 1, none⟩ = some (.int .i64 b) := by rw [blk_cell hb]; rfl
  have k2 : W.cell? ⟨r0, 2, none⟩ = some (.int .i64 c) := by rw [blk_cell hb]; rfl
  have k3 : W.cell? ⟨r0, 3, none⟩ = some (.int .i64 d) := by rw [blk_cell hb]; rfl
  simp [results, Tryz.results27, h2', asAddr, hl, k0, k1, k2, k3, go_sem]
theorem config20_any (a b c : Int) (w : World) : Calls Tryz.prog 27 #[.int .i64 a, .int .i64 b, .int .i64 c] w fun e w' => e = .returned (.agg #[.int .i64 a, .int .i64 1, .int .i64 b, .int .i64 c]) ∧ Chg w w' Nothing := by
  go_enter Tryz.func27, Tryz.ntmps27
  go_wp2_with fail
  refine bodyPost_ret (cfg20_results rfl (heap_alloc_new w _)) rfl ?_
  exact ⟨rfl, (Chg.refl _ _).alloc _⟩
end Go.Proofs.YtgeapkalabijmaaGreat
