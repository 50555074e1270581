/- code.Same of two programs that are the same. -/
import Derived.Test.YtgeapkalabijmaaGreatDN
namespace Go.Proofs.YtgeapkalabijmaaGreat
open Go Go.RowKit
set_option maxRecDepth 100000
set_option maxHeartbeats 1000000
set_option linter.unusedVariables false
set_option linter.unusedSimpArgs false

set_option maxHeartbeats 4000000 in
theorem csame_true (tag : Int) (a a2 : Option Addr) (c c2 n0 : Nat) (l : List Ins) (w : World) (hs : Sees w a (insV l)) (hs2 : Sees w a2 (insV l)) (hn0 : l.length = n0) (hl : l.length ≤ 9223372036854775807) :
    Calls Tryz.prog 13 #[.agg #[.int .i64 tag, .slice a n0 c], .agg #[.int .i64 tag, .slice a2 n0 c2]] w fun e w' => e = .returned (.bool true) ∧ Chg w w' Nothing := by
  subst hn0
  have HS := Lib.hid hs
  have HS2 := Lib.hid hs2
  have n1 : (tag != tag) = false := by simp
  have n2 : ((l.length : Int) != (l.length : Int)) = false := by simp
  clear hs hs2
  go_enter Tryz.func13, Tryz.ntmps13
  go_wp2_with fail
  go_loopg [25] l.length (fun k i wr => ∃ n : Nat, n + k = l.length ∧ i = .int .i64 (n : Nat) ∧ Chg ((w.alloc (.cells #[.int .i64 tag, .slice a l.length c] 26)).alloc (.cells #[.int .i64 tag, .slice a2 l.length c2] 26)) wr Nothing)
  case atStart => exact ⟨0, by simp, rfl, Chg.refl _ _⟩
  case round =>
    obtain ⟨n, hn, rfl, hc⟩ := hrel
    have HC := Lib.hid hc
    have hsz : w.heap.size + 1 < wr.heap.size := by have := hc.size; simp at this; omega
    have hne : ¬ w.heap.size = wr.heap.size := by omega
    have hne2 : ¬ w.heap.size + 1 = wr.heap.size := by omega
    have C0 := Lib.hid (show Chg w wr Nothing from (((Chg.refl w Nothing).alloc _).alloc _).trans hc (fun _ _ h => h))
    have p0 : wr.cell? ⟨w.heap.size + 1, 1, none⟩ = some (.slice a2 l.length c2) := hc.cell (by have := heap_alloc2_new w (.cells #[.int .i64 tag, .slice a l.length c] 26) (.cells #[.int .i64 tag, .slice a2 l.length c2] 26); rw [blk_cell this]; rfl) id
    clear hc
    by_cases hlt : n < l.length
    · have hd : decide (n < l.length) = true := by simpa using hlt
      obtain ⟨⟨op, m, x⟩, hx⟩ : ∃ t, l[n]? = some t := ⟨_, List.getElem?_eq_getElem hlt⟩
      obtain ⟨b, o, rfl, k0, k1, k2⟩ := ins_cells HS.out hx
      obtain ⟨b2, o2, rfl, j0, j1, j2⟩ := ins_cells HS2.out hx
      have k0 := C0.out.cell k0 id
      have k1 := C0.out.cell k1 id
      have k2 := C0.out.cell k2 id
      have j0 := C0.out.cell j0 id
      have j1 := C0.out.cell j1 id
      have j2 := C0.out.cell j2 id
      have hb2 : b2 < wr.heap.size := cell_lt j0
      have hb3 : ¬ b2 = wr.heap.size := by omega
      have q1 : (op != op) = false := by simp
      have q2 : (m != m) = false := by simp
      have q3 : ((fixB x : Int) == (fixB x : Int)) = true := by simp
      clear hx
      go_wp2_with fail
      refine (same_any x x _).mono ?_
      rintro e w2 ⟨rfl, rfl⟩
      go_wp2_with fail
      go_roundg (gk - 1)
      case measure => omega
      case rel => exact ⟨n + 1, by omega, by go_num, ((HC.out.alloc _).alloc _)⟩
    · have hd : decide (n < l.length) = false := by simpa using hlt
      go_wp2_with fail
      go_ret
      exact ⟨rfl, C0.out⟩
end Go.Proofs.YtgeapkalabijmaaGreat
