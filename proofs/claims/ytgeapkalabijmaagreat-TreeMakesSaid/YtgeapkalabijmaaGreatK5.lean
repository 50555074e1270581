/- A program's error: the code's walk. -/
import Derived.Test.YtgeapkalabijmaaGreatK1
import Derived.Great.BuildSlice
namespace Go.Proofs.YtgeapkalabijmaaGreat
open Go Go.RowKit
set_option maxRecDepth 100000
set_option maxHeartbeats 1000000
set_option linter.unusedVariables false
set_option linter.unusedSimpArgs false

/-- How far an operation's number may go: -1 a place, -2 none; what it takes and lays. -/
def mostL : List Int := [0, -2, -2, -2, -2, 63, 7, 7, 7, 8, 12, -1, -1, -1, -1, -2, -2, -2, -2, 99, -2]
def mostOf (op : Int) : Int := mostL.getD op.toNat 0
def takesL : List Int := [0, 0, 1, 1, 2, 0, 0, 0, 1, 1, 2, 0, 1, 1, 0, 0, 1, 2, 1, 0, 0]
def laysL : List Int := [0, 1, 0, 2, 2, 1, 1, 1, 0, 1, 1, 0, 0, 0, 0, 0, 1, 0, 0, 0, 0]
def takesOf (op : Int) : Int := takesL.getD op.toNat 0
def laysOf (op : Int) : Int := laysL.getD op.toNat 0
/-- The table's cells. -/
def zeroA : Array Value := #[.string ⟨#[]⟩, .int .i64 0, .int .i64 0, .int .i64 0, .string ⟨#[]⟩, .int .i64 0, .int .i64 0, .int .i64 0, .string ⟨#[]⟩, .int .i64 0, .int .i64 0, .int .i64 0, .string ⟨#[]⟩, .int .i64 0, .int .i64 0, .int .i64 0, .string ⟨#[]⟩, .int .i64 0, .int .i64 0, .int .i64 0, .string ⟨#[]⟩, .int .i64 0, .int .i64 0, .int .i64 0, .string ⟨#[]⟩, .int .i64 0, .int .i64 0, .int .i64 0, .string ⟨#[]⟩, .int .i64 0, .int .i64 0, .int .i64 0, .string ⟨#[]⟩, .int .i64 0, .int .i64 0, .int .i64 0, .string ⟨#[]⟩, .int .i64 0, .int .i64 0, .int .i64 0, .string ⟨#[]⟩, .int .i64 0, .int .i64 0, .int .i64 0, .string ⟨#[]⟩, .int .i64 0, .int .i64 0, .int .i64 0, .string ⟨#[]⟩, .int .i64 0, .int .i64 0, .int .i64 0, .string ⟨#[]⟩, .int .i64 0, .int .i64 0, .int .i64 0, .string ⟨#[]⟩, .int .i64 0, .int .i64 0, .int .i64 0, .string ⟨#[]⟩, .int .i64 0, .int .i64 0, .int .i64 0, .string ⟨#[]⟩, .int .i64 0, .int .i64 0, .int .i64 0, .string ⟨#[]⟩, .int .i64 0, .int .i64 0, .int .i64 0, .string ⟨#[]⟩, .int .i64 0, .int .i64 0, .int .i64 0, .string ⟨#[]⟩, .int .i64 0, .int .i64 0, .int .i64 0, .string ⟨#[]⟩, .int .i64 0, .int .i64 0, .int .i64 0]
def rowsA : Array Value := #[.string ⟨#[]⟩, .int .i64 0, .int .i64 0, .int .i64 0, .string ⟨#[112, 117, 115, 104]⟩, .int .i64 (-2), .int .i64 0, .int .i64 1, .string ⟨#[100, 114, 111, 112]⟩, .int .i64 (-2), .int .i64 1, .int .i64 0, .string ⟨#[100, 117, 112]⟩, .int .i64 (-2), .int .i64 1, .int .i64 2, .string ⟨#[115, 119, 97, 112]⟩, .int .i64 (-2), .int .i64 2, .int .i64 2, .string ⟨#[112, 105, 99, 107]⟩, .int .i64 63, .int .i64 0, .int .i64 1, .string ⟨#[97, 114, 103]⟩, .int .i64 7, .int .i64 0, .int .i64 1, .string ⟨#[103, 101, 116]⟩, .int .i64 7, .int .i64 0, .int .i64 1, .string ⟨#[115, 101, 116]⟩, .int .i64 7, .int .i64 1, .int .i64 0, .string ⟨#[]⟩, .int .i64 8, .int .i64 1, .int .i64 1, .string ⟨#[]⟩, .int .i64 12, .int .i64 2, .int .i64 1, .string ⟨#[106, 117, 109, 112]⟩, .int .i64 (-1), .int .i64 0, .int .i64 0, .string ⟨#[105, 102]⟩, .int .i64 (-1), .int .i64 1, .int .i64 0, .string ⟨#[117, 110, 108, 101, 115, 115]⟩, .int .i64 (-1), .int .i64 1, .int .i64 0, .string ⟨#[99, 97, 108, 108]⟩, .int .i64 (-1), .int .i64 0, .int .i64 0, .string ⟨#[114, 101, 116]⟩, .int .i64 (-2), .int .i64 0, .int .i64 0, .string ⟨#[114, 101, 97, 100]⟩, .int .i64 (-2), .int .i64 1, .int .i64 1, .string ⟨#[119, 114, 105, 116, 101]⟩, .int .i64 (-2), .int .i64 2, .int .i64 0, .string ⟨#[101, 109, 105, 116]⟩, .int .i64 (-2), .int .i64 1, .int .i64 0, .string ⟨#[97, 98, 111, 114, 116]⟩, .int .i64 99, .int .i64 0, .int .i64 0, .string ⟨#[104, 97, 108, 116]⟩, .int .i64 (-2), .int .i64 0, .int .i64 0]
theorem zero_rows (w : World) : (zeroValue 124).run Tryz.prog w = .ok (.agg zeroA) w := by kernel_rfl

theorem Chg.setRow {w w' : World} {S : Nat → Prop} (h : Chg w w' S) {g : Nat} (hg : w.heap.size ≤ g) (cs : Array Value) : Chg w (w'.setRow g cs) S :=
  ⟨h.os, h.tape, h.output, by rw [size_setRow]; exact h.size, fun k hk hn => (setRow_other w' g k cs (by omega)).trans (h.block k hk hn)⟩

set_option maxHeartbeats 4000000 in
set_option maxRecDepth 100000 in
theorem rows_any (w : World) : Calls Tryz.prog 90 #[] w fun e w' => e = .returned (.agg rowsA) ∧ Chg w w' Nothing := by
  have hz := zero_rows
  have hn := heap_alloc_new w (.cells zeroA 124)
  go_enter Tryz.func90, Tryz.ntmps90
  go_wp2_with (first | (refine wpList_buildTo rfl 124 _ rfl (some 21) rfl rowsA (by kernel_rfl) ?_) | (refine wpList_store_rowTo rfl 124 _ _ rfl rfl w.heap.size rowsA rfl rfl _ zeroA hn (by kernel_rfl) (by kernel_rfl) (by kernel_rfl) ?_))
  exact bodyPost_ret (results_cell_row rfl _ _ w.heap.size 124 rowsA (0, 0) _ rfl (setRow_heap _ _ _ _ _ _ hn) Tryz.underlying124 rfl (by kernel_rfl)) rfl ⟨rfl, ((Chg.refl w Nothing).alloc _).setRow (Nat.le_refl _) _⟩

theorem twenty {op : Int} (h1 : 1 ≤ op) (h2 : op ≤ 20) : (op = 1 ∨ op = 2 ∨ op = 3 ∨ op = 4 ∨ op = 5) ∨ (op = 6 ∨ op = 7 ∨ op = 8 ∨ op = 9 ∨ op = 10) ∨ (op = 11 ∨ op = 12 ∨ op = 13 ∨ op = 14 ∨ op = 15) ∨ (op = 16 ∨ op = 17 ∨ op = 18 ∨ op = 19 ∨ op = 20) := by
  rcases (show op ≤ 5 ∨ (6 ≤ op ∧ op ≤ 10) ∨ (11 ≤ op ∧ op ≤ 15) ∨ 16 ≤ op by omega) with h | h | h | h
  · exact .inl (by omega)
  · exact .inr (.inl (by omega))
  · exact .inr (.inr (.inl (by omega)))
  · exact .inr (.inr (.inr (by omega)))
theorem index_1 (w : World) : (Instr.index 124 (.agg rowsA) (.int .i64 1)).run Tryz.prog w = .ok (.agg #[.string ⟨#[112, 117, 115, 104]⟩, .int .i64 (-2), .int .i64 0, .int .i64 1]) w := by kernel_rfl
theorem index_2 (w : World) : (Instr.index 124 (.agg rowsA) (.int .i64 2)).run Tryz.prog w = .ok (.agg #[.string ⟨#[100, 114, 111, 112]⟩, .int .i64 (-2), .int .i64 1, .int .i64 0]) w := by kernel_rfl
theorem index_3 (w : World) : (Instr.index 124 (.agg rowsA) (.int .i64 3)).run Tryz.prog w = .ok (.agg #[.string ⟨#[100, 117, 112]⟩, .int .i64 (-2), .int .i64 1, .int .i64 2]) w := by kernel_rfl
theorem index_4 (w : World) : (Instr.index 124 (.agg rowsA) (.int .i64 4)).run Tryz.prog w = .ok (.agg #[.string ⟨#[115, 119, 97, 112]⟩, .int .i64 (-2), .int .i64 2, .int .i64 2]) w := by kernel_rfl
theorem index_5 (w : World) : (Instr.index 124 (.agg rowsA) (.int .i64 5)).run Tryz.prog w = .ok (.agg #[.string ⟨#[112, 105, 99, 107]⟩, .int .i64 63, .int .i64 0, .int .i64 1]) w := by kernel_rfl
theorem index_6 (w : World) : (Instr.index 124 (.agg rowsA) (.int .i64 6)).run Tryz.prog w = .ok (.agg #[.string ⟨#[97, 114, 103]⟩, .int .i64 7, .int .i64 0, .int .i64 1]) w := by kernel_rfl
theorem index_7 (w : World) : (Instr.index 124 (.agg rowsA) (.int .i64 7)).run Tryz.prog w = .ok (.agg #[.string ⟨#[103, 101, 116]⟩, .int .i64 7, .int .i64 0, .int .i64 1]) w := by kernel_rfl
theorem index_8 (w : World) : (Instr.index 124 (.agg rowsA) (.int .i64 8)).run Tryz.prog w = .ok (.agg #[.string ⟨#[115, 101, 116]⟩, .int .i64 7, .int .i64 1, .int .i64 0]) w := by kernel_rfl
theorem index_9 (w : World) : (Instr.index 124 (.agg rowsA) (.int .i64 9)).run Tryz.prog w = .ok (.agg #[.string ⟨#[]⟩, .int .i64 8, .int .i64 1, .int .i64 1]) w := by kernel_rfl
theorem index_10 (w : World) : (Instr.index 124 (.agg rowsA) (.int .i64 10)).run Tryz.prog w = .ok (.agg #[.string ⟨#[]⟩, .int .i64 12, .int .i64 2, .int .i64 1]) w := by kernel_rfl
theorem index_11 (w : World) : (Instr.index 124 (.agg rowsA) (.int .i64 11)).run Tryz.prog w = .ok (.agg #[.string ⟨#[106, 117, 109, 112]⟩, .int .i64 (-1), .int .i64 0, .int .i64 0]) w := by kernel_rfl
theorem index_12 (w : World) : (Instr.index 124 (.agg rowsA) (.int .i64 12)).run Tryz.prog w = .ok (.agg #[.string ⟨#[105, 102]⟩, .int .i64 (-1), .int .i64 1, .int .i64 0]) w := by kernel_rfl
theorem index_13 (w : World) : (Instr.index 124 (.agg rowsA) (.int .i64 13)).run Tryz.prog w = .ok (.agg #[.string ⟨#[117, 110, 108, 101, 115, 115]⟩, .int .i64 (-1), .int .i64 1, .int .i64 0]) w := by kernel_rfl
theorem index_14 (w : World) : (Instr.index 124 (.agg rowsA) (.int .i64 14)).run Tryz.prog w = .ok (.agg #[.string ⟨#[99, 97, 108, 108]⟩, .int .i64 (-1), .int .i64 0, .int .i64 0]) w := by kernel_rfl
theorem index_15 (w : World) : (Instr.index 124 (.agg rowsA) (.int .i64 15)).run Tryz.prog w = .ok (.agg #[.string ⟨#[114, 101, 116]⟩, .int .i64 (-2), .int .i64 0, .int .i64 0]) w := by kernel_rfl
theorem index_16 (w : World) : (Instr.index 124 (.agg rowsA) (.int .i64 16)).run Tryz.prog w = .ok (.agg #[.string ⟨#[114, 101, 97, 100]⟩, .int .i64 (-2), .int .i64 1, .int .i64 1]) w := by kernel_rfl
theorem index_17 (w : World) : (Instr.index 124 (.agg rowsA) (.int .i64 17)).run Tryz.prog w = .ok (.agg #[.string ⟨#[119, 114, 105, 116, 101]⟩, .int .i64 (-2), .int .i64 2, .int .i64 0]) w := by kernel_rfl
theorem index_18 (w : World) : (Instr.index 124 (.agg rowsA) (.int .i64 18)).run Tryz.prog w = .ok (.agg #[.string ⟨#[101, 109, 105, 116]⟩, .int .i64 (-2), .int .i64 1, .int .i64 0]) w := by kernel_rfl
theorem index_19 (w : World) : (Instr.index 124 (.agg rowsA) (.int .i64 19)).run Tryz.prog w = .ok (.agg #[.string ⟨#[97, 98, 111, 114, 116]⟩, .int .i64 99, .int .i64 0, .int .i64 0]) w := by kernel_rfl
theorem index_20 (w : World) : (Instr.index 124 (.agg rowsA) (.int .i64 20)).run Tryz.prog w = .ok (.agg #[.string ⟨#[104, 97, 108, 116]⟩, .int .i64 (-2), .int .i64 0, .int .i64 0]) w := by kernel_rfl
theorem index_rows {op : Int} (h1 : 1 ≤ op) (h2 : op ≤ 20) : ∃ ws, ∀ w, (Instr.index 124 (.agg rowsA) (.int .i64 op)).run Tryz.prog w = .ok (.agg #[.string ws, .int .i64 (mostOf op), .int .i64 (takesOf op), .int .i64 (laysOf op)]) w := by
  rcases twenty h1 h2 with (rfl | rfl | rfl | rfl | rfl) | (rfl | rfl | rfl | rfl | rfl) | (rfl | rfl | rfl | rfl | rfl) | (rfl | rfl | rfl | rfl | rfl)
  · exact ⟨_, index_1⟩
  · exact ⟨_, index_2⟩
  · exact ⟨_, index_3⟩
  · exact ⟨_, index_4⟩
  · exact ⟨_, index_5⟩
  · exact ⟨_, index_6⟩
  · exact ⟨_, index_7⟩
  · exact ⟨_, index_8⟩
  · exact ⟨_, index_9⟩
  · exact ⟨_, index_10⟩
  · exact ⟨_, index_11⟩
  · exact ⟨_, index_12⟩
  · exact ⟨_, index_13⟩
  · exact ⟨_, index_14⟩
  · exact ⟨_, index_15⟩
  · exact ⟨_, index_16⟩
  · exact ⟨_, index_17⟩
  · exact ⟨_, index_18⟩
  · exact ⟨_, index_19⟩
  · exact ⟨_, index_20⟩
theorem field_row (ws : ByteArray) (m t l : Int) (w : World) : (Instr.field 123 (.agg #[.string ws, .int .i64 m, .int .i64 t, .int .i64 l]) 1).run Tryz.prog w = .ok (.int .i64 m) w := by kernel_rfl
theorem field_takes (ws : ByteArray) (m t l : Int) (w : World) : (Instr.field 123 (.agg #[.string ws, .int .i64 m, .int .i64 t, .int .i64 l]) 2).run Tryz.prog w = .ok (.int .i64 t) w := by kernel_rfl
theorem field_lays (ws : ByteArray) (m t l : Int) (w : World) : (Instr.field 123 (.agg #[.string ws, .int .i64 m, .int .i64 t, .int .i64 l]) 3).run Tryz.prog w = .ok (.int .i64 l) w := by kernel_rfl
theorem most_kinds {op : Int} (h1 : 1 ≤ op) (h2 : op ≤ 20) : (mostOf op = -2 ∧ op ≠ 9 ∧ op ≠ 10) ∨ (mostOf op = -1 ∧ op ≠ 9 ∧ op ≠ 10) ∨ (0 ≤ mostOf op) := by
  rcases twenty h1 h2 with (rfl | rfl | rfl | rfl | rfl) | (rfl | rfl | rfl | rfl | rfl) | (rfl | rfl | rfl | rfl | rfl) | (rfl | rfl | rfl | rfl | rfl) <;> decide

/-- Whether an instruction may be, in a program of so many. -/
def mayB (op n : Int) (x : Nat) (len : Int) : Bool :=
  decide (1 ≤ op) && (decide (op ≤ 20) && ((op == 1 || ((fixB x : Int) == 0)) &&
    (if mostOf op == -2 then n == 0 else if mostOf op == -1 then decide (0 ≤ n) && decide (n < len) else if op == 9 || op == 10 then decide (1 ≤ n) && decide (n ≤ mostOf op) else decide (0 ≤ n) && decide (n ≤ mostOf op))))

theorem may_low (op n : Int) (x : Nat) (len : Int) (w : World) (h : op ≤ 0) : Calls Tryz.prog 40 #[.agg #[.int .i64 op, .int .i64 n, .float .f64 x], .int .i64 len] w fun e w' => e = .returned (.bool false) ∧ Chg w w' Nothing := by
  have b1 : decide (op ≤ 0) = true := decide_eq_true h
  clear h
  go_enter Tryz.func40, Tryz.ntmps40
  go_wp2_with fail
  go_ret
  exact ⟨rfl, (Chg.refl _ _).alloc _⟩
theorem may_high (op n : Int) (x : Nat) (len : Int) (w : World) (h : 20 < op) : Calls Tryz.prog 40 #[.agg #[.int .i64 op, .int .i64 n, .float .f64 x], .int .i64 len] w fun e w' => e = .returned (.bool false) ∧ Chg w w' Nothing := by
  have b1 : decide (op ≤ 0) = false := decide_eq_false (by omega)
  have b2 : decide (20 < op) = true := decide_eq_true h
  clear h
  go_enter Tryz.func40, Tryz.ntmps40
  go_wp2_with fail
  go_ret
  exact ⟨rfl, (Chg.refl _ _).alloc _⟩
theorem fix_zero' : fixB 0 = 0 := by decide
theorem may_not (op n : Int) (x : Nat) (len : Int) (w : World) (h1 : 1 ≤ op) (h2 : op ≤ 20) (h3 : op ≠ 1) (h4 : ((fixB x : Int) == 0) = false) : Calls Tryz.prog 40 #[.agg #[.int .i64 op, .int .i64 n, .float .f64 x], .int .i64 len] w fun e w' => e = .returned (.bool false) ∧ Chg w w' Nothing := by
  have b1 : decide (op ≤ 0) = false := decide_eq_false (by omega)
  have b2 : decide (20 < op) = false := decide_eq_false (by omega)
  have b3 : (op != 1) = true := by simpa using h3
  have H4 := Lib.hid h4
  clear h1 h2 h3 h4
  go_enter Tryz.func40, Tryz.ntmps40
  go_wp2_with fail
  refine (same_any _ _ _).mono ?_
  rintro e w1 ⟨rfl, rfl⟩
  have h5 : ((fixB x : Int) == (fixB 0 : Int)) = false := by rw [fix_zero']; exact H4.out
  go_wp2_with fail
  go_ret
  exact ⟨rfl, (Chg.refl _ _).alloc _⟩
theorem box_at (w : World) (cs : Array Value) (T : TypeId) {w0 w1 : World} (hc : Chg w0 w1 Nothing) (h0 : w0.heap = (w.alloc (.cells cs T)).heap) (j : Nat) {v : Value} (hv : cs[j]? = some v) : w1.cell? ⟨w.heap.size, j, none⟩ = some v := by
  refine hc.cell ?_ id
  have : w0.cell? ⟨w.heap.size, j, none⟩ = (w.alloc (.cells cs T)).cell? ⟨w.heap.size, j, none⟩ := World.cell?_of_block (by rw [h0])
  rw [this, blk_cell (heap_alloc_new w _)]
  exact hv
theorem box_chg (w : World) (o : Obj) {w0 w1 : World} (hc : Chg w0 w1 Nothing) (h0 : w0.heap = (w.alloc o).heap) (h1 : w0.os = w.os) (h2 : w0.tape = w.tape) (h3 : w0.output = w.output) : Chg w w1 Nothing :=
  Chg.trans (w1 := w0) ⟨h1, h2, h3, by rw [h0]; simp, fun k hk _ => by rw [h0]; exact Below.heap_alloc _ _ _ hk⟩ hc (fun _ _ h => h)
set_option maxHeartbeats 1000000 in
theorem may_one (n : Int) (x : Nat) (len : Int) (w : World) : Calls Tryz.prog 40 #[.agg #[.int .i64 1, .int .i64 n, .float .f64 x], .int .i64 len] w fun e w' => e = .returned (.bool (n == 0)) ∧ Chg w w' Nothing := by
  obtain ⟨ws, hidx⟩ := index_rows (op := 1) (by decide) (by decide)
  have hm : mostOf 1 = -2 := by decide
  rw [hm] at hidx
  have hfl := field_row
  go_enter Tryz.func40, Tryz.ntmps40
  go_wp2_with fail
  go_region_law (first | (go_simp; go_at_call 90; refine (rows_any _).mono ?_; rintro e w1 ⟨rfl, hc⟩; have d0 := box_at w #[.int .i64 1, .int .i64 n, .float .f64 x] 73 hc rfl 0 rfl; have d1 := box_at w #[.int .i64 1, .int .i64 n, .float .f64 x] 73 hc rfl 1 rfl))
  all_goals
    have HC := Lib.hid (box_chg w _ hc rfl rfl rfl rfl)
    clear hc
    go_wp2_with fail
    go_ret
    exact ⟨rfl, HC.out⟩
set_option maxHeartbeats 1000000 in
theorem may_none (op n : Int) (x : Nat) (len : Int) (w : World) (h1 : 1 ≤ op) (h2 : op ≤ 20) (h3 : op ≠ 1) (h4 : ((fixB x : Int) == 0) = true) (hm : mostOf op = -2) : Calls Tryz.prog 40 #[.agg #[.int .i64 op, .int .i64 n, .float .f64 x], .int .i64 len] w fun e w' => e = .returned (.bool (n == 0)) ∧ Chg w w' Nothing := by
  obtain ⟨ws, hidx⟩ := index_rows h1 h2
  have b1 : decide (op ≤ 0) = false := decide_eq_false (by omega)
  have b2 : decide (20 < op) = false := decide_eq_false (by omega)
  have b3 : (op != 1) = true := by simpa using h3
  have H4 := Lib.hid h4
  have b5 : (mostOf op == -2) = true := by simpa using hm
  clear h1 h2 h3 h4 hm 
  generalize mostOf op = M at *
  generalize takesOf op = TK at *
  generalize laysOf op = LY at *
  have hfl := field_row
  go_enter Tryz.func40, Tryz.ntmps40
  go_wp2_with fail
  refine (same_any _ _ _).mono ?_
  rintro e w9 ⟨rfl, rfl⟩
  have h5 : ((fixB x : Int) == (fixB 0 : Int)) = true := by rw [fix_zero']; exact H4.out
  go_wp2_with fail
  go_region_law (first | (go_simp; go_at_call 90; refine (rows_any _).mono ?_; rintro e w1 ⟨rfl, hc⟩; have d0 := box_at w #[.int .i64 op, .int .i64 n, .float .f64 x] 73 hc rfl 0 rfl; have d1 := box_at w #[.int .i64 op, .int .i64 n, .float .f64 x] 73 hc rfl 1 rfl))
  all_goals
    have HC := Lib.hid (box_chg w _ hc rfl rfl rfl rfl)
    clear hc
    go_wp2_with fail
    all_goals
      go_ret
      first
        | exact ⟨rfl, HC.out⟩
        | exact ⟨by rw [decide_eq_true (show (0 : Int) ≤ n by omega)]; rfl, HC.out⟩
        | exact ⟨by rw [decide_eq_false (show ¬ (0 : Int) ≤ n by omega)]; rfl, HC.out⟩
        | exact ⟨by rw [decide_eq_true (show (1 : Int) ≤ n by omega)]; rfl, HC.out⟩
        | exact ⟨by rw [decide_eq_false (show ¬ (1 : Int) ≤ n by omega)]; rfl, HC.out⟩
set_option maxHeartbeats 1000000 in
theorem may_place (op n : Int) (x : Nat) (len : Int) (w : World) (h1 : 1 ≤ op) (h2 : op ≤ 20) (h3 : op ≠ 1) (h4 : ((fixB x : Int) == 0) = true) (hm : mostOf op = -1) : Calls Tryz.prog 40 #[.agg #[.int .i64 op, .int .i64 n, .float .f64 x], .int .i64 len] w fun e w' => e = .returned (.bool (decide (0 ≤ n) && decide (n < len))) ∧ Chg w w' Nothing := by
  obtain ⟨ws, hidx⟩ := index_rows h1 h2
  have b1 : decide (op ≤ 0) = false := decide_eq_false (by omega)
  have b2 : decide (20 < op) = false := decide_eq_false (by omega)
  have b3 : (op != 1) = true := by simpa using h3
  have H4 := Lib.hid h4
  have b5 : (mostOf op == -2) = false := by simp; omega
  have b6 : (mostOf op == -1) = true := by simpa using hm
  clear h1 h2 h3 h4 hm 
  generalize mostOf op = M at *
  generalize takesOf op = TK at *
  generalize laysOf op = LY at *
  have hfl := field_row
  go_enter Tryz.func40, Tryz.ntmps40
  go_wp2_with fail
  refine (same_any _ _ _).mono ?_
  rintro e w9 ⟨rfl, rfl⟩
  have h5 : ((fixB x : Int) == (fixB 0 : Int)) = true := by rw [fix_zero']; exact H4.out
  go_wp2_with fail
  go_region_law (first | (go_simp; go_at_call 90; refine (rows_any _).mono ?_; rintro e w1 ⟨rfl, hc⟩; have d0 := box_at w #[.int .i64 op, .int .i64 n, .float .f64 x] 73 hc rfl 0 rfl; have d1 := box_at w #[.int .i64 op, .int .i64 n, .float .f64 x] 73 hc rfl 1 rfl))
  all_goals
    have HC := Lib.hid (box_chg w _ hc rfl rfl rfl rfl)
    clear hc
    go_wp2_with fail
    all_goals
      go_ret
      first
        | exact ⟨rfl, HC.out⟩
        | exact ⟨by rw [decide_eq_true (show (0 : Int) ≤ n by omega)]; rfl, HC.out⟩
        | exact ⟨by rw [decide_eq_false (show ¬ (0 : Int) ≤ n by omega)]; rfl, HC.out⟩
        | exact ⟨by rw [decide_eq_true (show (1 : Int) ≤ n by omega)]; rfl, HC.out⟩
        | exact ⟨by rw [decide_eq_false (show ¬ (1 : Int) ≤ n by omega)]; rfl, HC.out⟩
set_option maxHeartbeats 1000000 in
theorem may_two (op n : Int) (x : Nat) (len : Int) (w : World) (h1 : 1 ≤ op) (h2 : op ≤ 20) (h3 : op ≠ 1) (h4 : ((fixB x : Int) == 0) = true) (hm : 0 ≤ mostOf op) (h9 : op = 9 ∨ op = 10) : Calls Tryz.prog 40 #[.agg #[.int .i64 op, .int .i64 n, .float .f64 x], .int .i64 len] w fun e w' => e = .returned (.bool (decide (1 ≤ n) && decide (n ≤ mostOf op))) ∧ Chg w w' Nothing := by
  obtain ⟨ws, hidx⟩ := index_rows h1 h2
  have b1 : decide (op ≤ 0) = false := decide_eq_false (by omega)
  have b2 : decide (20 < op) = false := decide_eq_false (by omega)
  have b3 : (op != 1) = true := by simpa using h3
  have H4 := Lib.hid h4
  have b5 : (mostOf op == -2) = false := by simp; omega
  have b6 : (mostOf op == -1) = false := by simp; omega
  have b7 : (op == 9 || op == 10) = true := by rcases h9 with rfl | rfl <;> rfl
  clear h1 h2 h3 h4 hm h9
  generalize mostOf op = M at *
  generalize takesOf op = TK at *
  generalize laysOf op = LY at *
  have hfl := field_row
  go_enter Tryz.func40, Tryz.ntmps40
  go_wp2_with fail
  refine (same_any _ _ _).mono ?_
  rintro e w9 ⟨rfl, rfl⟩
  have h5 : ((fixB x : Int) == (fixB 0 : Int)) = true := by rw [fix_zero']; exact H4.out
  go_wp2_with fail
  go_region_law (first | (go_simp; go_at_call 90; refine (rows_any _).mono ?_; rintro e w1 ⟨rfl, hc⟩; have d0 := box_at w #[.int .i64 op, .int .i64 n, .float .f64 x] 73 hc rfl 0 rfl; have d1 := box_at w #[.int .i64 op, .int .i64 n, .float .f64 x] 73 hc rfl 1 rfl))
  all_goals
    have HC := Lib.hid (box_chg w _ hc rfl rfl rfl rfl)
    clear hc
    go_wp2_with fail
    all_goals
      go_ret
      first
        | exact ⟨rfl, HC.out⟩
        | exact ⟨by rw [decide_eq_true (show (0 : Int) ≤ n by omega)]; rfl, HC.out⟩
        | exact ⟨by rw [decide_eq_false (show ¬ (0 : Int) ≤ n by omega)]; rfl, HC.out⟩
        | exact ⟨by rw [decide_eq_true (show (1 : Int) ≤ n by omega)]; rfl, HC.out⟩
        | exact ⟨by rw [decide_eq_false (show ¬ (1 : Int) ≤ n by omega)]; rfl, HC.out⟩
set_option maxHeartbeats 1000000 in
theorem may_rest (op n : Int) (x : Nat) (len : Int) (w : World) (h1 : 1 ≤ op) (h2 : op ≤ 20) (h3 : op ≠ 1) (h4 : ((fixB x : Int) == 0) = true) (hm : 0 ≤ mostOf op) (h9 : op ≠ 9) (h10 : op ≠ 10) : Calls Tryz.prog 40 #[.agg #[.int .i64 op, .int .i64 n, .float .f64 x], .int .i64 len] w fun e w' => e = .returned (.bool (decide (0 ≤ n) && decide (n ≤ mostOf op))) ∧ Chg w w' Nothing := by
  obtain ⟨ws, hidx⟩ := index_rows h1 h2
  have b1 : decide (op ≤ 0) = false := decide_eq_false (by omega)
  have b2 : decide (20 < op) = false := decide_eq_false (by omega)
  have b3 : (op != 1) = true := by simpa using h3
  have H4 := Lib.hid h4
  have b5 : (mostOf op == -2) = false := by simp; omega
  have b6 : (mostOf op == -1) = false := by simp; omega
  have b7 : (op == 9) = false := by simpa using h9
  have b8 : (op == 10) = false := by simpa using h10
  clear h1 h2 h3 h4 hm h9 h10
  generalize mostOf op = M at *
  generalize takesOf op = TK at *
  generalize laysOf op = LY at *
  have hfl := field_row
  go_enter Tryz.func40, Tryz.ntmps40
  go_wp2_with fail
  refine (same_any _ _ _).mono ?_
  rintro e w9 ⟨rfl, rfl⟩
  have h5 : ((fixB x : Int) == (fixB 0 : Int)) = true := by rw [fix_zero']; exact H4.out
  go_wp2_with fail
  go_region_law (first | (go_simp; go_at_call 90; refine (rows_any _).mono ?_; rintro e w1 ⟨rfl, hc⟩; have d0 := box_at w #[.int .i64 op, .int .i64 n, .float .f64 x] 73 hc rfl 0 rfl; have d1 := box_at w #[.int .i64 op, .int .i64 n, .float .f64 x] 73 hc rfl 1 rfl))
  all_goals
    have HC := Lib.hid (box_chg w _ hc rfl rfl rfl rfl)
    clear hc
    go_wp2_with fail
    all_goals
      go_ret
      first
        | exact ⟨rfl, HC.out⟩
        | exact ⟨by rw [decide_eq_true (show (0 : Int) ≤ n by omega)]; rfl, HC.out⟩
        | exact ⟨by rw [decide_eq_false (show ¬ (0 : Int) ≤ n by omega)]; rfl, HC.out⟩
        | exact ⟨by rw [decide_eq_true (show (1 : Int) ≤ n by omega)]; rfl, HC.out⟩
        | exact ⟨by rw [decide_eq_false (show ¬ (1 : Int) ≤ n by omega)]; rfl, HC.out⟩
end Go.Proofs.YtgeapkalabijmaaGreat

/- A program's error: the code's Check. -/
namespace Go.Proofs.YtgeapkalabijmaaGreat
open Go Go.RowKit
set_option maxRecDepth 100000
set_option maxHeartbeats 1000000
set_option linter.unusedVariables false
set_option linter.unusedSimpArgs false

abbrev Ins := Int × Int × Nat
theorem may_any (op n : Int) (x : Nat) (len : Int) (w : World) : Calls Tryz.prog 40 #[.agg #[.int .i64 op, .int .i64 n, .float .f64 x], .int .i64 len] w fun e w' => e = .returned (.bool (mayB op n x len)) ∧ Chg w w' Nothing := by
  by_cases h1 : 1 ≤ op
  · by_cases h2 : op ≤ 20
    · by_cases h3 : op = 1
      · subst h3
        have : mayB 1 n x len = (n == 0) := by unfold mayB; simp [show mostOf 1 = -2 by decide]
        rw [this]
        exact may_one n x len w
      · have e0 : ∀ b : Bool, ((op == 1 || ((fixB x : Int) == 0)) && b) = (((fixB x : Int) == 0) && b) := fun b => by rw [show (op == 1) = false from by simpa using h3, Bool.false_or]
        cases h4 : ((fixB x : Int) == 0) with
        | false =>
          have : mayB op n x len = false := by unfold mayB; rw [e0, h4]; simp
          rw [this]
          exact may_not op n x len w h1 h2 h3 h4
        | true =>
          have e1 : ∀ b : Bool, (decide (1 ≤ op) && (decide (op ≤ 20) && ((op == 1 || ((fixB x : Int) == 0)) && b))) = b := fun b => by rw [e0, h4, decide_eq_true h1, decide_eq_true h2]; simp
          unfold mayB
          rw [e1]
          rcases most_kinds h1 h2 with ⟨hm, _⟩ | ⟨hm, _⟩ | hm
          · rw [if_pos (by simpa using hm)]
            exact may_none op n x len w h1 h2 h3 h4 hm
          · rw [if_neg (by simp; omega), if_pos (by simpa using hm)]
            exact may_place op n x len w h1 h2 h3 h4 hm
          · rw [if_neg (by simp; omega), if_neg (by simp; omega)]
            by_cases h9 : op = 9 ∨ op = 10
            · rw [if_pos (by simpa using h9)]
              exact may_two op n x len w h1 h2 h3 h4 hm h9
            · rw [if_neg (by simpa using h9)]
              exact may_rest op n x len w h1 h2 h3 h4 hm (fun e => h9 (.inl e)) (fun e => h9 (.inr e))
    · have : mayB op n x len = false := by unfold mayB; rw [decide_eq_false h2, Bool.false_and, Bool.and_false]
      rw [this]
      exact may_high op n x len w (by omega)
  · have : mayB op n x len = false := by unfold mayB; rw [decide_eq_false h1, Bool.false_and]
    rw [this]
    exact may_low op n x len w (by omega)

/-- Instructions in a row. -/
def insV (l : List Ins) : List Value := l.flatMap fun t => [.int .i64 t.1, .int .i64 t.2.1, fl t.2.2]
theorem insV_len (l : List Ins) : (insV l).length = l.length * 3 := by
  induction l with
  | nil => rfl
  | cons t l ih => simp [insV] at ih ⊢; omega
theorem insV_snoc (l : List Ins) (t : Ins) : insV (l ++ [t]) = insV l ++ [.int .i64 t.1, .int .i64 t.2.1, fl t.2.2] := by simp [insV]
theorem insV_at : ∀ (l : List Ins) (i : Nat) (x : Ins), l[i]? = some x → (insV l)[i * 3]? = some (.int .i64 x.1) ∧ (insV l)[i * 3 + 1]? = some (.int .i64 x.2.1) ∧ (insV l)[i * 3 + 2]? = some (fl x.2.2)
  | [], i, x, h => by simp at h
  | t :: l, 0, x, h => by simp at h; subst h; exact ⟨rfl, rfl, rfl⟩
  | t :: l, i + 1, x, h => by
    have := insV_at l i x (by simpa using h)
    rw [show (i + 1) * 3 = i * 3 + 3 by omega]
    exact this
theorem ins_cells {w : World} {a : Option Addr} {l : List Ins} {i : Nat} {t : Ins} (h : Sees w a (insV l)) (hi : l[i]? = some t) : ∃ b o, a = some ⟨b, o, none⟩ ∧ w.cell? ⟨b, o + i * 3, none⟩ = some (.int .i64 t.1) ∧ w.cell? ⟨b, o + i * 3 + 1, none⟩ = some (.int .i64 t.2.1) ∧ w.cell? ⟨b, o + i * 3 + 2, none⟩ = some (fl t.2.2) := by
  obtain ⟨t1, t2, t3⟩ := insV_at l i t hi
  rcases h with h | ⟨b, o, rfl, h⟩
  · rw [h] at t1; simp at t1
  · exact ⟨b, o, rfl, h _ _ t1, by rw [Nat.add_assoc]; exact h _ _ t2, by rw [Nat.add_assoc]; exact h _ _ t3⟩

/-- A program's error. -/
def checkE (tag : Int) (l : List Ins) : Int := if (tag = 1 ∨ tag = 2) ∧ 1 ≤ l.length ∧ l.length ≤ 1024 ∧ ∀ t ∈ l, mayB t.1 t.2.1 t.2.2 l.length = true then 0 else 50
theorem checkE_bad {tag : Int} {l : List Ins} (h : ¬ ((tag = 1 ∨ tag = 2) ∧ 1 ≤ l.length ∧ l.length ≤ 1024)) : checkE tag l = 50 := if_neg (fun h' => h ⟨h'.1, h'.2.1, h'.2.2.1⟩)

theorem check_bad (tag : Int) (a : Option Addr) (c : Nat) (n : Nat) (w : World) (h : ¬ ((tag = 1 ∨ tag = 2) ∧ 1 ≤ n ∧ n ≤ 1024)) :
    Calls Tryz.prog 12 #[.agg #[.int .i64 tag, .slice a n c]] w fun e w' => e = .returned (.int .i64 50) ∧ Chg w w' Nothing := by
  by_cases ht : tag = 1 ∨ tag = 2
  · by_cases h0 : n = 0
    · subst h0
      rcases ht with rfl | rfl
      all_goals
        go_enter Tryz.func12, Tryz.ntmps12
        go_wp2_with fail
        go_ret
        exact ⟨rfl, (Chg.refl _ _).alloc _⟩
    · have b2 : ((n : Int) == 0) = false := by rw [beq_eq_false_iff_ne]; omega
      have b3 : decide ((1024 : Int) < (n : Int)) = true := decide_eq_true (by omega)
      clear h
      rcases ht with rfl | rfl
      all_goals
        go_enter Tryz.func12, Tryz.ntmps12
        go_wp2_with fail
        go_ret
        exact ⟨rfl, (Chg.refl _ _).alloc _⟩
  · have c1 : (tag != 1) = true := by simp; omega
    have c2 : (tag != 2) = true := by simp; omega
    clear h ht
    go_enter Tryz.func12, Tryz.ntmps12
    go_wp2_with fail
    go_ret
    exact ⟨rfl, (Chg.refl _ _).alloc _⟩

theorem checkE_all {tag : Int} {l : List Ins} (h0 : (tag = 1 ∨ tag = 2) ∧ 1 ≤ l.length ∧ l.length ≤ 1024) (h : ∀ j t, j < l.length → l[j]? = some t → mayB t.1 t.2.1 t.2.2 l.length = true) : checkE tag l = 0 :=
  if_pos ⟨h0.1, h0.2.1, h0.2.2, fun t ht => by obtain ⟨j, hj⟩ := List.getElem?_of_mem ht; exact h j t (List.getElem?_eq_some_iff.1 hj).1 hj⟩
theorem checkE_one {tag : Int} {l : List Ins} {j : Nat} {t : Ins} (hj : l[j]? = some t) (h : mayB t.1 t.2.1 t.2.2 l.length = false) : checkE tag l = 50 :=
  if_neg (fun h' => by have := h'.2.2.2 t (List.mem_of_getElem? hj); rw [h] at this; cases this)

set_option maxHeartbeats 1000000 in
theorem check_any (tag : Int) (a : Option Addr) (c : Nat) (l : List Ins) (w : World) (hs : Sees w a (insV l)) :
    Calls Tryz.prog 12 #[.agg #[.int .i64 tag, .slice a l.length c]] w fun e w' => e = .returned (.int .i64 (checkE tag l)) ∧ Chg w w' Nothing := by
  by_cases h0 : (tag = 1 ∨ tag = 2) ∧ 1 ≤ l.length ∧ l.length ≤ 1024
  · have HS := Lib.hid hs
    obtain ⟨ht, h1, h2⟩ := h0
    have b2 : ((l.length : Int) == 0) = false := by rw [beq_eq_false_iff_ne]; omega
    have b3 : decide ((1024 : Int) < (l.length : Int)) = false := decide_eq_false (by omega)
    have H1 := Lib.hid h1
    clear hs h1
    rcases ht with rfl | rfl
    · go_enter Tryz.func12, Tryz.ntmps12
      go_wp2_with fail
      go_loopg [28] l.length (fun k i wr => ∃ n : Nat, n + k = l.length ∧ i = .int .i64 (n : Nat) ∧ Chg (w.alloc (.cells #[.int .i64 1, .slice a l.length c] 26)) wr Nothing ∧ ∀ j t, j < n → l[j]? = some t → mayB t.1 t.2.1 t.2.2 l.length = true)
      case atStart => exact ⟨0, by simp, rfl, Chg.refl _ _, fun j t hj => by omega⟩
      case round =>
        obtain ⟨n, hn, rfl, hc, hall⟩ := hrel
        have HC := Lib.hid hc
        have HA := Lib.hid hall
        have hsz : w.heap.size < wr.heap.size := by have := hc.size; simp at this; omega
        have hne : ¬ w.heap.size = wr.heap.size := by omega
        have p0 : wr.cell? ⟨w.heap.size, 0, none⟩ = some (.int .i64 1) := box_at w #[.int .i64 1, .slice a l.length c] 26 hc rfl 0 rfl
        have p1 : wr.cell? ⟨w.heap.size, 1, none⟩ = some (.slice a l.length c) := box_at w #[.int .i64 1, .slice a l.length c] 26 hc rfl 1 rfl
        clear hc hall
        by_cases hlt : n < l.length
        · have hd : decide (n < l.length) = true := by simpa using hlt
          obtain ⟨⟨op, m, x⟩, hx⟩ : ∃ t, l[n]? = some t := ⟨_, List.getElem?_eq_getElem hlt⟩
          obtain ⟨b, o, rfl, k0, k1, k2⟩ := ins_cells HS.out hx
          have k0 := (box_chg w _ HC.out rfl rfl rfl rfl).cell k0 id
          have k1 := (box_chg w _ HC.out rfl rfl rfl rfl).cell k1 id
          have k2 := (box_chg w _ HC.out rfl rfl rfl rfl).cell k2 id
          have HX := Lib.hid hx
          clear hx
          go_wp2_with fail
          refine (may_any op m x _ _).mono ?_
          rintro e w2 ⟨rfl, hc2⟩
          have C2 := Lib.hid (show Chg (w.alloc (.cells #[.int .i64 1, .slice (some ⟨b, o, none⟩) l.length c] 26)) w2 Nothing from (HC.out.alloc _).trans hc2 (fun _ _ h => h))
          clear hc2
          cases hm : mayB op m x l.length with
          | true =>
            have HM := Lib.hid hm
            clear hm
            go_wp2_with fail
            go_roundg (gk - 1)
            case measure => omega
            case rel => exact ⟨n + 1, by omega, by go_num, C2.out, fun j t hj ht => by
              rcases Nat.lt_or_eq_of_le (Nat.lt_succ_iff.1 hj) with h | rfl
              · exact HA.out j t h ht
              · rw [HX.out] at ht; cases ht; exact HM.out⟩
          | false =>
            have HM := Lib.hid (checkE_one (tag := 1) HX.out hm)
            clear hm
            go_wp2_with fail
            go_ret
            exact ⟨by rw [HM.out]; rfl, box_chg w _ C2.out rfl rfl rfl rfl⟩
        · have hd : decide (n < l.length) = false := by simpa using hlt
          obtain rfl : n = l.length := by omega
          have HM := Lib.hid (checkE_all (tag := 1) ⟨.inl rfl, H1.out, h2⟩ HA.out)
          go_wp2_with fail
          go_ret
          exact ⟨by rw [HM.out]; rfl, box_chg w _ HC.out rfl rfl rfl rfl⟩
    · go_enter Tryz.func12, Tryz.ntmps12
      go_wp2_with fail
      go_loopg [28] l.length (fun k i wr => ∃ n : Nat, n + k = l.length ∧ i = .int .i64 (n : Nat) ∧ Chg (w.alloc (.cells #[.int .i64 2, .slice a l.length c] 26)) wr Nothing ∧ ∀ j t, j < n → l[j]? = some t → mayB t.1 t.2.1 t.2.2 l.length = true)
      case atStart => exact ⟨0, by simp, rfl, Chg.refl _ _, fun j t hj => by omega⟩
      case round =>
        obtain ⟨n, hn, rfl, hc, hall⟩ := hrel
        have HC := Lib.hid hc
        have HA := Lib.hid hall
        have hsz : w.heap.size < wr.heap.size := by have := hc.size; simp at this; omega
        have hne : ¬ w.heap.size = wr.heap.size := by omega
        have p0 : wr.cell? ⟨w.heap.size, 0, none⟩ = some (.int .i64 2) := box_at w #[.int .i64 2, .slice a l.length c] 26 hc rfl 0 rfl
        have p1 : wr.cell? ⟨w.heap.size, 1, none⟩ = some (.slice a l.length c) := box_at w #[.int .i64 2, .slice a l.length c] 26 hc rfl 1 rfl
        clear hc hall
        by_cases hlt : n < l.length
        · have hd : decide (n < l.length) = true := by simpa using hlt
          obtain ⟨⟨op, m, x⟩, hx⟩ : ∃ t, l[n]? = some t := ⟨_, List.getElem?_eq_getElem hlt⟩
          obtain ⟨b, o, rfl, k0, k1, k2⟩ := ins_cells HS.out hx
          have k0 := (box_chg w _ HC.out rfl rfl rfl rfl).cell k0 id
          have k1 := (box_chg w _ HC.out rfl rfl rfl rfl).cell k1 id
          have k2 := (box_chg w _ HC.out rfl rfl rfl rfl).cell k2 id
          have HX := Lib.hid hx
          clear hx
          go_wp2_with fail
          refine (may_any op m x _ _).mono ?_
          rintro e w2 ⟨rfl, hc2⟩
          have C2 := Lib.hid (show Chg (w.alloc (.cells #[.int .i64 2, .slice (some ⟨b, o, none⟩) l.length c] 26)) w2 Nothing from (HC.out.alloc _).trans hc2 (fun _ _ h => h))
          clear hc2
          cases hm : mayB op m x l.length with
          | true =>
            have HM := Lib.hid hm
            clear hm
            go_wp2_with fail
            go_roundg (gk - 1)
            case measure => omega
            case rel => exact ⟨n + 1, by omega, by go_num, C2.out, fun j t hj ht => by
              rcases Nat.lt_or_eq_of_le (Nat.lt_succ_iff.1 hj) with h | rfl
              · exact HA.out j t h ht
              · rw [HX.out] at ht; cases ht; exact HM.out⟩
          | false =>
            have HM := Lib.hid (checkE_one (tag := 2) HX.out hm)
            clear hm
            go_wp2_with fail
            go_ret
            exact ⟨by rw [HM.out]; rfl, box_chg w _ C2.out rfl rfl rfl rfl⟩
        · have hd : decide (n < l.length) = false := by simpa using hlt
          obtain rfl : n = l.length := by omega
          have HM := Lib.hid (checkE_all (tag := 2) ⟨.inr rfl, H1.out, h2⟩ HA.out)
          go_wp2_with fail
          go_ret
          exact ⟨by rw [HM.out]; rfl, box_chg w _ HC.out rfl rfl rfl rfl⟩
  · rw [checkE_bad h0]
    exact check_bad tag a c l.length w h0
end Go.Proofs.YtgeapkalabijmaaGreat

/- A program's error: the document's walk. -/
namespace Go.Proofs.YtgeapkalabijmaaGreat
open Go Go.RowKit
set_option maxRecDepth 100000
set_option maxHeartbeats 1000000
set_option linter.unusedVariables false
set_option linter.unusedSimpArgs false

def loL : List Int := [0, 0, 0, 0, 0, 0, 0, 0, 0, 1, 1, -1, -1, -1, -1, 0, 0, 0, 0, 0, 0]
def hiL : List Int := [0, 0, 0, 0, 0, 63, 7, 7, 7, 8, 12, -1, -1, -1, -1, 0, 0, 0, 0, 99, 0]
def loOf (op : Int) : Int := loL.getD op.toNat 0
def hiOf (op : Int) : Int := hiL.getD op.toNat 0
def rowsR : Array Value := #[.string ⟨#[]⟩, .int .i64 0, .int .i64 0, .int .i64 0, .int .i64 0, .string ⟨#[112, 117, 115, 104]⟩, .int .i64 0, .int .i64 0, .int .i64 0, .int .i64 1, .string ⟨#[100, 114, 111, 112]⟩, .int .i64 0, .int .i64 0, .int .i64 1, .int .i64 0, .string ⟨#[100, 117, 112]⟩, .int .i64 0, .int .i64 0, .int .i64 1, .int .i64 2, .string ⟨#[115, 119, 97, 112]⟩, .int .i64 0, .int .i64 0, .int .i64 2, .int .i64 2, .string ⟨#[112, 105, 99, 107]⟩, .int .i64 0, .int .i64 63, .int .i64 0, .int .i64 1, .string ⟨#[97, 114, 103]⟩, .int .i64 0, .int .i64 7, .int .i64 0, .int .i64 1, .string ⟨#[103, 101, 116]⟩, .int .i64 0, .int .i64 7, .int .i64 0, .int .i64 1, .string ⟨#[115, 101, 116]⟩, .int .i64 0, .int .i64 7, .int .i64 1, .int .i64 0, .string ⟨#[]⟩, .int .i64 1, .int .i64 8, .int .i64 1, .int .i64 1, .string ⟨#[]⟩, .int .i64 1, .int .i64 12, .int .i64 2, .int .i64 1, .string ⟨#[106, 117, 109, 112]⟩, .int .i64 (-1), .int .i64 (-1), .int .i64 0, .int .i64 0, .string ⟨#[105, 102]⟩, .int .i64 (-1), .int .i64 (-1), .int .i64 1, .int .i64 0, .string ⟨#[117, 110, 108, 101, 115, 115]⟩, .int .i64 (-1), .int .i64 (-1), .int .i64 1, .int .i64 0, .string ⟨#[99, 97, 108, 108]⟩, .int .i64 (-1), .int .i64 (-1), .int .i64 0, .int .i64 0, .string ⟨#[114, 101, 116]⟩, .int .i64 0, .int .i64 0, .int .i64 0, .int .i64 0, .string ⟨#[114, 101, 97, 100]⟩, .int .i64 0, .int .i64 0, .int .i64 1, .int .i64 1, .string ⟨#[119, 114, 105, 116, 101]⟩, .int .i64 0, .int .i64 0, .int .i64 2, .int .i64 0, .string ⟨#[101, 109, 105, 116]⟩, .int .i64 0, .int .i64 0, .int .i64 1, .int .i64 0, .string ⟨#[97, 98, 111, 114, 116]⟩, .int .i64 0, .int .i64 99, .int .i64 0, .int .i64 0, .string ⟨#[104, 97, 108, 116]⟩, .int .i64 0, .int .i64 0, .int .i64 0, .int .i64 0]

end Go.Proofs.YtgeapkalabijmaaGreat

/- A program's error: the document's May. -/
namespace Go.Proofs.YtgeapkalabijmaaGreat
open Go Go.RowKit
set_option maxRecDepth 100000
set_option maxHeartbeats 1000000
set_option linter.unusedVariables false
set_option linter.unusedSimpArgs false

theorem rows_at {k : Nat} (h1 : 1 ≤ k) (h2 : k ≤ 20) : ∃ ws, rowsR[k * 5]? = some (.string ws) ∧ rowsR[k * 5 + 1]? = some (.int .i64 (loOf k)) ∧ rowsR[k * 5 + 2]? = some (.int .i64 (hiOf k)) ∧ rowsR[k * 5 + 3]? = some (.int .i64 (takesOf k)) ∧ rowsR[k * 5 + 4]? = some (.int .i64 (laysOf k)) := by
  have : ∀ (j : Nat), k = j → (j = 1 ∨ j = 2 ∨ j = 3 ∨ j = 4 ∨ j = 5) ∨ (j = 6 ∨ j = 7 ∨ j = 8 ∨ j = 9 ∨ j = 10) ∨ (j = 11 ∨ j = 12 ∨ j = 13 ∨ j = 14 ∨ j = 15) ∨ (j = 16 ∨ j = 17 ∨ j = 18 ∨ j = 19 ∨ j = 20) := by
    rintro j rfl
    have := twenty (op := (k : Int)) (by omega) (by omega)
    rcases this with (h | h | h | h | h) | (h | h | h | h | h) | (h | h | h | h | h) | (h | h | h | h | h)
    · exact .inl (by omega)
    · exact .inl (by omega)
    · exact .inl (by omega)
    · exact .inl (by omega)
    · exact .inl (by omega)
    · exact .inr (.inl (by omega))
    · exact .inr (.inl (by omega))
    · exact .inr (.inl (by omega))
    · exact .inr (.inl (by omega))
    · exact .inr (.inl (by omega))
    · exact .inr (.inr (.inl (by omega)))
    · exact .inr (.inr (.inl (by omega)))
    · exact .inr (.inr (.inl (by omega)))
    · exact .inr (.inr (.inl (by omega)))
    · exact .inr (.inr (.inl (by omega)))
    · exact .inr (.inr (.inr (by omega)))
    · exact .inr (.inr (.inr (by omega)))
    · exact .inr (.inr (.inr (by omega)))
    · exact .inr (.inr (.inr (by omega)))
    · exact .inr (.inr (.inr (by omega)))
  rcases this k rfl with (rfl | rfl | rfl | rfl | rfl) | (rfl | rfl | rfl | rfl | rfl) | (rfl | rfl | rfl | rfl | rfl) | (rfl | rfl | rfl | rfl | rfl)
  · exact ⟨_, rfl, rfl, rfl, rfl, rfl⟩
  · exact ⟨_, rfl, rfl, rfl, rfl, rfl⟩
  · exact ⟨_, rfl, rfl, rfl, rfl, rfl⟩
  · exact ⟨_, rfl, rfl, rfl, rfl, rfl⟩
  · exact ⟨_, rfl, rfl, rfl, rfl, rfl⟩
  · exact ⟨_, rfl, rfl, rfl, rfl, rfl⟩
  · exact ⟨_, rfl, rfl, rfl, rfl, rfl⟩
  · exact ⟨_, rfl, rfl, rfl, rfl, rfl⟩
  · exact ⟨_, rfl, rfl, rfl, rfl, rfl⟩
  · exact ⟨_, rfl, rfl, rfl, rfl, rfl⟩
  · exact ⟨_, rfl, rfl, rfl, rfl, rfl⟩
  · exact ⟨_, rfl, rfl, rfl, rfl, rfl⟩
  · exact ⟨_, rfl, rfl, rfl, rfl, rfl⟩
  · exact ⟨_, rfl, rfl, rfl, rfl, rfl⟩
  · exact ⟨_, rfl, rfl, rfl, rfl, rfl⟩
  · exact ⟨_, rfl, rfl, rfl, rfl, rfl⟩
  · exact ⟨_, rfl, rfl, rfl, rfl, rfl⟩
  · exact ⟨_, rfl, rfl, rfl, rfl, rfl⟩
  · exact ⟨_, rfl, rfl, rfl, rfl, rfl⟩
  · exact ⟨_, rfl, rfl, rfl, rfl, rfl⟩
theorem lo_kinds {op : Int} (h1 : 1 ≤ op) (h2 : op ≤ 20) : (mostOf op = -2 ∧ loOf op = 0 ∧ hiOf op = 0) ∨ (mostOf op = -1 ∧ loOf op = -1) ∨ (0 ≤ mostOf op ∧ (op = 9 ∨ op = 10) ∧ loOf op = 1 ∧ hiOf op = mostOf op) ∨ (0 ≤ mostOf op ∧ op ≠ 9 ∧ op ≠ 10 ∧ loOf op = 0 ∧ hiOf op = mostOf op) := by
  rcases twenty h1 h2 with (rfl | rfl | rfl | rfl | rfl) | (rfl | rfl | rfl | rfl | rfl) | (rfl | rfl | rfl | rfl | rfl) | (rfl | rfl | rfl | rfl | rfl) <;> decide
/-- What the document asks of an instruction's number. -/
def numB (op n len : Int) : Bool := if loOf op < 0 then decide (0 ≤ n) && decide (n < len) else decide (loOf op ≤ n) && decide (n ≤ hiOf op)
theorem mayB_num {op n : Int} {x : Nat} {len : Int} (h1 : 1 ≤ op) (h2 : op ≤ 20) (h3 : (op == 1 || ((fixB x : Int) == 0)) = true) : mayB op n x len = numB op n len := by
  unfold mayB numB
  rw [decide_eq_true h1, decide_eq_true h2, h3, Bool.true_and, Bool.true_and, Bool.true_and]
  rcases lo_kinds h1 h2 with ⟨a, b, c⟩ | ⟨a, b⟩ | ⟨a, b, c, d⟩ | ⟨a, b, c, d, e⟩
  · rw [if_pos (by simpa using a), b, c, if_neg (by decide)]
    by_cases h : n = 0
    · subst h; rfl
    · rw [show (n == 0) = false by simpa using h]
      by_cases h' : 0 ≤ n
      · rw [decide_eq_false (show ¬ n ≤ 0 by omega)]; simp
      · rw [decide_eq_false h']; simp
  · rw [if_neg (by simp; omega), if_pos (by simpa using a), b, if_pos (by decide)]
  · rw [if_neg (by simp; omega), if_neg (by simp; omega), if_pos (by simpa using b), c, d, if_neg (by decide)]
  · rw [if_neg (by simp; omega), if_neg (by simp; omega), if_neg (by simp; exact ⟨b, c⟩), d, e, if_neg (by decide)]

/-- A row of the table in a block of its own. -/
def RowBox (w : World) (n LO HI : Int) (v : Value) (wx : World) : Prop := ∃ r, v = .pointer (some ⟨r, 0, none⟩) ∧ wx.cell? ⟨r, 1, none⟩ = some (.int .i64 LO) ∧ wx.cell? ⟨r, 2, none⟩ = some (.int .i64 HI) ∧ wx.cell? ⟨w.heap.size, 1, none⟩ = some (.int .i64 n) ∧ Chg w wx Nothing


end Go.Proofs.YtgeapkalabijmaaGreat

/- A program's error: the document's Check; two programs that are the same. -/
namespace Go.Proofs.YtgeapkalabijmaaGreat
open Go Go.RowKit
set_option maxRecDepth 100000
set_option maxHeartbeats 1000000
set_option linter.unusedVariables false
set_option linter.unusedSimpArgs false

end Go.Proofs.YtgeapkalabijmaaGreat
