/- A program's error: the code's walk. -/
import Derived.Test.YtjjkjcoebbjgcaaNum
import Derived.Great.BuildSlice
namespace Go.Proofs.Ytjjkjcoebbjgcaa
open Go Go.RowKit
set_option maxRecDepth 100000
set_option maxHeartbeats 1000000
set_option linter.unusedVariables false
set_option linter.unusedSimpArgs false

/-- How far an operation's number may go: -1 a place, -2 none; what it takes and lays. -/
def mostL : List Int := [0, -2, -2, -2, -2, 63, 7, 7, 7, 8, 12, -1, -1, -1, -1, -2, -2, -2, -2, 99, -2]
def mostOf (op : Int) : Int := mostL.getD op.toNat 0
def takesL : List Int := [0, 0, 1, 1, 2, 0, 0, 0, 1, 1, 2, 0, 1, 1, 0, 0, 1, 2, 1, 0, 0]
def laysL : List Int := [0, 1, 0, 2, 2, 1, 1, 1, 0, 1, 1, 0, 0, 0, 0, 0, 1, 0, 0, 0, 0]
def takesOf (op : Int) : Int := takesL.getD op.toNat 0
def laysOf (op : Int) : Int := laysL.getD op.toNat 0
/-- The table's cells. -/
def zeroA : Array Value := #[.string ⟨#[]⟩, .int .i64 0, .int .i64 0, .int .i64 0, .string ⟨#[]⟩, .int .i64 0, .int .i64 0, .int .i64 0, .string ⟨#[]⟩, .int .i64 0, .int .i64 0, .int .i64 0, .string ⟨#[]⟩, .int .i64 0, .int .i64 0, .int .i64 0, .string ⟨#[]⟩, .int .i64 0, .int .i64 0, .int .i64 0, .string ⟨#[]⟩, .int .i64 0, .int .i64 0, .int .i64 0, .string ⟨#[]⟩, .int .i64 0, .int .i64 0, .int .i64 0, .string ⟨#[]⟩, .int .i64 0, .int .i64 0, .int .i64 0, .string ⟨#[]⟩, .int .i64 0, .int .i64 0, .int .i64 0, .string ⟨#[]⟩, .int .i64 0, .int .i64 0, .int .i64 0, .string ⟨#[]⟩, .int .i64 0, .int .i64 0, .int .i64 0, .string ⟨#[]⟩, .int .i64 0, .int .i64 0, .int .i64 0, .string ⟨#[]⟩, .int .i64 0, .int .i64 0, .int .i64 0, .string ⟨#[]⟩, .int .i64 0, .int .i64 0, .int .i64 0, .string ⟨#[]⟩, .int .i64 0, .int .i64 0, .int .i64 0, .string ⟨#[]⟩, .int .i64 0, .int .i64 0, .int .i64 0, .string ⟨#[]⟩, .int .i64 0, .int .i64 0, .int .i64 0, .string ⟨#[]⟩, .int .i64 0, .int .i64 0, .int .i64 0, .string ⟨#[]⟩, .int .i64 0, .int .i64 0, .int .i64 0, .string ⟨#[]⟩, .int .i64 0, .int .i64 0, .int .i64 0, .string ⟨#[]⟩, .int .i64 0, .int .i64 0, .int .i64 0]
def rowsA : Array Value := #[.string ⟨#[]⟩, .int .i64 0, .int .i64 0, .int .i64 0, .string ⟨#[112, 117, 115, 104]⟩, .int .i64 (-2), .int .i64 0, .int .i64 1, .string ⟨#[100, 114, 111, 112]⟩, .int .i64 (-2), .int .i64 1, .int .i64 0, .string ⟨#[100, 117, 112]⟩, .int .i64 (-2), .int .i64 1, .int .i64 2, .string ⟨#[115, 119, 97, 112]⟩, .int .i64 (-2), .int .i64 2, .int .i64 2, .string ⟨#[112, 105, 99, 107]⟩, .int .i64 63, .int .i64 0, .int .i64 1, .string ⟨#[97, 114, 103]⟩, .int .i64 7, .int .i64 0, .int .i64 1, .string ⟨#[103, 101, 116]⟩, .int .i64 7, .int .i64 0, .int .i64 1, .string ⟨#[115, 101, 116]⟩, .int .i64 7, .int .i64 1, .int .i64 0, .string ⟨#[]⟩, .int .i64 8, .int .i64 1, .int .i64 1, .string ⟨#[]⟩, .int .i64 12, .int .i64 2, .int .i64 1, .string ⟨#[106, 117, 109, 112]⟩, .int .i64 (-1), .int .i64 0, .int .i64 0, .string ⟨#[105, 102]⟩, .int .i64 (-1), .int .i64 1, .int .i64 0, .string ⟨#[117, 110, 108, 101, 115, 115]⟩, .int .i64 (-1), .int .i64 1, .int .i64 0, .string ⟨#[99, 97, 108, 108]⟩, .int .i64 (-1), .int .i64 0, .int .i64 0, .string ⟨#[114, 101, 116]⟩, .int .i64 (-2), .int .i64 0, .int .i64 0, .string ⟨#[114, 101, 97, 100]⟩, .int .i64 (-2), .int .i64 1, .int .i64 1, .string ⟨#[119, 114, 105, 116, 101]⟩, .int .i64 (-2), .int .i64 2, .int .i64 0, .string ⟨#[101, 109, 105, 116]⟩, .int .i64 (-2), .int .i64 1, .int .i64 0, .string ⟨#[97, 98, 111, 114, 116]⟩, .int .i64 99, .int .i64 0, .int .i64 0, .string ⟨#[104, 97, 108, 116]⟩, .int .i64 (-2), .int .i64 0, .int .i64 0]
theorem zero_rows (w : World) : (zeroValue 90).run Try.prog w = .ok (.agg zeroA) w := by kernel_rfl

theorem Chg.setRow {w w' : World} {S : Nat → Prop} (h : Chg w w' S) {g : Nat} (hg : w.heap.size ≤ g) (cs : Array Value) : Chg w (w'.setRow g cs) S :=
  ⟨h.os, h.tape, h.output, by rw [size_setRow]; exact h.size, fun k hk hn => (setRow_other w' g k cs (by omega)).trans (h.block k hk hn)⟩

set_option maxHeartbeats 4000000 in
set_option maxRecDepth 100000 in
theorem rows_any (w : World) : Calls Try.prog 104 #[] w fun e w' => e = .returned (.agg rowsA) ∧ Chg w w' Nothing := by
  have hz := zero_rows
  have hn := heap_alloc_new w (.cells zeroA 90)
  go_enter Try.func104, Try.ntmps104
  go_wp2_with (first | (refine wpList_buildTo rfl 90 _ rfl (some 21) rfl rowsA (by kernel_rfl) ?_) | (refine wpList_store_rowTo rfl 90 _ _ rfl rfl w.heap.size rowsA rfl rfl _ zeroA hn (by kernel_rfl) (by kernel_rfl) (by kernel_rfl) ?_))
  exact bodyPost_ret (results_cell_row rfl _ _ w.heap.size 90 rowsA (0, 0) _ rfl (setRow_heap _ _ _ _ _ _ hn) Try.underlying90 rfl (by kernel_rfl)) rfl ⟨rfl, ((Chg.refl w Nothing).alloc _).setRow (Nat.le_refl _) _⟩

theorem twenty {op : Int} (h1 : 1 ≤ op) (h2 : op ≤ 20) : (op = 1 ∨ op = 2 ∨ op = 3 ∨ op = 4 ∨ op = 5) ∨ (op = 6 ∨ op = 7 ∨ op = 8 ∨ op = 9 ∨ op = 10) ∨ (op = 11 ∨ op = 12 ∨ op = 13 ∨ op = 14 ∨ op = 15) ∨ (op = 16 ∨ op = 17 ∨ op = 18 ∨ op = 19 ∨ op = 20) := by
  rcases (show op ≤ 5 ∨ (6 ≤ op ∧ op ≤ 10) ∨ (11 ≤ op ∧ op ≤ 15) ∨ 16 ≤ op by omega) with h | h | h | h
  · exact .inl (by omega)
  · exact .inr (.inl (by omega))
  · exact .inr (.inr (.inl (by omega)))
  · exact .inr (.inr (.inr (by omega)))
theorem index_1 (w : World) : (Instr.index 90 (.agg rowsA) (.int .i64 1)).run Try.prog w = .ok (.agg #[.string ⟨#[112, 117, 115, 104]⟩, .int .i64 (-2), .int .i64 0, .int .i64 1]) w := by kernel_rfl
theorem index_2 (w : World) : (Instr.index 90 (.agg rowsA) (.int .i64 2)).run Try.prog w = .ok (.agg #[.string ⟨#[100, 114, 111, 112]⟩, .int .i64 (-2), .int .i64 1, .int .i64 0]) w := by kernel_rfl
theorem index_3 (w : World) : (Instr.index 90 (.agg rowsA) (.int .i64 3)).run Try.prog w = .ok (.agg #[.string ⟨#[100, 117, 112]⟩, .int .i64 (-2), .int .i64 1, .int .i64 2]) w := by kernel_rfl
theorem index_4 (w : World) : (Instr.index 90 (.agg rowsA) (.int .i64 4)).run Try.prog w = .ok (.agg #[.string ⟨#[115, 119, 97, 112]⟩, .int .i64 (-2), .int .i64 2, .int .i64 2]) w := by kernel_rfl
theorem index_5 (w : World) : (Instr.index 90 (.agg rowsA) (.int .i64 5)).run Try.prog w = .ok (.agg #[.string ⟨#[112, 105, 99, 107]⟩, .int .i64 63, .int .i64 0, .int .i64 1]) w := by kernel_rfl
theorem index_6 (w : World) : (Instr.index 90 (.agg rowsA) (.int .i64 6)).run Try.prog w = .ok (.agg #[.string ⟨#[97, 114, 103]⟩, .int .i64 7, .int .i64 0, .int .i64 1]) w := by kernel_rfl
theorem index_7 (w : World) : (Instr.index 90 (.agg rowsA) (.int .i64 7)).run Try.prog w = .ok (.agg #[.string ⟨#[103, 101, 116]⟩, .int .i64 7, .int .i64 0, .int .i64 1]) w := by kernel_rfl
theorem index_8 (w : World) : (Instr.index 90 (.agg rowsA) (.int .i64 8)).run Try.prog w = .ok (.agg #[.string ⟨#[115, 101, 116]⟩, .int .i64 7, .int .i64 1, .int .i64 0]) w := by kernel_rfl
theorem index_9 (w : World) : (Instr.index 90 (.agg rowsA) (.int .i64 9)).run Try.prog w = .ok (.agg #[.string ⟨#[]⟩, .int .i64 8, .int .i64 1, .int .i64 1]) w := by kernel_rfl
theorem index_10 (w : World) : (Instr.index 90 (.agg rowsA) (.int .i64 10)).run Try.prog w = .ok (.agg #[.string ⟨#[]⟩, .int .i64 12, .int .i64 2, .int .i64 1]) w := by kernel_rfl
theorem index_11 (w : World) : (Instr.index 90 (.agg rowsA) (.int .i64 11)).run Try.prog w = .ok (.agg #[.string ⟨#[106, 117, 109, 112]⟩, .int .i64 (-1), .int .i64 0, .int .i64 0]) w := by kernel_rfl
theorem index_12 (w : World) : (Instr.index 90 (.agg rowsA) (.int .i64 12)).run Try.prog w = .ok (.agg #[.string ⟨#[105, 102]⟩, .int .i64 (-1), .int .i64 1, .int .i64 0]) w := by kernel_rfl
theorem index_13 (w : World) : (Instr.index 90 (.agg rowsA) (.int .i64 13)).run Try.prog w = .ok (.agg #[.string ⟨#[117, 110, 108, 101, 115, 115]⟩, .int .i64 (-1), .int .i64 1, .int .i64 0]) w := by kernel_rfl
theorem index_14 (w : World) : (Instr.index 90 (.agg rowsA) (.int .i64 14)).run Try.prog w = .ok (.agg #[.string ⟨#[99, 97, 108, 108]⟩, .int .i64 (-1), .int .i64 0, .int .i64 0]) w := by kernel_rfl
theorem index_15 (w : World) : (Instr.index 90 (.agg rowsA) (.int .i64 15)).run Try.prog w = .ok (.agg #[.string ⟨#[114, 101, 116]⟩, .int .i64 (-2), .int .i64 0, .int .i64 0]) w := by kernel_rfl
theorem index_16 (w : World) : (Instr.index 90 (.agg rowsA) (.int .i64 16)).run Try.prog w = .ok (.agg #[.string ⟨#[114, 101, 97, 100]⟩, .int .i64 (-2), .int .i64 1, .int .i64 1]) w := by kernel_rfl
theorem index_17 (w : World) : (Instr.index 90 (.agg rowsA) (.int .i64 17)).run Try.prog w = .ok (.agg #[.string ⟨#[119, 114, 105, 116, 101]⟩, .int .i64 (-2), .int .i64 2, .int .i64 0]) w := by kernel_rfl
theorem index_18 (w : World) : (Instr.index 90 (.agg rowsA) (.int .i64 18)).run Try.prog w = .ok (.agg #[.string ⟨#[101, 109, 105, 116]⟩, .int .i64 (-2), .int .i64 1, .int .i64 0]) w := by kernel_rfl
theorem index_19 (w : World) : (Instr.index 90 (.agg rowsA) (.int .i64 19)).run Try.prog w = .ok (.agg #[.string ⟨#[97, 98, 111, 114, 116]⟩, .int .i64 99, .int .i64 0, .int .i64 0]) w := by kernel_rfl
theorem index_20 (w : World) : (Instr.index 90 (.agg rowsA) (.int .i64 20)).run Try.prog w = .ok (.agg #[.string ⟨#[104, 97, 108, 116]⟩, .int .i64 (-2), .int .i64 0, .int .i64 0]) w := by kernel_rfl
theorem index_rows {op : Int} (h1 : 1 ≤ op) (h2 : op ≤ 20) : ∃ ws, ∀ w, (Instr.index 90 (.agg rowsA) (.int .i64 op)).run Try.prog w = .ok (.agg #[.string ws, .int .i64 (mostOf op), .int .i64 (takesOf op), .int .i64 (laysOf op)]) w := by
  rcases twenty h1 h2 with (rfl | rfl | rfl | rfl | rfl) | (rfl | rfl | rfl | rfl | rfl) | (rfl | rfl | rfl | rfl | rfl) | (rfl | rfl | rfl | rfl | rfl)
  · exact ⟨_, index_1⟩
  · exact ⟨_, index_2⟩
  · exact ⟨_, index_3⟩
  · exact ⟨_, index_4⟩
  · exact ⟨_, index_5⟩
  · exact ⟨_, index_6⟩
  · exact ⟨_, index_7⟩
  · exact ⟨_, index_8⟩
  · exact ⟨_, index_9⟩
  · exact ⟨_, index_10⟩
  · exact ⟨_, index_11⟩
  · exact ⟨_, index_12⟩
  · exact ⟨_, index_13⟩
  · exact ⟨_, index_14⟩
  · exact ⟨_, index_15⟩
  · exact ⟨_, index_16⟩
  · exact ⟨_, index_17⟩
  · exact ⟨_, index_18⟩
  · exact ⟨_, index_19⟩
  · exact ⟨_, index_20⟩
theorem field_row (ws : ByteArray) (m t l : Int) (w : World) : (Instr.field 89 (.agg #[.string ws, .int .i64 m, .int .i64 t, .int .i64 l]) 1).run Try.prog w = .ok (.int .i64 m) w := by kernel_rfl
theorem field_takes (ws : ByteArray) (m t l : Int) (w : World) : (Instr.field 89 (.agg #[.string ws, .int .i64 m, .int .i64 t, .int .i64 l]) 2).run Try.prog w = .ok (.int .i64 t) w := by kernel_rfl
theorem field_lays (ws : ByteArray) (m t l : Int) (w : World) : (Instr.field 89 (.agg #[.string ws, .int .i64 m, .int .i64 t, .int .i64 l]) 3).run Try.prog w = .ok (.int .i64 l) w := by kernel_rfl
theorem most_kinds {op : Int} (h1 : 1 ≤ op) (h2 : op ≤ 20) : (mostOf op = -2 ∧ op ≠ 9 ∧ op ≠ 10) ∨ (mostOf op = -1 ∧ op ≠ 9 ∧ op ≠ 10) ∨ (0 ≤ mostOf op) := by
  rcases twenty h1 h2 with (rfl | rfl | rfl | rfl | rfl) | (rfl | rfl | rfl | rfl | rfl) | (rfl | rfl | rfl | rfl | rfl) | (rfl | rfl | rfl | rfl | rfl) <;> decide

/-- Whether an instruction may be, in a program of so many. -/
def mayB (op n : Int) (x : Nat) (len : Int) : Bool :=
  decide (1 ≤ op) && (decide (op ≤ 20) && ((op == 1 || ((fixB x : Int) == 0)) &&
    (if mostOf op == -2 then n == 0 else if mostOf op == -1 then decide (0 ≤ n) && decide (n < len) else if op == 9 || op == 10 then decide (1 ≤ n) && decide (n ≤ mostOf op) else decide (0 ≤ n) && decide (n ≤ mostOf op))))

theorem may_low (op n : Int) (x : Nat) (len : Int) (w : World) (h : op ≤ 0) : Calls Try.prog 73 #[.agg #[.int .i64 op, .int .i64 n, .float .f64 x], .int .i64 len] w fun e w' => e = .returned (.bool false) ∧ Chg w w' Nothing := by
  have b1 : decide (op ≤ 0) = true := decide_eq_true h
  clear h
  go_enter Try.func73, Try.ntmps73
  go_wp2_with fail
  go_ret
  exact ⟨rfl, (Chg.refl _ _).alloc _⟩
theorem may_high (op n : Int) (x : Nat) (len : Int) (w : World) (h : 20 < op) : Calls Try.prog 73 #[.agg #[.int .i64 op, .int .i64 n, .float .f64 x], .int .i64 len] w fun e w' => e = .returned (.bool false) ∧ Chg w w' Nothing := by
  have b1 : decide (op ≤ 0) = false := decide_eq_false (by omega)
  have b2 : decide (20 < op) = true := decide_eq_true h
  clear h
  go_enter Try.func73, Try.ntmps73
  go_wp2_with fail
  go_ret
  exact ⟨rfl, (Chg.refl _ _).alloc _⟩
theorem fix_zero' : fixB 0 = 0 := by decide
theorem may_not (op n : Int) (x : Nat) (len : Int) (w : World) (h1 : 1 ≤ op) (h2 : op ≤ 20) (h3 : op ≠ 1) (h4 : ((fixB x : Int) == 0) = false) : Calls Try.prog 73 #[.agg #[.int .i64 op, .int .i64 n, .float .f64 x], .int .i64 len] w fun e w' => e = .returned (.bool false) ∧ Chg w w' Nothing := by
  have b1 : decide (op ≤ 0) = false := decide_eq_false (by omega)
  have b2 : decide (20 < op) = false := decide_eq_false (by omega)
  have b3 : (op != 1) = true := by simpa using h3
  have H4 := Lib.hid h4
  clear h1 h2 h3 h4
  go_enter Try.func73, Try.ntmps73
  go_wp2_with fail
  refine (same_any _ _ _).mono ?_
  rintro e w1 ⟨rfl, rfl⟩
  have h5 : ((fixB x : Int) == (fixB 0 : Int)) = false := by rw [fix_zero']; exact H4.out
  go_wp2_with fail
  go_ret
  exact ⟨rfl, (Chg.refl _ _).alloc _⟩
theorem box_at (w : World) (cs : Array Value) (T : TypeId) {w0 w1 : World} (hc : Chg w0 w1 Nothing) (h0 : w0.heap = (w.alloc (.cells cs T)).heap) (j : Nat) {v : Value} (hv : cs[j]? = some v) : w1.cell? ⟨w.heap.size, j, none⟩ = some v := by
  refine hc.cell ?_ id
  have : w0.cell? ⟨w.heap.size, j, none⟩ = (w.alloc (.cells cs T)).cell? ⟨w.heap.size, j, none⟩ := World.cell?_of_block (by rw [h0])
  rw [this, blk_cell (heap_alloc_new w _)]
  exact hv
theorem box_chg (w : World) (o : Obj) {w0 w1 : World} (hc : Chg w0 w1 Nothing) (h0 : w0.heap = (w.alloc o).heap) (h1 : w0.os = w.os) (h2 : w0.tape = w.tape) (h3 : w0.output = w.output) : Chg w w1 Nothing :=
  Chg.trans (w1 := w0) ⟨h1, h2, h3, by rw [h0]; simp, fun k hk _ => by rw [h0]; exact Below.heap_alloc _ _ _ hk⟩ hc (fun _ _ h => h)
set_option maxHeartbeats 1000000 in
theorem may_one (n : Int) (x : Nat) (len : Int) (w : World) : Calls Try.prog 73 #[.agg #[.int .i64 1, .int .i64 n, .float .f64 x], .int .i64 len] w fun e w' => e = .returned (.bool (n == 0)) ∧ Chg w w' Nothing := by
  obtain ⟨ws, hidx⟩ := index_rows (op := 1) (by decide) (by decide)
  have hm : mostOf 1 = -2 := by decide
  rw [hm] at hidx
  have hfl := field_row
  go_enter Try.func73, Try.ntmps73
  go_wp2_with fail
  go_region_law (first | (go_simp; go_at_call 104; refine (rows_any _).mono ?_; rintro e w1 ⟨rfl, hc⟩; have d0 := box_at w #[.int .i64 1, .int .i64 n, .float .f64 x] 84 hc rfl 0 rfl; have d1 := box_at w #[.int .i64 1, .int .i64 n, .float .f64 x] 84 hc rfl 1 rfl))
  all_goals
    have HC := Lib.hid (box_chg w _ hc rfl rfl rfl rfl)
    clear hc
    go_wp2_with fail
    go_ret
    exact ⟨rfl, HC.out⟩
set_option maxHeartbeats 1000000 in
theorem may_none (op n : Int) (x : Nat) (len : Int) (w : World) (h1 : 1 ≤ op) (h2 : op ≤ 20) (h3 : op ≠ 1) (h4 : ((fixB x : Int) == 0) = true) (hm : mostOf op = -2) : Calls Try.prog 73 #[.agg #[.int .i64 op, .int .i64 n, .float .f64 x], .int .i64 len] w fun e w' => e = .returned (.bool (n == 0)) ∧ Chg w w' Nothing := by
  obtain ⟨ws, hidx⟩ := index_rows h1 h2
  have b1 : decide (op ≤ 0) = false := decide_eq_false (by omega)
  have b2 : decide (20 < op) = false := decide_eq_false (by omega)
  have b3 : (op != 1) = true := by simpa using h3
  have H4 := Lib.hid h4
  have b5 : (mostOf op == -2) = true := by simpa using hm
  clear h1 h2 h3 h4 hm 
  generalize mostOf op = M at *
  generalize takesOf op = TK at *
  generalize laysOf op = LY at *
  have hfl := field_row
  go_enter Try.func73, Try.ntmps73
  go_wp2_with fail
  refine (same_any _ _ _).mono ?_
  rintro e w9 ⟨rfl, rfl⟩
  have h5 : ((fixB x : Int) == (fixB 0 : Int)) = true := by rw [fix_zero']; exact H4.out
  go_wp2_with fail
  go_region_law (first | (go_simp; go_at_call 104; refine (rows_any _).mono ?_; rintro e w1 ⟨rfl, hc⟩; have d0 := box_at w #[.int .i64 op, .int .i64 n, .float .f64 x] 84 hc rfl 0 rfl; have d1 := box_at w #[.int .i64 op, .int .i64 n, .float .f64 x] 84 hc rfl 1 rfl))
  all_goals
    have HC := Lib.hid (box_chg w _ hc rfl rfl rfl rfl)
    clear hc
    go_wp2_with fail
    all_goals
      go_ret
      first
        | exact ⟨rfl, HC.out⟩
        | exact ⟨by rw [decide_eq_true (show (0 : Int) ≤ n by omega)]; rfl, HC.out⟩
        | exact ⟨by rw [decide_eq_false (show ¬ (0 : Int) ≤ n by omega)]; rfl, HC.out⟩
        | exact ⟨by rw [decide_eq_true (show (1 : Int) ≤ n by omega)]; rfl, HC.out⟩
        | exact ⟨by rw [decide_eq_false (show ¬ (1 : Int) ≤ n by omega)]; rfl, HC.out⟩
set_option maxHeartbeats 1000000 in
theorem may_place (op n : Int) (x : Nat) (len : Int) (w : World) (h1 : 1 ≤ op) (h2 : op ≤ 20) (h3 : op ≠ 1) (h4 : ((fixB x : Int) == 0) = true) (hm : mostOf op = -1) : Calls Try.prog 73 #[.agg #[.int .i64 op, .int .i64 n, .float .f64 x], .int .i64 len] w fun e w' => e = .returned (.bool (decide (0 ≤ n) && decide (n < len))) ∧ Chg w w' Nothing := by
  obtain ⟨ws, hidx⟩ := index_rows h1 h2
  have b1 : decide (op ≤ 0) = false := decide_eq_false (by omega)
  have b2 : decide (20 < op) = false := decide_eq_false (by omega)
  have b3 : (op != 1) = true := by simpa using h3
  have H4 := Lib.hid h4
  have b5 : (mostOf op == -2) = false := by simp; omega
  have b6 : (mostOf op == -1) = true := by simpa using hm
  clear h1 h2 h3 h4 hm 
  generalize mostOf op = M at *
  generalize takesOf op = TK at *
  generalize laysOf op = LY at *
  have hfl := field_row
  go_enter Try.func73, Try.ntmps73
  go_wp2_with fail
  refine (same_any _ _ _).mono ?_
  rintro e w9 ⟨rfl, rfl⟩
  have h5 : ((fixB x : Int) == (fixB 0 : Int)) = true := by rw [fix_zero']; exact H4.out
  go_wp2_with fail
  go_region_law (first | (go_simp; go_at_call 104; refine (rows_any _).mono ?_; rintro e w1 ⟨rfl, hc⟩; have d0 := box_at w #[.int .i64 op, .int .i64 n, .float .f64 x] 84 hc rfl 0 rfl; have d1 := box_at w #[.int .i64 op, .int .i64 n, .float .f64 x] 84 hc rfl 1 rfl))
  all_goals
    have HC := Lib.hid (box_chg w _ hc rfl rfl rfl rfl)
    clear hc
    go_wp2_with fail
    all_goals
      go_ret
      first
        | exact ⟨rfl, HC.out⟩
        | exact ⟨by rw [decide_eq_true (show (0 : Int) ≤ n by omega)]; rfl, HC.out⟩
        | exact ⟨by rw [decide_eq_false (show ¬ (0 : Int) ≤ n by omega)]; rfl, HC.out⟩
        | exact ⟨by rw [decide_eq_true (show (1 : Int) ≤ n by omega)]; rfl, HC.out⟩
        | exact ⟨by rw [decide_eq_false (show ¬ (1 : Int) ≤ n by omega)]; rfl, HC.out⟩
set_option maxHeartbeats 1000000 in
theorem may_two (op n : Int) (x : Nat) (len : Int) (w : World) (h1 : 1 ≤ op) (h2 : op ≤ 20) (h3 : op ≠ 1) (h4 : ((fixB x : Int) == 0) = true) (hm : 0 ≤ mostOf op) (h9 : op = 9 ∨ op = 10) : Calls Try.prog 73 #[.agg #[.int .i64 op, .int .i64 n, .float .f64 x], .int .i64 len] w fun e w' => e = .returned (.bool (decide (1 ≤ n) && decide (n ≤ mostOf op))) ∧ Chg w w' Nothing := by
  obtain ⟨ws, hidx⟩ := index_rows h1 h2
  have b1 : decide (op ≤ 0) = false := decide_eq_false (by omega)
  have b2 : decide (20 < op) = false := decide_eq_false (by omega)
  have b3 : (op != 1) = true := by simpa using h3
  have H4 := Lib.hid h4
  have b5 : (mostOf op == -2) = false := by simp; omega
  have b6 : (mostOf op == -1) = false := by simp; omega
  have b7 : (op == 9 || op == 10) = true := by rcases h9 with rfl | rfl <;> rfl
  clear h1 h2 h3 h4 hm h9
  generalize mostOf op = M at *
  generalize takesOf op = TK at *
  generalize laysOf op = LY at *
  have hfl := field_row
  go_enter Try.func73, Try.ntmps73
  go_wp2_with fail
  refine (same_any _ _ _).mono ?_
  rintro e w9 ⟨rfl, rfl⟩
  have h5 : ((fixB x : Int) == (fixB 0 : Int)) = true := by rw [fix_zero']; exact H4.out
  go_wp2_with fail
  go_region_law (first | (go_simp; go_at_call 104; refine (rows_any _).mono ?_; rintro e w1 ⟨rfl, hc⟩; have d0 := box_at w #[.int .i64 op, .int .i64 n, .float .f64 x] 84 hc rfl 0 rfl; have d1 := box_at w #[.int .i64 op, .int .i64 n, .float .f64 x] 84 hc rfl 1 rfl))
  all_goals
    have HC := Lib.hid (box_chg w _ hc rfl rfl rfl rfl)
    clear hc
    go_wp2_with fail
    all_goals
      go_ret
      first
        | exact ⟨rfl, HC.out⟩
        | exact ⟨by rw [decide_eq_true (show (0 : Int) ≤ n by omega)]; rfl, HC.out⟩
        | exact ⟨by rw [decide_eq_false (show ¬ (0 : Int) ≤ n by omega)]; rfl, HC.out⟩
        | exact ⟨by rw [decide_eq_true (show (1 : Int) ≤ n by omega)]; rfl, HC.out⟩
        | exact ⟨by rw [decide_eq_false (show ¬ (1 : Int) ≤ n by omega)]; rfl, HC.out⟩
set_option maxHeartbeats 1000000 in
theorem may_rest (op n : Int) (x : Nat) (len : Int) (w : World) (h1 : 1 ≤ op) (h2 : op ≤ 20) (h3 : op ≠ 1) (h4 : ((fixB x : Int) == 0) = true) (hm : 0 ≤ mostOf op) (h9 : op ≠ 9) (h10 : op ≠ 10) : Calls Try.prog 73 #[.agg #[.int .i64 op, .int .i64 n, .float .f64 x], .int .i64 len] w fun e w' => e = .returned (.bool (decide (0 ≤ n) && decide (n ≤ mostOf op))) ∧ Chg w w' Nothing := by
  obtain ⟨ws, hidx⟩ := index_rows h1 h2
  have b1 : decide (op ≤ 0) = false := decide_eq_false (by omega)
  have b2 : decide (20 < op) = false := decide_eq_false (by omega)
  have b3 : (op != 1) = true := by simpa using h3
  have H4 := Lib.hid h4
  have b5 : (mostOf op == -2) = false := by simp; omega
  have b6 : (mostOf op == -1) = false := by simp; omega
  have b7 : (op == 9) = false := by simpa using h9
  have b8 : (op == 10) = false := by simpa using h10
  clear h1 h2 h3 h4 hm h9 h10
  generalize mostOf op = M at *
  generalize takesOf op = TK at *
  generalize laysOf op = LY at *
  have hfl := field_row
  go_enter Try.func73, Try.ntmps73
  go_wp2_with fail
  refine (same_any _ _ _).mono ?_
  rintro e w9 ⟨rfl, rfl⟩
  have h5 : ((fixB x : Int) == (fixB 0 : Int)) = true := by rw [fix_zero']; exact H4.out
  go_wp2_with fail
  go_region_law (first | (go_simp; go_at_call 104; refine (rows_any _).mono ?_; rintro e w1 ⟨rfl, hc⟩; have d0 := box_at w #[.int .i64 op, .int .i64 n, .float .f64 x] 84 hc rfl 0 rfl; have d1 := box_at w #[.int .i64 op, .int .i64 n, .float .f64 x] 84 hc rfl 1 rfl))
  all_goals
    have HC := Lib.hid (box_chg w _ hc rfl rfl rfl rfl)
    clear hc
    go_wp2_with fail
    all_goals
      go_ret
      first
        | exact ⟨rfl, HC.out⟩
        | exact ⟨by rw [decide_eq_true (show (0 : Int) ≤ n by omega)]; rfl, HC.out⟩
        | exact ⟨by rw [decide_eq_false (show ¬ (0 : Int) ≤ n by omega)]; rfl, HC.out⟩
        | exact ⟨by rw [decide_eq_true (show (1 : Int) ≤ n by omega)]; rfl, HC.out⟩
        | exact ⟨by rw [decide_eq_false (show ¬ (1 : Int) ≤ n by omega)]; rfl, HC.out⟩
end Go.Proofs.Ytjjkjcoebbjgcaa
