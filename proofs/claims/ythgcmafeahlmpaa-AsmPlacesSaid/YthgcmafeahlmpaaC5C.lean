/- A program's error: the document's walk. -/
import Derived.Test.YthgcmafeahlmpaaC5B
namespace Go.Proofs.Ythgcmafeahlmpaa
open Go Go.RowKit
set_option linter.unusedVariables false
set_option linter.unusedSimpArgs false

def loL : List Int := [0, 0, 0, 0, 0, 0, 0, 0, 0, 1, 1, -1, -1, -1, -1, 0, 0, 0, 0, 0, 0]
def hiL : List Int := [0, 0, 0, 0, 0, 63, 7, 7, 7, 8, 12, -1, -1, -1, -1, 0, 0, 0, 0, 99, 0]
def loOf (op : Int) : Int := loL.getD op.toNat 0
def hiOf (op : Int) : Int := hiL.getD op.toNat 0
def rowsR : Array Value := #[.string ⟨#[]⟩, .int .i64 0, .int .i64 0, .int .i64 0, .int .i64 0, .string ⟨#[112, 117, 115, 104]⟩, .int .i64 0, .int .i64 0, .int .i64 0, .int .i64 1, .string ⟨#[100, 114, 111, 112]⟩, .int .i64 0, .int .i64 0, .int .i64 1, .int .i64 0, .string ⟨#[100, 117, 112]⟩, .int .i64 0, .int .i64 0, .int .i64 1, .int .i64 2, .string ⟨#[115, 119, 97, 112]⟩, .int .i64 0, .int .i64 0, .int .i64 2, .int .i64 2, .string ⟨#[112, 105, 99, 107]⟩, .int .i64 0, .int .i64 63, .int .i64 0, .int .i64 1, .string ⟨#[97, 114, 103]⟩, .int .i64 0, .int .i64 7, .int .i64 0, .int .i64 1, .string ⟨#[103, 101, 116]⟩, .int .i64 0, .int .i64 7, .int .i64 0, .int .i64 1, .string ⟨#[115, 101, 116]⟩, .int .i64 0, .int .i64 7, .int .i64 1, .int .i64 0, .string ⟨#[]⟩, .int .i64 1, .int .i64 8, .int .i64 1, .int .i64 1, .string ⟨#[]⟩, .int .i64 1, .int .i64 12, .int .i64 2, .int .i64 1, .string ⟨#[106, 117, 109, 112]⟩, .int .i64 (-1), .int .i64 (-1), .int .i64 0, .int .i64 0, .string ⟨#[105, 102]⟩, .int .i64 (-1), .int .i64 (-1), .int .i64 1, .int .i64 0, .string ⟨#[117, 110, 108, 101, 115, 115]⟩, .int .i64 (-1), .int .i64 (-1), .int .i64 1, .int .i64 0, .string ⟨#[99, 97, 108, 108]⟩, .int .i64 (-1), .int .i64 (-1), .int .i64 0, .int .i64 0, .string ⟨#[114, 101, 116]⟩, .int .i64 0, .int .i64 0, .int .i64 0, .int .i64 0, .string ⟨#[114, 101, 97, 100]⟩, .int .i64 0, .int .i64 0, .int .i64 1, .int .i64 1, .string ⟨#[119, 114, 105, 116, 101]⟩, .int .i64 0, .int .i64 0, .int .i64 2, .int .i64 0, .string ⟨#[101, 109, 105, 116]⟩, .int .i64 0, .int .i64 0, .int .i64 1, .int .i64 0, .string ⟨#[97, 98, 111, 114, 116]⟩, .int .i64 0, .int .i64 99, .int .i64 0, .int .i64 0, .string ⟨#[104, 97, 108, 116]⟩, .int .i64 0, .int .i64 0, .int .i64 0, .int .i64 0]

set_option maxHeartbeats 4000000 in
set_option maxRecDepth 100000 in
theorem rrows_run (w : World) : Calls Try.prog 31 #[] w fun e w' => e = .returned (.slice (some ⟨w.heap.size, 0, none⟩) 21 21) ∧ w' = w.alloc (.cells rowsR 69) := by
  obtain ⟨i, hi, hz, hsize, hby⟩ := info_parts (show (Try.prog.info? 69).map (fun i => (i.zero, i.size, i.bytes)) = some (some (.agg #[.string ⟨#[]⟩, .int .i64 0, .int .i64 0, .int .i64 0, .int .i64 0]), 5, 48) by kernel_rfl)
  go_enter Try.func31, Try.ntmps31
  go_wp2_with (first | (refine wpList_buildSlice rfl 70 69 21 _ rfl rowsR i _ Try.underlying70 hi hz (by rw [hsize]; decide) (by rw [hsize]; decide) (by rw [hsize]; kernel_rfl) ?_))
  go_ret
  exact ⟨rfl, rfl⟩
theorem rrows_any (w : World) : Calls Try.prog 31 #[] w fun e w' => ∃ g, e = .returned (.slice (some ⟨g, 0, none⟩) 21 21) ∧ Chg w w' Nothing ∧ w.heap.size ≤ g ∧ ∀ j v, rowsR[j]? = some v → w'.cell? ⟨g, j, none⟩ = some v :=
  (rrows_run w).mono fun e w' ⟨h1, h2⟩ => ⟨w.heap.size, h1, by rw [h2]; exact (Chg.refl _ _).alloc _, Nat.le_refl _, fun j v hv => by rw [h2, blk_cell (heap_alloc_new w _)]; exact hv⟩
end Go.Proofs.Ythgcmafeahlmpaa
