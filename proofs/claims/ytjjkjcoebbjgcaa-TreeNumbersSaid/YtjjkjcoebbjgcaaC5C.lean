/- A program's error: the document's walk. -/
import Derived.Test.YtjjkjcoebbjgcaaC5B
namespace Go.Proofs.Ytjjkjcoebbjgcaa
open Go Go.RowKit
set_option maxRecDepth 100000
set_option maxHeartbeats 1000000
set_option linter.unusedVariables false
set_option linter.unusedSimpArgs false

def loL : List Int := [0, 0, 0, 0, 0, 0, 0, 0, 0, 1, 1, -1, -1, -1, -1, 0, 0, 0, 0, 0, 0]
def hiL : List Int := [0, 0, 0, 0, 0, 63, 7, 7, 7, 8, 12, -1, -1, -1, -1, 0, 0, 0, 0, 99, 0]
def loOf (op : Int) : Int := loL.getD op.toNat 0
def hiOf (op : Int) : Int := hiL.getD op.toNat 0
def rowsR : Array Value := #[.string ⟨#[]⟩, .int .i64 0, .int .i64 0, .int .i64 0, .int .i64 0, .string ⟨#[112, 117, 115, 104]⟩, .int .i64 0, .int .i64 0, .int .i64 0, .int .i64 1, .string ⟨#[100, 114, 111, 112]⟩, .int .i64 0, .int .i64 0, .int .i64 1, .int .i64 0, .string ⟨#[100, 117, 112]⟩, .int .i64 0, .int .i64 0, .int .i64 1, .int .i64 2, .string ⟨#[115, 119, 97, 112]⟩, .int .i64 0, .int .i64 0, .int .i64 2, .int .i64 2, .string ⟨#[112, 105, 99, 107]⟩, .int .i64 0, .int .i64 63, .int .i64 0, .int .i64 1, .string ⟨#[97, 114, 103]⟩, .int .i64 0, .int .i64 7, .int .i64 0, .int .i64 1, .string ⟨#[103, 101, 116]⟩, .int .i64 0, .int .i64 7, .int .i64 0, .int .i64 1, .string ⟨#[115, 101, 116]⟩, .int .i64 0, .int .i64 7, .int .i64 1, .int .i64 0, .string ⟨#[]⟩, .int .i64 1, .int .i64 8, .int .i64 1, .int .i64 1, .string ⟨#[]⟩, .int .i64 1, .int .i64 12, .int .i64 2, .int .i64 1, .string ⟨#[106, 117, 109, 112]⟩, .int .i64 (-1), .int .i64 (-1), .int .i64 0, .int .i64 0, .string ⟨#[105, 102]⟩, .int .i64 (-1), .int .i64 (-1), .int .i64 1, .int .i64 0, .string ⟨#[117, 110, 108, 101, 115, 115]⟩, .int .i64 (-1), .int .i64 (-1), .int .i64 1, .int .i64 0, .string ⟨#[99, 97, 108, 108]⟩, .int .i64 (-1), .int .i64 (-1), .int .i64 0, .int .i64 0, .string ⟨#[114, 101, 116]⟩, .int .i64 0, .int .i64 0, .int .i64 0, .int .i64 0, .string ⟨#[114, 101, 97, 100]⟩, .int .i64 0, .int .i64 0, .int .i64 1, .int .i64 1, .string ⟨#[119, 114, 105, 116, 101]⟩, .int .i64 0, .int .i64 0, .int .i64 2, .int .i64 0, .string ⟨#[101, 109, 105, 116]⟩, .int .i64 0, .int .i64 0, .int .i64 1, .int .i64 0, .string ⟨#[97, 98, 111, 114, 116]⟩, .int .i64 0, .int .i64 99, .int .i64 0, .int .i64 0, .string ⟨#[104, 97, 108, 116]⟩, .int .i64 0, .int .i64 0, .int .i64 0, .int .i64 0]

end Go.Proofs.Ytjjkjcoebbjgcaa
