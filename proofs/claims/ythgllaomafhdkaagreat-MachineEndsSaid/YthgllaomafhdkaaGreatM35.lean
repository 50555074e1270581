/- MachineEnds: the walk, whole. -/
import Derived.Test.YthgllaomafhdkaaGreatM31
import Derived.Test.YthgllaomafhdkaaGreatM33
namespace Go.Proofs.YthgllaomafhdkaaGreat
open Go Go.RowKit
set_option maxRecDepth 100000
set_option maxHeartbeats 1000000
set_option linter.unusedVariables false
set_option linter.unusedSimpArgs false

theorem ends_walk (c t f r : Int) (tag : Int) (ac : Option Addr) (cc : Nat) (code : List Ins) (aa : Option Addr) (na : Nat) (args : List Nat) (af : Option Addr) (nf : Nat) (feed : List Nat) (w : World)
    (hb : code.length * 24 ≤ 140737488355328) (hs : Sees w ac (insV code)) (hc : (∀ k, CodeB ac code k → k < w.heap.size) ∧ RRow w (CodeB ac code) (.slice ac code.length cc) code.length 3 (insV code)) (ha : Sees w aa (args.map fl)) (hf : Sees w af (feed.map fl)) (hfl : feed.length ≤ 9223372036854775807)
    (hx : ∀ i ∈ code, i.2.2 < 18446744073709551616) (hax : ∀ y ∈ args, y < 18446744073709551616) (hfx : ∀ y ∈ feed, y < 18446744073709551616) :
    Calls Tryz.prog 4 #[.agg #[.int .i64 c, .int .i64 t, .int .i64 f, .int .i64 r], .agg #[.int .i64 tag, .slice ac code.length cc], .slice aa args.length na, .slice af feed.length nf] w fun e w' => e = .returned (.bool true) ∧ Chg w w' Nothing := by
  by_cases htag : tag = 2
  · exact ends_upd c t f r tag htag ac cc code aa na args af nf feed w hb hs hc ha hf hfl hx hax hfx
  · exact ends_rd c t f r tag htag ac cc code aa na args af nf feed w hb hs hc ha hf hfl hx hax hfx
end Go.Proofs.YthgllaomafhdkaaGreat
