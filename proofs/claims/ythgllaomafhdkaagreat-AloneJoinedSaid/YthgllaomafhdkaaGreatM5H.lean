/- Layer 9's laws: numbers, spoils. -/
import Derived.Test.YthgllaomafhdkaaGreatM47
import Derived.Test.YthgllaomafhdkaaGreatSee
import Derived.Test.YthgllaomafhdkaaGreatSpl
namespace Go.Proofs.YthgllaomafhdkaaGreat
open Go Go.RowKit
set_option maxRecDepth 100000
set_option maxHeartbeats 1000000
set_option linter.unusedVariables false
set_option linter.unusedSimpArgs false

/-- The first m of them fixed. -/
def fixTo (fs : List Nat) (m : Nat) : List Nat := (fs.take m).map fixB ++ fs.drop m
theorem fixTo_len (fs : List Nat) (m : Nat) : (fixTo fs m).length = fs.length := by
  unfold fixTo
  rw [List.length_append, List.length_map, ← List.length_append, List.take_append_drop]
theorem fixTo_at {fs : List Nat} {m y : Nat} (h : fs[m]? = some y) : (fixTo fs m)[m]? = some y ∧ (fixTo fs m).set m (fixB y) = fixTo fs (m + 1) := by
  have hl := (List.getElem?_eq_some_iff.1 h).1
  have hy := (List.getElem?_eq_some_iff.1 h).2
  have e1 : fs.drop m = y :: fs.drop (m + 1) := by rw [List.drop_eq_getElem_cons hl, hy]
  have e2 : fs.take (m + 1) = fs.take m ++ [y] := by rw [List.take_add_one, h]; rfl
  have e3 : ((fs.take m).map fixB).length = m := by rw [List.length_map, List.length_take]; omega
  unfold fixTo
  rw [e1, e2]
  constructor
  · rw [List.getElem?_append_right (by omega), e3, Nat.sub_self]; rfl
  · rw [List.set_append_right _ _ (by omega), e3, Nat.sub_self, List.map_append, List.append_assoc]; rfl
theorem set_same09 {l : List Nat} {m y : Nat} (h : l[m]? = some y) : l.set m y = l := by
  obtain ⟨hl, e⟩ := List.getElem?_eq_some_iff.1 h
  rw [← e]
  exact List.set_getElem_self hl
theorem fixTo_all (fs : List Nat) : fixTo fs fs.length = fs.map fixB := by unfold fixTo; rw [List.take_length, List.drop_length, List.append_nil]
theorem numbers09_any (aa : Option Addr) (na : Nat) (fs : List Nat) (w : World) (hs : Sees w aa (fs.map fl)) (haa : aa = none → na = 0) (hb : fs.length * 8 ≤ 140737488355328) :
    Calls Tryz.prog 39 #[.slice aa fs.length na] w fun e w' => ∃ a c, e = .returned (.slice a fs.length c) ∧ w'.ownsRow w.heap.size 33 1 (.slice a fs.length c) fs.length ((fs.map fixB).map fl) ∧ Chg w w' Nothing := by
  obtain ⟨iF, jF, jF2, jF3, jF4⟩ := info_parts (show (Tryz.prog.info? 33).map (fun i => (i.zero, i.size, i.bytes)) = some (some (fl 0), 1, 8) by kernel_rfl)
  have JF := Lib.hid (And.intro jF (And.intro jF2 (And.intro jF3 jF4)))
  have HS := Lib.hid hs
  have HAA := Lib.hid haa
  have HB := Lib.hid hb
  clear jF jF2 jF3 jF4 hs haa hb
  go_enter Tryz.func39, Tryz.ntmps39
  go_wp2_with (at_builtin; refine list_append_see rfl _ _ 27 rfl w.heap.size 33 iF (fl 0) 1 8 Tryz.underlying27 JF.out.1 JF.out.2.1 JF.out.2.2.1 JF.out.2.2.2 rfl (by decide) _ 0 [] rfl (World.ownsRow_nil _ _ _ _) aa fs.length na rfl (fs.map fl) (by simp) HS.out (fls_one fs) (by have := HB.out; unfold maxLen; omega) (by have := HB.out; omega) (Nat.le_refl _) HAA.out ?c1)
  case c1 =>
    intro v w2 o2 g2
    try simp only [Nat.zero_add, List.nil_append] at o2
    have C2 := Lib.hid (show Chg w w2 Nothing from (Chg.refl w Nothing).grown g2 (by intro k hk; simp [Value.ownBlock] at hk))
    have O2 := Lib.hid o2
    clear g2
    have hbl : fs.length ≤ 90000000000000000 := by have := HB.out; omega
    rcases Nat.eq_zero_or_pos fs.length with h0 | h0
    · obtain ⟨⟨a, c, rfl⟩, -⟩ := ownsRow_shape o2
      have E0 := Lib.hid (show (fs.map fixB).map fl = fs.map fl by rw [List.eq_nil_of_length_eq_zero h0]; rfl)
      have hd : decide ((0 : Nat) < fs.length) = false := decide_eq_false (by omega)
      have hd2 : decide ((0 : Int) < (fs.length : Int)) = false := decide_eq_false (by omega)
      clear o2
      go_wp2_with fail
      go_loopg [9] 0 (fun k i wr => i = .int .i64 0 ∧ wr = w2)
      case atStart => exact ⟨rfl, rfl⟩
      case round =>
        obtain ⟨rfl, rfl⟩ := hrel
        go_wp2_with fail
        go_ret
        exact ⟨_, _, rfl, by rw [E0.out]; exact O2.out, C2.out⟩
    · obtain ⟨⟨a, c, rfl⟩, hsh⟩ := ownsRow_shape o2
      obtain ⟨g, c2, hv⟩ := hsh h0
      injection hv with hv _ hv2
      subst hv hv2
      have HGW := Lib.hid (O2.out.lt g rfl)
      clear hsh o2
      go_wp2_with fail
      go_loopg [9] fs.length (fun k i wr => ∃ m : Nat, m + k = fs.length ∧ i = .int .i64 ((m : Nat) : Int) ∧ wr.ownsRow w.heap.size 33 1 (.slice (some ⟨g, 0, none⟩) fs.length c) fs.length ((fixTo fs m).map fl) ∧ Chg w2 wr (fun k => k = g))
      case atStart => exact ⟨0, by simp, rfl, O2.out, Chg.refl _ _⟩
      case round =>
        obtain ⟨m, hm, rfl, hrow, hc⟩ := hrel
        have RX := Lib.hid hrow
        have XC := Lib.hid hc
        clear hrow hc
        by_cases hlt : m < fs.length
        · have hd : decide (m < fs.length) = true := by simpa using hlt
          have hd2 : decide ((m : Int) < (fs.length : Int)) = true := decide_eq_true (by omega)
          have hmi : (m : Int) < (fs.length : Int) := by omega
          obtain ⟨y, hy⟩ : ∃ y, fs[m]? = some y := ⟨_, List.getElem?_eq_getElem hlt⟩
          obtain ⟨f1, f2⟩ := fixTo_at hy
          have x0 := RX.out.cells (g := g) rfl m (fl y) (by rw [List.getElem?_map, f1]; rfl)
          rw [Addr.add_lit, Nat.zero_add] at x0
          have f0 : wr.frozen? ⟨g, m, none⟩ = false := RX.out.frozenAt _
          have HX := Lib.hid (show fixB y = if nanB y then 9221120237041090560 else y from rfl)
          have F1 := Lib.hid f1
          have F2 := Lib.hid f2
          clear hy f1 f2
          by_cases hna : nanB y = true
          · have hnn : (FloatKind.f64.format.order y y != some .eq) = true := hna
            rw [if_pos hna] at HX
            have N1 := Lib.hid (show (wr.setCell ⟨g, m, none⟩ (fl 9221120237041090560)).ownsRow w.heap.size 33 1 (.slice (some ⟨g, 0, none⟩) fs.length c) fs.length ((fixTo fs (m + 1)).map fl) from by
              rw [← F2.out, List.map_set, HX.out]
              exact (RX.out.stored m (fl 9221120237041090560)).1)
            have N2 := Lib.hid (XC.out.setCell (a := ⟨g, m, none⟩) (.inr rfl) (fl 9221120237041090560))
            clear hna
            go_wp2_with fail
            go_quiet (fail)
            go_wp2_with fail
            go_roundg (gk - 1)
            case measure => omega
            case rel => exact ⟨m + 1, by omega, by go_num, N1.out, N2.out.drewN _⟩
          · have hnn : (FloatKind.f64.format.order y y != some .eq) = false := by simpa [nanB] using hna
            rw [if_neg hna] at HX
            have N1 := Lib.hid (show wr.ownsRow w.heap.size 33 1 (.slice (some ⟨g, 0, none⟩) fs.length c) fs.length ((fixTo fs (m + 1)).map fl) from by
              rw [← F2.out, HX.out, set_same09 F1.out]
              exact RX.out)
            clear hna
            go_wp2_with fail
            go_quiet (fail)
            go_wp2_with fail
            go_roundg (gk - 1)
            case measure => omega
            case rel => exact ⟨m + 1, by omega, by go_num, N1.out, XC.out.drewN _⟩
        · have hd : decide (m < fs.length) = false := by simpa using hlt
          have hd2 : decide ((m : Int) < (fs.length : Int)) = false := decide_eq_false (by omega)
          obtain rfl : m = fs.length := by omega
          have RZ := Lib.hid (show wr.ownsRow w.heap.size 33 1 (.slice (some ⟨g, 0, none⟩) fs.length c) fs.length ((fs.map fixB).map fl) from by have := RX.out; rwa [fixTo_all] at this)
          clear hm hlt
          go_wp2_with fail
          go_ret
          exact ⟨_, _, rfl, RZ.out, C2.out.trans XC.out (fun k hk e => by have := HGW.out; omega)⟩
theorem spoils09_any (h1 h2 h3 u : Int) (ao ar aw : Option Addr) (no co nr cr nw cw base : Nat) (w : World) (s1 : Spl w base w.heap.size 1 (.slice ao no co)) (s2 : Spl w base w.heap.size 2 (.slice ar nr cr)) (s3 : Spl w base w.heap.size 2 (.slice aw nw cw)) (hbw : base ≤ w.heap.size) :
    Calls Tryz.prog 45 #[(.agg #[.int .i64 h1, .int .i64 h2, .int .i64 h3, .slice ao no co, .slice ar nr cr, .slice aw nw cw, .int .i64 u])] w fun e w' => e = .returned (.tuple #[]) ∧ Chg w w' (fun k => base ≤ k) := by
  obtain ⟨x9, hx9⟩ : ∃ x9, x9 = w.alloc (.cells #[.int .i64 h1, .int .i64 h2, .int .i64 h3, .slice ao no co, .slice ar nr cr, .slice aw nw cw, .int .i64 u] 69) := ⟨_, rfl⟩
  have CX := Lib.hid (show Chg w x9 Nothing from by rw [hx9]; exact (Chg.refl w Nothing).alloc _)
  have hz9 : x9.heap.size = w.heap.size + 1 := by rw [hx9]; simp
  have BX := Lib.hid (show x9.heap[w.heap.size]? = some (.cells #[.int .i64 h1, .int .i64 h2, .int .i64 h3, .slice ao no co, .slice ar nr cr, .slice aw nw cw, .int .i64 u] 69) from by rw [hx9]; exact heap_alloc_new w _)
  have AS0 := Lib.hid (show AllS w (x9.alloc (.cells #[.slice ar nr cr, .slice aw nw cw] 45)) base (.slice ao no co) (.slice ar nr cr) (.slice aw nw cw) (.slice ao no co) (.slice ao no co) from (show AllS w x9 base (.slice ao no co) (.slice ar nr cr) (.slice aw nw cw) (.slice ao no co) (.slice ao no co) from ⟨(s1.quiet CX.out).up (Nat.le_refl _) (Nat.le_refl _), (s2.quiet CX.out).up (Nat.le_refl _) (Nat.le_refl _), (s3.quiet CX.out).up (Nat.le_refl _) (Nat.le_refl _), (s1.quiet CX.out).up (Nat.le_refl _) (Nat.le_refl _), (s1.quiet CX.out).up (Nat.le_refl _) (Nat.le_refl _), CX.out.mono (fun _ _ h => h.elim)⟩).alloc _)
  have BS0 := Lib.hid (show (x9.alloc (.cells #[.slice ar nr cr, .slice aw nw cw] 45)).heap[w.heap.size + 1]? = some (.cells #[.slice ar nr cr, .slice aw nw cw] 45) from by have := heap_alloc_new x9 (.cells #[.slice ar nr cr, .slice aw nw cw] 45); rwa [hz9] at this)
  have BX0 := Lib.hid (show (x9.alloc (.cells #[.slice ar nr cr, .slice aw nw cw] 45)).heap[w.heap.size]? = some (.cells #[.int .i64 h1, .int .i64 h2, .int .i64 h3, .slice ao no co, .slice ar nr cr, .slice aw nw cw, .int .i64 u] 69) from blk_alloc BX.out _)
  have HX9 := Lib.hid hx9
  clear s1 s2 s3 hx9
  go_enter Tryz.func45, Tryz.ntmps45
  go_wp2_with fail
  rw [← HX9.out]
  go_loopg [14] 2 (fun k i wr => ∃ n : Nat, n + k = 2 ∧ i = .int .i64 ((n : Nat) : Int) ∧ AllS w wr base (.slice ao no co) (.slice ar nr cr) (.slice aw nw cw) (.slice ao no co) (.slice ao no co) ∧ wr.heap[w.heap.size + 1]? = some (.cells #[.slice ar nr cr, .slice aw nw cw] 45) ∧ wr.heap[w.heap.size]? = some (.cells #[.int .i64 h1, .int .i64 h2, .int .i64 h3, .slice ao no co, .slice ar nr cr, .slice aw nw cw, .int .i64 u] 69))
  case atStart => exact ⟨0, by simp, rfl, AS0.out, BS0.out, BX0.out⟩
  case round =>
    obtain ⟨n, hn, rfl, has, hbs, hex⟩ := hrel
    obtain ⟨go, rfl⟩ : ∃ go, go = gk := ⟨_, rfl⟩
    obtain ⟨wA, rfl⟩ : ∃ wA, wA = wr := ⟨_, rfl⟩
    have A1 := Lib.hid has
    have B1 := Lib.hid hbs
    have X1 := Lib.hid hex
    clear hex
    by_cases hlt : n < 2
    · have hd : decide (n < 2) = true := by simpa using hlt
      have hd2 : decide ((n : Int) < 2) = true := decide_eq_true (by omega)
      obtain ⟨a0, n0, c0, hcell, hspl⟩ : ∃ a0 n0 c0, wA.cell? ⟨w.heap.size + 1, n, none⟩ = some (.slice a0 n0 c0) ∧ (∀ W, AllS w W base (.slice ao no co) (.slice ar nr cr) (.slice aw nw cw) (.slice ao no co) (.slice ao no co) → Spl W base w.heap.size 2 (.slice a0 n0 c0)) := by
        have : n = 0 ∨ n = 1 := by omega
        rcases this with rfl | rfl
        · exact ⟨ar, nr, cr, blk_cell hbs 0, fun W h => h.s2⟩
        · exact ⟨aw, nw, cw, blk_cell hbs 1, fun W h => h.s3⟩
      have SPL := Lib.hid hspl
      have hni : (n : Int) < 2 := by omega
      clear has hbs hspl
      rcases (SPL.out _ A1.out).head with ⟨rfl, rfl, rfl⟩ | ⟨g0, rfl, hg1, hg2, hg3⟩
      · go_wp2_with fail
        go_loopg [24] 0 (fun k i wr => i = .int .i64 0 ∧ wr = wA)
        case atStart => exact ⟨rfl, rfl⟩
        case round =>
          obtain ⟨rfl, rfl⟩ := hrel
          go_wp2_with fail
          go_roundg (go - 1)
          case measure => omega
          case rel => exact ⟨n + 1, by omega, by go_num, A1.out, B1.out, X1.out⟩
      · have hgb : w.heap.size + 1 ≠ g0 := by omega
        have hgx : w.heap.size ≠ g0 := by omega
        have hcm : c0 ≤ 9223372036854775807 := by unfold maxLen at hg3; omega
        have HCM := Lib.hid hcm
        clear hg3 hcm hg2
        go_wp2_with fail
        go_loopg [24] c0 (fun k i wr => ∃ j : Nat, j + k = c0 ∧ i = .int .i64 ((j : Nat) : Int) ∧ AllS w wr base (.slice ao no co) (.slice ar nr cr) (.slice aw nw cw) (.slice ao no co) (.slice ao no co) ∧ wr.heap[w.heap.size + 1]? = some (.cells #[.slice ar nr cr, .slice aw nw cw] 45) ∧ wr.heap[w.heap.size]? = some (.cells #[.int .i64 h1, .int .i64 h2, .int .i64 h3, .slice ao no co, .slice ar nr cr, .slice aw nw cw, .int .i64 u] 69))
        case atStart => exact ⟨0, by simp, rfl, A1.out, B1.out, X1.out⟩
        case round =>
          obtain ⟨j, hj, rfl, has, hbs, hex⟩ := hrel
          by_cases hl2 : j < c0
          · have he : decide (j < c0) = true := by simpa using hl2
            have he2 : decide ((j : Int) < (c0 : Int)) = true := decide_eq_true (by omega)
            have hji : (j : Int) < (c0 : Int) := by omega
            obtain ⟨u0a, k0, f0⟩ := (SPL.out _ has).cell (j := j * 2) (by omega)
            obtain ⟨u1a, k1, f1⟩ := (SPL.out _ has).cell (j := j * 2 + 1) (by omega)
            have N1 := Lib.hid ((has.set g0 (j * 2) (.int .i64 (-77)) hg1).set g0 (j * 2 + 1) (.float .f64 13858490847093325824) hg1)
            have N2 := Lib.hid (blk_set_other (a := ⟨g0, j * 2 + 1, none⟩) (blk_set_other (a := ⟨g0, j * 2, none⟩) hbs hgb (.int .i64 (-77))) hgb (.float .f64 13858490847093325824))
            have N3 := Lib.hid (blk_set_other (a := ⟨g0, j * 2 + 1, none⟩) (blk_set_other (a := ⟨g0, j * 2, none⟩) hex hgx (.int .i64 (-77))) hgx (.float .f64 13858490847093325824))
            have hwj : IntKind.i64.wrap ((j : Int) + 1) = ((j + 1 : Nat) : Int) := (IntWalk.i64_in ((j : Int) + 1) (by have := HCM.out; omega)).trans (by omega)
            clear has hbs hex
            go_wp2_with fail
            go_roundg (gk - 1)
            case measure => omega
            case rel => exact ⟨j + 1, by omega, by first | rfl | go_num, N1.out, N2.out, N3.out⟩
          · have he : decide (j < c0) = false := by simpa using hl2
            have he2 : decide ((j : Int) < (c0 : Int)) = false := decide_eq_false (by omega)
            have N1 := Lib.hid has
            have N2 := Lib.hid hbs
            have N3 := Lib.hid hex
            clear has hbs hex hj
            go_wp2_with fail
            go_roundg (go - 1)
            case measure => omega
            case rel => exact ⟨n + 1, by omega, by go_num, N1.out, N2.out, N3.out⟩
    · have hd : decide (n < 2) = false := by simpa using hlt
      have hd2 : decide ((n : Int) < 2) = false := decide_eq_false (by omega)
      clear has hbs hn
      have r3 : wA.cell? ⟨w.heap.size, 3, none⟩ = some (.slice ao no co) := blk_cell X1.out 3
      have z3 : w.heap.size < wA.heap.size := blk_lt X1.out
      rcases (A1.out.s1).head with ⟨rfl, rfl, rfl⟩ | ⟨g0, rfl, hg1, hg2, hg3⟩
      · go_wp2_with fail
        go_loopg [41] 0 (fun k i wr => i = .int .i64 0 ∧ wr = wA)
        case atStart => exact ⟨rfl, rfl⟩
        case round =>
          obtain ⟨rfl, rfl⟩ := hrel
          go_wp2_with fail
          go_end0
          exact ⟨rfl, A1.out.chg⟩
      · obtain ⟨c0, hc0⟩ : ∃ c0, c0 = co := ⟨_, rfl⟩
        subst hc0
        have hcm : c0 ≤ 9223372036854775807 := by unfold maxLen at hg3; omega
        have HCM := Lib.hid hcm
        clear hg3 hcm hg2
        go_wp2_with fail
        go_loopg [41] c0 (fun k i wr => ∃ j : Nat, j + k = c0 ∧ i = .int .i64 ((j : Nat) : Int) ∧ AllS w wr base (.slice (some ⟨g0, 0, none⟩) no c0) (.slice ar nr cr) (.slice aw nw cw) (.slice (some ⟨g0, 0, none⟩) no c0) (.slice (some ⟨g0, 0, none⟩) no c0))
        case atStart => exact ⟨0, by simp, rfl, A1.out⟩
        case round =>
          obtain ⟨j, hj, rfl, has⟩ := hrel
          by_cases hl2 : j < c0
          · have he : decide (j < c0) = true := by simpa using hl2
            have he2 : decide ((j : Int) < (c0 : Int)) = true := decide_eq_true (by omega)
            have hji : (j : Int) < (c0 : Int) := by omega
            obtain ⟨u0a, k0, f0⟩ := (has.s1).cell (j := j) (by omega)
            have N1 := Lib.hid (has.set g0 (j) (.float .f64 13858490847093325824) hg1)
            have hwj : IntKind.i64.wrap ((j : Int) + 1) = ((j + 1 : Nat) : Int) := (IntWalk.i64_in ((j : Int) + 1) (by have := HCM.out; omega)).trans (by omega)
            clear has
            go_wp2_with fail
            go_roundg (gk - 1)
            case measure => omega
            case rel => exact ⟨j + 1, by omega, by first | rfl | go_num, N1.out⟩
          · have he : decide (j < c0) = false := by simpa using hl2
            have he2 : decide ((j : Int) < (c0 : Int)) = false := decide_eq_false (by omega)
            have N1 := Lib.hid has
            clear has hj
            go_wp2_with fail
            go_end0
            exact ⟨rfl, N1.out.chg⟩
end Go.Proofs.YthgllaomafhdkaaGreat
