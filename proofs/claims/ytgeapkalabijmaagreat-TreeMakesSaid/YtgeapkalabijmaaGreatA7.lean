/- The builder's Program: its contract. -/
import Derived.Test.YtgeapkalabijmaaGreatA6
import Derived.Deep.Upon
namespace Go.Proofs.YtgeapkalabijmaaGreat
open Go Go.RowKit
set_option maxRecDepth 100000
set_option maxHeartbeats 1000000
set_option linter.unusedVariables false
set_option linter.unusedSimpArgs false

/-- append where there is room in a row that the call made, as a step of a region that draws. -/
theorem step_append_fits {P : Program} {w : World} {ops : Array Oper} {o : Oper} {a : Act} {K : Act → World → Prop} {Q : Exit → Act → World → Prop} {E : Prop} (hgd : o.guard = none) (s x : Operand) (t : TypeId)
    (ho : o.op = .call { callee := .builtin .append, args := #[s, x], argTypes := #[t, t] }) (base : Nat) (e : TypeId) (i : TypeInfo) (size : Nat) (ht : P.underlying t = some (.slice e)) (hi : P.info? e = some i) (hsize : i.size = size)
    (g n cap : Nat) (xs : List Value) (hs : a.eval s = .slice (some ⟨g, 0, none⟩) n cap) (hown : w.ownsRow base e size (.slice (some ⟨g, 0, none⟩) n cap) n xs)
    (sa : Option Addr) (m c : Nat) (news : List Value) (hx : a.eval x = .slice sa m c) (hsrc : w.ownsRow 0 e size (.slice sa m c) m news) (h1 : ∀ u ∈ news, u.oneCell' = true) (hroom : n + m ≤ cap)
    (h : ∀ w', w'.ownsRow base e size (.slice (some ⟨g, 0, none⟩) (n + m) cap) (n + m) (xs ++ news) → w.grownBy w' (some g) → K (a.put o.dst (.slice (some ⟨g, 0, none⟩) (n + m) cap)) w') :
    if Region.wanted o (yielded ops a.tmps) = true then Oper.wp P o a w K Q else E := by
  have hw : Region.wanted o (yielded ops a.tmps) = true := by simp [Region.wanted, hgd]
  rw [if_pos hw]
  have hl := hsrc.1
  rcases hsrc.2 with ⟨h0, rfl⟩ | ⟨g', cap', cur, h0, _⟩
  · injection h0 with e1 e2 e3
    subst e1 e3
    obtain rfl : news = [] := List.eq_nil_of_length_eq_zero (by rw [hl, Nat.zero_mul])
    have hr := run_append_nothing (P := P) w t t o.type e i ht hi (some ⟨g, 0, none⟩) n cap (by omega) (.slice none 0 0) (Src.ofNil w ht 0)
    have h' := h w (by simpa using hown) (World.grownBy.refl _ _)
    unfold Oper.wp execOp
    simp only [ho, resolve, invoke, builtin, Sem.run_bind, Sem.run_pure, Result.andThen_ok, List.map_toArray, List.map_cons, List.map_nil, hs, hx, hr]
    exact h'
  · injection h0 with e1 e2 e3
    subst e1
    have hsee := Sees.of_owns hsrc
    obtain ⟨w', hr, h2, h3⟩ := run_append_fits (P := P) w base t o.type e i size ht hi hsize g n cap xs hown ⟨g', 0, none⟩ m c news hl (fun j u hu => by
      rcases hsee with rfl | ⟨b, o', e, hc⟩
      · simp at hu
      · injection e with e
        injection e with e1 e2
        subst e1 e2
        rw [Addr.add_lit]
        exact hc j u hu) h1 hroom
    unfold Oper.wp execOp
    simp only [ho, resolve, invoke, builtin, Sem.run_bind, Sem.run_pure, Result.andThen_ok, List.map_toArray, List.map_cons, List.map_nil, hs, hx, hr]
    exact h w' h2 h3
/-- What make([]Instr, 0, n) lays. -/
theorem own_made {w wr : World} {n g : Nat} (cur : Array Value) (hc : cur.size = n * 3) (hn : n ≤ maxLen) (hb : w.heap.size ≤ g) (hg : wr.heap.size = g) :
    (wr.alloc (.cells cur 73)).ownsRow w.heap.size 73 3 (.slice (some ⟨g, 0, none⟩) 0 n) 0 [] := by
  subst hg
  exact ⟨rfl, .inr ⟨_, n, cur, rfl, hb, heap_alloc_new _ _, Nat.zero_le _, hn, hc, by simp⟩⟩

theorem insV_one (l : List Ins) : ∀ u ∈ insV l, u.oneCell' = true := by
  intro u hu
  unfold insV at hu
  rw [List.mem_flatMap] at hu
  obtain ⟨t, _, h⟩ := hu
  simp at h
  rcases h with rfl | rfl | rfl <;> rfl

def zeroP : Array Value := #[.int .i64 0, .slice none 0 0]
/-- What a mark must be. -/
def GoodMark (labels : Nat) (k : Int) (v : Value) : Prop := 0 ≤ k ∧ k < labels ∧ ∃ a n c, v = .slice a n c ∧ n ≤ 1

theorem prog_results {tmps : Array Value} {W : World} {r0 : Nat} {a b : Value} {ee : Int} {T : TypeId} {fr : Nat × Nat} (h2 : tmps.getD 2 undef = .pointer (some ⟨r0, 0, none⟩)) (h3 : tmps.getD 3 undef = .int .i64 ee) (hb : W.heap[r0]? = some (.cells #[a, b] T fr)) :
    (results Tryz.f32 tmps).run Tryz.prog W = .ok (.tuple #[.agg #[a, b], .int .i64 ee]) W := by
  have h2' : tmps[2]?.getD undef = .pointer (some ⟨r0, 0, none⟩) := by simpa using h2
  have h3' : tmps[3]?.getD undef = .int .i64 ee := by simpa using h3
  have hl := run_loadVar_row (P := Tryz.prog) W r0 T 26 #[a, b] fr _ hb Tryz.underlying26 rfl (by kernel_rfl)
  have k0 : W.cell? ⟨r0, 0, none⟩ = some a := by rw [blk_cell hb]; rfl
  have k1 : W.cell? ⟨r0, 1, none⟩ = some b := by rw [blk_cell hb]; rfl
  simp [results, Tryz.results32, h2', h3', asAddr, hl, k0, k1, go_sem]
theorem two_set {w : World} {b : Nat} {T : TypeId} {x y u v : Value} (h : w.heap[b]? = some (.cells #[x, y] T (0, 0))) : ((w.setCell ⟨b, 0, none⟩ u).setCell ⟨b, 1, none⟩ v).heap[b]? = some (.cells #[u, v] T (0, 0)) := by
  have := blk_set (blk_set h 0 u) 1 v
  simpa using this

/-- What Program leaves. -/
def ProgPost (w w' : World) (s : Asm) (v : Value) : Prop :=
  Chg w w' Nothing ∧ ((progE s ≠ 0 ∧ v = .agg #[.int .i64 0, .slice none 0 0]) ∨ (progE s = 0 ∧ ∃ out gc, fillAll s.marks s.code s.tos = some out ∧ out.length = s.code.length ∧ v = .agg #[.int .i64 s.tag, .slice (some ⟨gc, 0, none⟩) out.length out.length] ∧ w'.ownsRow w.heap.size 73 3 (.slice (some ⟨gc, 0, none⟩) out.length out.length) out.length (insV out)))
theorem PS.ofNew {w W w2 : World} {gc : Nat} {tag : Int} {cs : List Ins} (hc : Chg w W Nothing) (e0 : W.heap[w.heap.size]? = some (.cells zeroP 26 (0, 0))) (hl : w.heap.size < gc) (hg : W.grownBy w2 (some gc))
    (hown : w2.ownsRow w.heap.size 73 3 (.slice (some ⟨gc, 0, none⟩) cs.length cs.length) cs.length (insV cs)) :
    PS w (w2.alloc (.cells #[.int .i64 tag, .slice (some ⟨gc, 0, none⟩) cs.length cs.length] 26)) w.heap.size w2.heap.size gc tag cs := by
  have h1 : w.heap.size < W.heap.size := (Array.getElem?_eq_some_iff.1 e0).1
  have h2 := hg.size
  have h3 := (hown.lt gc rfl).2
  refine ⟨(hc.grown hg (fun k hk => .inl (by injection hk with hk; have hk : gc = k := hk; omega))).alloc _, (Below.heap_alloc _ _ _ (by omega)).trans ((hg.block _ h1 (fun e => by injection e with e; omega)).trans e0), heap_alloc_new _ _, hown.alloc _, Nat.le_refl _, by omega, by omega, by omega, by omega⟩
theorem PS.ofOld {w W w2 : World} {gc q : Nat} {tag : Int} {cs : List Ins} (hc : Chg w W Nothing) (e0 : W.heap[w.heap.size]? = some (.cells zeroP 26 (0, 0))) (hl : w.heap.size < gc) (hg : W.grownBy w2 (some gc))
    (hown : w2.ownsRow w.heap.size 73 3 (.slice (some ⟨gc, 0, none⟩) cs.length cs.length) cs.length (insV cs)) (hq : w2.heap[q]? = some (.cells zeroP 26 (0, 0))) (hlq : w.heap.size < q) (hne : q ≠ gc) :
    PS w ((w2.setCell ⟨q, 0, none⟩ (.int .i64 tag)).setCell ⟨q, 1, none⟩ (.slice (some ⟨gc, 0, none⟩) cs.length cs.length)) w.heap.size q gc tag cs := by
  have h1 : w.heap.size < W.heap.size := (Array.getElem?_eq_some_iff.1 e0).1
  have far : ∀ k, k ≠ q → ((w2.setCell ⟨q, 0, none⟩ (.int .i64 tag)).setCell ⟨q, 1, none⟩ (.slice (some ⟨gc, 0, none⟩) cs.length cs.length)).heap[k]? = w2.heap[k]? := fun k hk => (Below.heap_setCell _ _ _ _ hk).trans (Below.heap_setCell _ _ _ _ hk)
  refine ⟨((hc.grown hg (fun k hk => .inl (by injection hk with hk; have hk : gc = k := hk; omega))).setCell (.inl (by show w.heap.size ≤ q; omega)) _).setCell (.inl (by show w.heap.size ≤ q; omega)) _, (far _ (by omega)).trans ((hg.block _ h1 (fun e => by injection e with e; omega)).trans e0), two_set hq, ownsRow_heap hown (fun k hk => far k (by injection hk with hk; have hk : gc = k := hk; omega)), Nat.le_refl _, by omega, hne, by omega, by omega⟩
/-- A label's places, looked up. -/
theorem marks_look {w : World} {mb : Nat} {T : Nat → Nat} {ents : List (Int × Value)} {marks : List (Int × Nat)} (hm : MapS w mb ents) (hM : MarksIn w T ents (groupOf marks)) (hT : ∀ k, T k ≠ 0 → k < w.heap.size) (l : Int) :
    ∃ a m c, (∀ y : World, y.heap[mb]? = w.heap[mb]? → (Instr.lookup 110 (.map (some mb)) (.int .i64 l) false).run Tryz.prog y = .ok (.slice a m c) y) ∧
      ((placesOf marks l = [] ∧ a = none ∧ m = 0) ∨ ∃ ab n ps, placesOf marks l = n :: ps ∧ a = some ⟨ab, 0, none⟩ ∧ 0 < m ∧ w.cell? ⟨ab, 0, none⟩ = some (.int .i64 (n : Int)) ∧ ab < w.heap.size) := by
  obtain ⟨g1, g2, g3⟩ := groupOf_ok marks
  cases hp : pos (groupOf marks) l with
  | none =>
    have hk := Un.of_pos hp
    refine ⟨none, 0, 0, fun y hy => (hm.frame hy).toI.look_un (P := Tryz.prog) Tryz.underlying110 Tryz.underlying3 (hM.un hk) false (z := .slice none 0 0) (by rfl), .inl ⟨placesOf_none fun t ht e => ?_, rfl, rfl⟩⟩
    obtain ⟨u, hu, e2⟩ := List.mem_map.1 (g3 t ht)
    exact hk u hu (e2.trans e)
  | some i =>
    have hk := Kn.of_pos hp
    obtain ⟨⟨ps, hi⟩, _⟩ := id hk
    obtain ⟨a, c, e1, e2, e3⟩ := hM.2 i l ps hi
    obtain ⟨q1, q2⟩ := g2 _ (List.mem_of_getElem? hi)
    simp only at q1 q2
    cases ps with
    | nil => exact absurd rfl q2
    | cons n ps =>
      refine ⟨a, (n :: ps).length, c, fun y hy => (hm.frame hy).toI.look_kn (P := Tryz.prog) Tryz.underlying110 Tryz.underlying3 (hM.kn hk) false e1, .inr ?_⟩
      obtain ⟨ab, c', e4⟩ := (ownsRow_shape e2).2 (by simp)
      injection e4 with e5 e6
      subst e5
      have hc := e2.cellAt 0 (by simp)
      have hb : T ab ≠ 0 := by rw [e3 ab rfl]; omega
      exact ⟨ab, n, ps, q1.symm, rfl, by simp, by rw [hc]; rfl, hT ab hb⟩
theorem keep2 {W : World} {a b c : Addr} {u v x : Value} (h : W.cell? a = some x) (h1 : ¬ a.block = b.block) (h2 : ¬ a.block = c.block) : ((W.setCell b u).setCell c v).cell? a = some x :=
  (World.cell?_of_block (w := W) (w' := (W.setCell b u).setCell c v) ((Below.heap_setCell _ _ _ _ h2).trans (Below.heap_setCell _ _ _ _ h1))).trans h
theorem q_after {wr w2 : World} {cur : Array Value} (hg : ((wr.alloc (.cells cur 73)).alloc (.cells zeroP 26)).drew.grownBy w2 (some wr.heap.size)) : w2.heap[wr.heap.size + 1]? = some (.cells zeroP 26 (0, 0)) := by
  have h1 := hg.block (wr.heap.size + 1) (by simp) (by simp)
  have h2 := heap_alloc_new (wr.alloc (.cells cur 73)) (.cells zeroP 26)
  rw [World.size_alloc] at h2
  exact h1.trans h2
theorem q_before {wr w2 : World} {cur : Array Value} (hg : ((wr.alloc (.cells zeroP 26)).alloc (.cells cur 73)).drew.grownBy w2 (some (wr.heap.size + 1))) : w2.heap[wr.heap.size]? = some (.cells zeroP 26 (0, 0)) := by
  have h1 := hg.block wr.heap.size (by simp; omega) (by simp)
  exact h1.trans ((Below.heap_alloc _ _ _ (by simp)).trans (heap_alloc_new wr _))

set_option maxRecDepth 100000 in
set_option maxHeartbeats 4000000 in
theorem program_any (p : Nat) (F : Nat → Prop) (s : Asm) (w : World) (h : Bd w p F s) (hb : s.code.length < 4398046511103) :
    Calls Tryz.prog 32 #[.pointer (some ⟨p, 0, none⟩)] w fun e w' => ∃ v, e = .returned (.tuple #[v, .int .i64 (progE s)]) ∧ ProgPost w w' s v := by
  obtain ⟨hF, hl, T, ac, cc, al, cl, mb, fs, ents, hB, hT⟩ := h
  obtain ⟨c0, c1, c2, c3, c4⟩ := hB.cells
  have hp : p < w.heap.size := hB.lt p (by rw [hB.tp]; decide)
  have hpn : ¬ p = w.heap.size := by omega
  have HB := Lib.hid hB
  have HL := Lib.hid hl
  have HN := Lib.hid hb
  have HM := Lib.hid hB.map
  clear hB hF hT hl hb c0 c1 c2
  go_enter Tryz.func32, Tryz.ntmps32
  go_wp2_with (at_range; refine wpList_range_good rfl _ 110 rfl Tryz.underlying110 rfl (HM.out.frame (Below.heap_alloc _ _ _ HM.out.lt)) (GoodMark s.labels) ?_; intro w1 z1 hr hc1)
  have hs0 : w1.heap.size = w.heap.size + 2 := by rw [z1]; simp
  have e0 : w1.heap[w.heap.size]? = some (.cells zeroP 26 (0, 0)) := (hc1.block _ (by simp) id).trans (heap_alloc_new w _)
  have hcw : Chg w w1 Nothing := ((Chg.refl w Nothing).alloc _).trans hc1 (fun _ _ h => h)
  have R0 := Lib.hid (And.intro hr (And.intro e0 hcw))
  clear z1 hr hc1 e0 hcw hs0
  have hsz1 : ∀ o, (w.alloc o).heap.size = w.heap.size + 1 := fun o => by simp
  go_frame
  simp only [hsz1]
  clear hsz1
  go_loopg [4] (w1.rangeLeft mb (w.heap.size + 1)) (fun k v wr => k = wr.rangeLeft mb (w.heap.size + 1) ∧ Rng wr mb (w.heap.size + 1) ents (GoodMark s.labels) ∧ wr.heap[w.heap.size]? = some (.cells zeroP 26 (0, 0)) ∧ Chg w wr Nothing)
  case atStart => exact ⟨rfl, by have := R0.out.1; simpa using this, R0.out.2⟩
  case round =>
    obtain ⟨hk, hr, e0, hcw⟩ := hrel
    have HK := Lib.hid hk
    have HR := Lib.hid hr
    have E0 := Lib.hid e0
    have CW := Lib.hid hcw
    have d3 := hcw.cell c3 id
    clear hk hr e0 hcw R0
    go_wp2_with (at_next; refine wpList_next_good rfl _ rfl (w.heap.size + 1) (GoodMark s.labels) rfl HR.out ?d ?m)
    case d =>
      intro hall
      have hok : MarksOk s := (marksOk_iff s).2 fun t ht => by
        obtain ⟨j, hj⟩ := List.getElem?_of_mem ht
        obtain ⟨a, c, e2, _⟩ := HB.out.marks.2 j t.1 t.2 hj
        obtain ⟨q1, q2, a', n', c', q3, q4⟩ := hall _ _ (List.mem_of_getElem? e2)
        injection q3 with q3 q5 q6
        subst q5
        exact ⟨q1, q2, q4⟩
      have HOK := Lib.hid hok
      obtain ⟨c0, c1, c2, c3, c4⟩ := HB.out.cells
      have D0 := CW.out.cell c0 id
      have D1 := CW.out.cell c1 id
      have S2 := Lib.hid c2
      have S4 := Lib.hid c4
      have hlt := HR.out.lt
      have hpl : p < wr.heap.size := by omega
      have hps : ¬ p = wr.heap.size := by omega
      have hps1 : ¬ p = wr.heap.size + 1 := by omega
      have hsl : w.heap.size < wr.heap.size := by omega
      have HSL := Lib.hid hsl
      have HSL1 := Lib.hid (show ∀ o, w.heap.size < (wr.alloc o).heap.size by intro o; simp; omega)
      have HSZ := Lib.hid (show w.heap.size ≤ wr.heap.size by omega)
      have HSZ2 := Lib.hid (show w.heap.size ≤ wr.heap.size + 1 by omega)
      have HM2 := Lib.hid (show s.code.length ≤ maxLen by have := HN.out; unfold maxLen; omega)
      have HO := Lib.hid (ownsRow_heap HB.out.code (fun k hk => CW.out.block k (HB.out.lt k (by rw [HB.out.tc k hk]; decide)) id))
      obtain ⟨I, hI, hI0, hI3, hIb⟩ := info_parts (P := Tryz.prog) (e := 73) (z := .agg #[.int .i64 0, .int .i64 0, fl 0]) (size := 3) (bytes := 24) (by kernel_rfl)
      have HI := Lib.hid (And.intro hI hI3)
      have hmk : ∀ W : World, (Instr.makeSlice 24 (.int .i64 0) (.int .i64 (s.code.length : Int))).run Tryz.prog W = .ok (.slice (some ⟨W.heap.size, 0, none⟩) 0 s.code.length) (W.alloc (.cells (madeCells #[.int .i64 0, .int .i64 0, fl 0] (s.code.length * 3)) 73)) := fun W => by
        have hr := run_make (P := Tryz.prog) W 24 73 I (.agg #[.int .i64 0, .int .i64 0, fl 0]) Tryz.underlying24 hI hI0 .i64 .i64 0 s.code.length (by omega) (by omega) (by rw [hIb]; have := HN.out; omega) (by have := HN.out; omega)
        simp only [Int.toNat_natCast, hI3] at hr
        exact hr
      clear hall hok c0 c1 c2 c3 c4 hlt hI hI0 hI3 hIb
      go_upto_region 6 with fail
      go_cut [6] (fun v wx => ∃ q gc, v = .pointer (some ⟨q, 0, none⟩) ∧ PS w wx w.heap.size q gc s.tag s.code)
      case first =>
        go_region_held3 (fun w' => w'.cell? ⟨p, 0, none⟩ = some (.int .i64 s.tag) ∧ w'.cell? ⟨p, 1, none⟩ = some (.slice ac s.code.length cc))
          (first
            | (go_split_ands
               exact ⟨keep2 (by assumption) hps1 hps1, keep2 (by assumption) hps1 hps1⟩)
            | (go_split_ands
               exact ⟨keep2 (by assumption) hps hps, keep2 (by assumption) hps hps⟩)
            | (go_split_ands
               exact ⟨by go_keep, by go_keep⟩)
            | go_keep)
          ((refine step_append_fits (by rfl) _ _ _ (by rfl) w.heap.size 73 I 3 Tryz.underlying24 HI.out.1 HI.out.2 _ 0 s.code.length [] (by rfl) (by first | exact own_made _ (size_madeCells _ _) HM2.out HSZ.out rfl | exact own_made _ (size_madeCells _ _) HM2.out HSZ2.out (by simp) | exact (own_made _ (size_madeCells _ _) HM2.out HSZ.out rfl).alloc _) ac s.code.length cc (insV s.code) (by rfl) (by first | exact HO.out.alloc _ | exact (HO.out.alloc _).alloc _) (insV_one s.code) (by omega) ?_; intro w2 hown2 hgrow; have k0 : w2.cell? ⟨p, 0, none⟩ = some (.int .i64 s.tag) := (hgrow.cell_far _ (by simp; omega) (by simp; omega)).trans (by go_keep); have k1 : w2.cell? ⟨p, 1, none⟩ = some (.slice ac s.code.length cc) := (hgrow.cell_far _ (by simp; omega) (by simp; omega)).trans (by go_keep); have hpw : ¬ p = w2.heap.size := (by have := hgrow.size; simp at this; omega); first | (have qb := q_after hgrow; have q0 : w2.cell? ⟨wr.heap.size + 1, 0, none⟩ = some (.int .i64 0) := blk_cell qb 0; have q1 : w2.cell? ⟨wr.heap.size + 1, 1, none⟩ = some (.slice none 0 0) := blk_cell qb 1; have q2 : w2.frozen? ⟨wr.heap.size + 1, 0, none⟩ = false := blk_free qb 0; have q3 : w2.frozen? ⟨wr.heap.size + 1, 1, none⟩ = false := blk_free qb 1) | (have qb := q_before hgrow; have q0 : w2.cell? ⟨wr.heap.size, 0, none⟩ = some (.int .i64 0) := blk_cell qb 0; have q1 : w2.cell? ⟨wr.heap.size, 1, none⟩ = some (.slice none 0 0) := blk_cell qb 1; have q2 : w2.frozen? ⟨wr.heap.size, 0, none⟩ = false := blk_free qb 0; have q3 : w2.frozen? ⟨wr.heap.size, 1, none⟩ = false := blk_free qb 1) | skip))
        all_goals
          go_wp2_with fail
          go_meet
          have hown3 := hown2
          simp only [Nat.zero_add, List.nil_append] at hown3
          first
            | exact ⟨_, _, rfl, PS.ofNew ((CW.out.alloc _).drew) ((Below.heap_alloc _ _ _ HSL.out).trans E0.out) HSL.out hgrow hown3⟩
            | exact ⟨_, _, rfl, PS.ofOld (((CW.out.alloc _).alloc _).drew) ((Below.heap_alloc _ _ _ (HSL1.out _)).trans ((Below.heap_alloc _ _ _ HSL.out).trans E0.out)) (by omega) hgrow hown3 qb (by omega) (by omega)⟩
      case rest =>
        obtain ⟨q, gc, rfl, hPS⟩ := hcut
        have C2 := hPS.1.cell S2.out id
        have C4 := hPS.1.cell S4.out id
        have HP := Lib.hid hPS
        have HLL := Lib.hid (show (laterOf 0 s.tos).length < 9223372036854775807 by have := laterOf_len 0 s.tos; have := HL.out; have := HN.out; omega)
        clear hPS D0 D1 d3 hmk
        go_wp2_with fail
        go_loopg [57] ((laterOf 0 s.tos).length) (fun k v wr2 => ∃ i : Nat, i ≤ (laterOf 0 s.tos).length ∧ v = .int .i64 (i : Int) ∧ k = (laterOf 0 s.tos).length - i ∧ PS w wr2 w.heap.size q gc s.tag (fillL s.marks s.code ((laterOf 0 s.tos).take i)) ∧ ∀ t ∈ (laterOf 0 s.tos).take i, placesOf s.marks t.2 ≠ [])
        case atStart => exact ⟨0, Nat.zero_le _, rfl, rfl, HP.out, by simp⟩
        case round =>
          obtain ⟨i, hi, rfl, hk, hps2, hpl2⟩ := hrel
          have hcw := hps2.1
          have C2 := hcw.cell S2.out id
          have C4 := hcw.cell S4.out id
          have HK := Lib.hid hk
          have HP2 := Lib.hid hps2
          have HL2 := Lib.hid hpl2
          have HI := Lib.hid hi
          by_cases hlt : i < (laterOf 0 s.tos).length
          · obtain ⟨pl, l, ht⟩ : ∃ pl l, (laterOf 0 s.tos)[i]? = some (pl, l) := ⟨_, _, List.getElem?_eq_getElem hlt⟩
            obtain ⟨x, y, f1, f2, f3, f4, f5⟩ := HB.out.fns.2 i (pl, l) ht
            obtain ⟨ab, c', e4⟩ := (ownsRow_shape HB.out.later).2 (by omega)
            injection e4 with e5 e6 e7
            subst e5 e7
            have hb : ab < w.heap.size := (HB.out.later.lt ab rfl).2
            have L1 : wr.cell? ⟨ab, i, none⟩ = some (Value.func (.func 136) #[] #[.pointer (some ⟨x, 0, none⟩), .pointer (some ⟨y, 0, none⟩)]) := by
              have := HB.out.later.cellAt i (by omega)
              rw [f1] at this
              exact hcw.cell this id
            obtain ⟨a, m, c, hlk, hcase⟩ := marks_look HB.out.map HB.out.marks HB.out.lt l
            have hx : wr.cell? ⟨x, 0, none⟩ = some (.int .i64 l) := hcw.cell (by rw [blk_cell f2]; rfl) id
            have hy : wr.cell? ⟨y, 0, none⟩ = some (.int .i64 (pl : Int)) := hcw.cell (by rw [blk_cell f3]; rfl) id
            have hlk := hlk wr (hcw.block mb (HB.out.lt mb (by rw [HB.out.tm]; decide)) id)
            have q1 : decide ((i : Int) < ((laterOf 0 s.tos).length : Int)) = true := decide_eq_true (by omega)
            rcases hcase with ⟨hnil, rfl, rfl⟩ | ⟨b, n, ps, hps3, rfl, hm, hcell, hbl⟩
            · have HNIL := Lib.hid hnil
              have HTT := Lib.hid ht
              obtain ⟨g1, g2, g3, g4, g5, g6, g7, g8, g9⟩ := hps2
              have y0 : wr.cell? ⟨w.heap.size, 0, none⟩ = some (.int .i64 0) := blk_cell g2 0
              have y1 : wr.cell? ⟨w.heap.size, 1, none⟩ = some (.slice none 0 0) := blk_cell g2 1
              have y2 : wr.frozen? ⟨w.heap.size, 0, none⟩ = false := blk_free g2 0
              have y3 : wr.frozen? ⟨w.heap.size, 1, none⟩ = false := blk_free g2 1
              have G1 := Lib.hid g1
              have R0 := Lib.hid g2
              clear hi hk hpl2 g1 g2 g3 g4 g5 g6 g7 g8 g9 hnil ht f1 f2 f3 f4 f5 hb
              go_wp2_with fail
              refine (fill_no mb x y q l c wr hlk hx).mono ?_
              rintro e w' ⟨rfl, rfl⟩
              go_wp2_with fail
              have HE := Lib.hid (progE_none HOK.out (fillAll_none' s.marks s.code s.tos 0 HL.out ⟨_, List.mem_of_getElem? HTT.out, HNIL.out⟩))
              refine bodyPost_ret (v := .tuple #[.agg #[.int .i64 0, .slice none 0 0], .int .i64 190]) ?_ ?_ ?_
              · exact prog_results rfl rfl (two_set R0.out)
              · rfl
              · exact ⟨_, by rw [HE.out], (G1.out.setCell (.inl (Nat.le_refl _)) _).setCell (.inl (Nat.le_refl _)) _, .inl ⟨by rw [HE.out]; decide, rfl⟩⟩
            · have htm := (laterOf_mem 0 s.tos (pl, l)).1 (List.mem_of_getElem? ht)
              have hplt : pl < s.tos.length := by have := (List.getElem?_eq_some_iff.1 htm.2).1; simpa using this
              have hlen : (fillL s.marks s.code ((laterOf 0 s.tos).take i)).length = s.code.length := fillL_len _ _ _
              have hplt2 : pl < (fillL s.marks s.code ((laterOf 0 s.tos).take i)).length := by rw [hlen, HL.out]; exact hplt
              obtain ⟨xx, hxx⟩ : ∃ xx, (fillL s.marks s.code ((laterOf 0 s.tos).take i))[pl]? = some xx := ⟨_, List.getElem?_eq_getElem hplt2⟩
              obtain ⟨s1, s2, s3⟩ := hps2.stored (n := n) hxx
              have s1 : PS w (wr.setCell ⟨gc, pl * 3 + 1, none⟩ (.int .i64 (n : Int))) w.heap.size q gc s.tag (fillL s.marks s.code ((laterOf 0 s.tos).take (i + 1))) := by
                rw [List.take_add_one, ht, Option.toList_some, fillL_snoc, hps3]
                exact s1
              have hpl3 : ∀ t ∈ (laterOf 0 s.tos).take (i + 1), placesOf s.marks t.2 ≠ [] := by
                intro t htt
                rw [List.take_add_one, ht, Option.toList_some, List.mem_append] at htt
                rcases htt with htt | htt
                · exact hpl2 t htt
                · simp at htt
                  subst htt
                  rw [hps3]
                  simp
              have S1 := Lib.hid s1
              have HP3 := Lib.hid hpl3
              obtain ⟨g1, g2, g3, g4, g5, g6, g7, g8, g9⟩ := hps2
              have hyl : y < w.heap.size := HB.out.lt y (by rw [f5]; decide)
              have hgl : w.heap.size ≤ gc := (g4.lt gc rfl).1
              have hF := fill_yes mb x y q gc _ pl b m c l (n : Int) _ wr hlk hx hm (hcw.cell hcell id) hy (blk_cell g3 1) hplt2 s2 s3 (by omega) (by omega) g7
              clear s1 s2 s3 hpl3 hi hk hpl2 g1 g2 g3 g4 g5 g6 g7 g8 g9 ht f1 f2 f3 f4 f5 hb hyl hgl hxx hplt2 hlen hplt htm hps3 hcell hbl hcw
              go_wp2_with fail
              refine hF.mono ?_
              rintro e w' ⟨rfl, kk, rfl⟩
              go_wp2_with fail
              go_roundg ((laterOf 0 s.tos).length - (i + 1))
              case measure => rw [HK.out]; omega
              case rel => exact ⟨i + 1, by omega, by rw [IntWalk.wrap64_in _ ⟨by omega, by have := HLL.out; omega⟩]; rfl, rfl, S1.out.drewN _, HP3.out⟩
          · have hie : i = (laterOf 0 s.tos).length := by omega
            have q1 : decide ((i : Int) < ((laterOf 0 s.tos).length : Int)) = false := decide_eq_false (by omega)
            have hfill : fillAll s.marks s.code s.tos = some (fillL s.marks s.code (laterOf 0 s.tos)) := fillAll_some HL.out (by rw [hie, List.take_length] at hpl2; exact hpl2)
            rw [hie, List.take_length] at hps2
            have HE := Lib.hid (progE_some HOK.out hfill)
            have HFL := Lib.hid hfill
            obtain ⟨g1, g2, g3, g4, g5, g6, g7, g8, g9⟩ := hps2
            generalize hout : fillL s.marks s.code (laterOf 0 s.tos) = out at *
            have HLEN := Lib.hid (show out.length = s.code.length by rw [← hout, fillL_len])
            clear hout
            have z0 : wr.cell? ⟨q, 0, none⟩ = some (.int .i64 s.tag) := blk_cell g3 0
            have z1 : wr.cell? ⟨q, 1, none⟩ = some (.slice (some ⟨gc, 0, none⟩) out.length out.length) := blk_cell g3 1
            have G1 := Lib.hid g1
            have G2 := Lib.hid g2
            have G3 := Lib.hid g3
            have G4 := Lib.hid g4
            have HGR := Lib.hid g8
            clear hi hk hpl2 g1 g2 g3 g4 g5 g6 g7 g8 g9 hfill C2 C4 hie
            go_wp2_with fail
            refine (check_any s.tag _ _ out wr (Sees.of_owns G4.out)).mono ?_
            rintro e w' ⟨rfl, hc⟩
            have hr0 := (hc.block _ (by have := (Array.getElem?_eq_some_iff.1 G2.out).1; exact this) id).trans G2.out
            have hq0 := (hc.block _ (by have := (Array.getElem?_eq_some_iff.1 G3.out).1; exact this) id).trans G3.out
            have y0 : w'.cell? ⟨w.heap.size, 0, none⟩ = some (.int .i64 0) := blk_cell hr0 0
            have y1 : w'.cell? ⟨w.heap.size, 1, none⟩ = some (.slice none 0 0) := blk_cell hr0 1
            have y2 : w'.frozen? ⟨w.heap.size, 0, none⟩ = false := blk_free hr0 0
            have y3 : w'.frozen? ⟨w.heap.size, 1, none⟩ = false := blk_free hr0 1
            have y4 : w'.cell? ⟨q, 0, none⟩ = some (.int .i64 s.tag) := blk_cell hq0 0
            have y5 : w'.cell? ⟨q, 1, none⟩ = some (.slice (some ⟨gc, 0, none⟩) out.length out.length) := blk_cell hq0 1
            have R0 := Lib.hid hr0
            have HC := Lib.hid (G1.out.trans hc (fun _ _ h => h))
            have G5 := Lib.hid (ownsRow_heap G4.out (fun k hk => hc.block k (G4.out.lt k hk).2 id))
            clear hr0 hq0 hc z0 z1
            by_cases he : checkE s.tag out = 0
            · have hb : ((checkE s.tag out) != 0) = false := by rw [he]; rfl
              have HE0 := Lib.hid he
              clear he
              go_wp2_with fail
              refine bodyPost_ret (v := .tuple #[.agg #[.int .i64 s.tag, .slice (some ⟨gc, 0, none⟩) out.length out.length], .int .i64 0]) ?_ ?_ ?_
              · exact prog_results rfl rfl (two_set R0.out)
              · rfl
              · exact ⟨_, by rw [HE.out, HE0.out], (HC.out.setCell (.inl (Nat.le_refl _)) _).setCell (.inl (Nat.le_refl _)) _, .inr ⟨by rw [HE.out, HE0.out], out, gc, HFL.out, HLEN.out, rfl, ownsRow_heap G5.out (fun k hk => by
                  injection hk with hk
                  have hk : ¬ k = w.heap.size := fun e => HGR.out (e.symm.trans hk.symm)
                  exact (Below.heap_setCell _ _ _ _ hk).trans (Below.heap_setCell _ _ _ _ hk))⟩⟩
            · have hb : ((checkE s.tag out) != 0) = true := by simpa using he
              have HE0 := Lib.hid he
              clear he
              go_wp2_with fail
              refine bodyPost_ret (v := .tuple #[.agg #[.int .i64 0, .slice none 0 0], .int .i64 (checkE s.tag out)]) ?_ ?_ ?_
              · exact prog_results rfl rfl (two_set R0.out)
              · rfl
              · exact ⟨_, by rw [HE.out], (HC.out.setCell (.inl (Nat.le_refl _)) _).setCell (.inl (Nat.le_refl _)) _, .inl ⟨by rw [HE.out]; exact HE0.out, rfl⟩⟩
    case m =>
      intro k v ht w' hG hlt hc hsz hen
      obtain ⟨j, hj⟩ := List.getElem?_of_mem ht
      have hj' : j < (groupOf s.marks).length := by have := (List.getElem?_eq_some_iff.1 hj).1; have := HB.out.marks.1; omega
      obtain ⟨k1, ps, hq⟩ : ∃ k ps, (groupOf s.marks)[j]? = some (k, ps) := ⟨_, _, List.getElem?_eq_getElem hj'⟩
      obtain ⟨a, c, e2, e3, e4⟩ := HB.out.marks.2 j k1 ps hq
      rw [e2] at hj
      cases hj
      have hrng := HR.out.lt
      have e0' : w'.heap[w.heap.size]? = some (.cells zeroP 26 (0, 0)) := (hc.block _ (by omega) (by omega)).trans E0.out
      have hcw' : Chg w w' Nothing := CW.out.trans hc (fun i hi h => by omega)
      have d3' := hcw'.cell c3 id
      have E0' := Lib.hid e0'
      have CW' := Lib.hid hcw'
      have HG := Lib.hid hG
      have HLT := Lib.hid hlt
      have HQ := Lib.hid hq
      have z0 : w'.cell? ⟨w.heap.size, 0, none⟩ = some (.int .i64 0) := blk_cell e0' 0
      have z1 : w'.cell? ⟨w.heap.size, 1, none⟩ = some (.slice none 0 0) := blk_cell e0' 1
      have zf0 : w'.frozen? ⟨w.heap.size, 0, none⟩ = false := blk_free e0' 0
      have zf1 : w'.frozen? ⟨w.heap.size, 1, none⟩ = false := blk_free e0' 1
      clear hG hlt hc hsz e0' hcw' e2 e3 e4 ht hj' hrng d3 hq
      by_cases hgood : 0 ≤ k ∧ k < s.labels ∧ ps.length ≤ 1
      · obtain ⟨g1, g2, g3⟩ := hgood
        have q1 : decide (k < 0) = false := decide_eq_false (by omega)
        have q2 : decide ((s.labels : Int) ≤ k) = false := decide_eq_false (by omega)
        have q3 : decide ((1 : Int) < (ps.length : Int)) = false := decide_eq_false (by omega)
        have HR2 := Lib.hid (HG.out ⟨g1, g2, _, _, _, rfl, g3⟩)
        clear g1 g2 g3
        go_wp2_with fail
        go_roundg (w'.rangeLeft mb (w.heap.size + 1))
        case measure => rw [HK.out]; exact HLT.out
        case rel => exact ⟨rfl, HR2.out, E0'.out, CW'.out⟩
      · have hbad : ¬ MarksOk s := fun hm => hgood ((marksOk_iff s).1 hm _ (List.mem_of_getElem? HQ.out))
        have HBAD := Lib.hid (progE_marks hbad)
        have cases3 : (k < 0) ∨ (0 ≤ k ∧ (s.labels : Int) ≤ k) ∨ (0 ≤ k ∧ k < s.labels ∧ 1 < ps.length) := by omega
        clear hbad hgood
        rcases cases3 with g | ⟨g1, g2⟩ | ⟨g1, g2, g3⟩
        · have q1 : decide (k < 0) = true := decide_eq_true g
          clear g
          go_wp2_with fail
          refine bodyPost_ret (v := .tuple #[.agg #[.int .i64 0, .slice none 0 0], .int .i64 190]) ?_ ?_ ?_
          · exact prog_results rfl rfl (two_set E0'.out)
          · rfl
          · exact ⟨_, by rw [HBAD.out], (CW'.out.setCell (.inl (Nat.le_refl _)) _).setCell (.inl (Nat.le_refl _)) _, .inl ⟨by rw [HBAD.out]; decide, rfl⟩⟩
        · have q1 : decide (k < 0) = false := decide_eq_false (by omega)
          have q2 : decide ((s.labels : Int) ≤ k) = true := decide_eq_true g2
          clear g1 g2
          go_wp2_with fail
          refine bodyPost_ret (v := .tuple #[.agg #[.int .i64 0, .slice none 0 0], .int .i64 190]) ?_ ?_ ?_
          · exact prog_results rfl rfl (two_set E0'.out)
          · rfl
          · exact ⟨_, by rw [HBAD.out], (CW'.out.setCell (.inl (Nat.le_refl _)) _).setCell (.inl (Nat.le_refl _)) _, .inl ⟨by rw [HBAD.out]; decide, rfl⟩⟩
        · have q1 : decide (k < 0) = false := decide_eq_false (by omega)
          have q2 : decide ((s.labels : Int) ≤ k) = false := decide_eq_false (by omega)
          have q3 : decide ((1 : Int) < (ps.length : Int)) = true := decide_eq_true (by omega)
          clear g1 g2 g3
          go_wp2_with fail
          refine bodyPost_ret (v := .tuple #[.agg #[.int .i64 0, .slice none 0 0], .int .i64 190]) ?_ ?_ ?_
          · exact prog_results rfl rfl (two_set E0'.out)
          · rfl
          · exact ⟨_, by rw [HBAD.out], (CW'.out.setCell (.inl (Nat.le_refl _)) _).setCell (.inl (Nat.le_refl _)) _, .inl ⟨by rw [HBAD.out]; decide, rfl⟩⟩
end Go.Proofs.YtgeapkalabijmaaGreat
