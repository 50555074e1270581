/- The machine plainly: numbers that are fixed, a step, what it asks. -/
import Derived.Test.YtgeapkalabijmaaGreatK3
import Derived.Test.YtgeapkalabijmaaGreatK5
import Derived.Test.YtgeapkalabijmaaGreatK4
import Derived.Laws.FloatBits
import Derived.Deep.AppendLies
namespace Go.Proofs.YtgeapkalabijmaaGreat
open Go Go.RowKit
set_option maxRecDepth 100000
set_option maxHeartbeats 1000000
set_option linter.unusedVariables false
set_option linter.unusedSimpArgs false

/-- A number that is fixed: no other NaN. -/
def Num (x : Nat) : Prop := fixB x = x ∧ x < 18446744073709551616
theorem Num.fix {x : Nat} (h : x < 18446744073709551616) : Num (fixB x) := ⟨fixB_fix x, fixB_lt h⟩
theorem Num.zero : Num 0 := ⟨by decide, by decide⟩
theorem qn_num : Num qn := ⟨by decide, by decide⟩
theorem Num.ite {c : Prop} [Decidable c] {a b : Nat} (ha : Num a) (hb : Num b) : Num (if c then a else b) := by
  split
  · exact ha
  · exact hb
theorem floatInt_lt (n : Int) : floatOfInt .f64 n < 18446744073709551616 := Ieee.Format.write_lt f64 (.number (decide (n < 0)) n.natAbs 0)
theorem yes_num (b : Bool) : Num (fixB (yesW b)) := Num.fix (by unfold yesW; split <;> decide)
theorem wrap_u64_lt (z : Int) : (IntKind.wrap .u64 z).toNat < 18446744073709551616 := by
  have h : IntKind.wrap .u64 z = z % 18446744073709551616 := rfl
  rw [h]
  omega
theorem abs_num (x : Nat) : Num (fixB (absW x)) := Num.fix (wrap_u64_lt _)
theorem neg_num' {x : Nat} (h : Num x) : Num (fixB (Op.negFloat .f64 (fixB x))) := by
  refine Num.fix ?_
  rw [neg_xor]
  exact Nat.xor_lt_two_pow (n := 64) (fixB_lt h.2) (by decide)
theorem whole_num (way : Ieee.Toward) (x : Nat) : Num (wholeV way x) := by
  unfold wholeV
  exact Num.ite qn_num (Num.fix (Ieee.Format.write_lt f64 _))
theorem sqrt_num (x : Nat) : Num (sqrtV x) := by
  unfold sqrtV
  cases h : f64.sqrt x with
  | none => exact qn_num
  | some r => exact Num.fix (Ieee.Format.sqrt_lt f64 h)
theorem sign_num {x : Nat} (h : Num x) : Num (fixB (signR x)) := by
  refine Num.fix ?_
  unfold signR
  split
  · decide
  split
  · decide
  · exact h.2
theorem Num.one {x : Nat} (op : Int) (h : Num x) : Num (oneV op x) := by
  unfold oneV
  exact Num.ite (neg_num' h) (Num.ite (abs_num _) (Num.ite (whole_num _ _) (Num.ite (sqrt_num _) (Num.ite (yes_num _) (Num.ite (yes_num _) (Num.ite (sign_num h) (Num.ite (Num.fix (floatInt_lt _)) Num.zero)))))))
theorem ar_num {op : BinOp} (a b : Nat) : Num (arV op a b) := by
  unfold arV
  cases h : floatBits op .f64 a b with
  | none => exact qn_num
  | some r =>
    refine Num.fix ?_
    unfold floatBits at h
    cases op <;> first | exact Ieee.Format.add_lt f64 h | exact Ieee.Format.sub_lt f64 h | exact Ieee.Format.mul_lt f64 h | exact Ieee.Format.div_lt f64 h | (simp at h)
theorem mod_num (x y : Nat) : Num (fixB (modV x y)) := by
  refine Num.fix ?_
  unfold modV
  split
  · split
    · exact floatInt_lt _
    · decide
  · decide
theorem first_num {x y : Nat} (s : Int) (hx : Num x) (hy : Num y) : Num (fixB (firstW x y s)) := by
  refine Num.fix ?_
  unfold firstW
  split
  · decide
  split
  · decide
  split
  · exact hy.2
  · exact hx.2
theorem Num.two {x y : Nat} (op : Int) (hx : Num x) (hy : Num y) : Num (twoV op x y) := by
  unfold twoV
  exact Num.ite (ar_num _ _) (Num.ite (ar_num _ _) (Num.ite (ar_num _ _) (Num.ite (ar_num _ _) (Num.ite (mod_num _ _) (Num.ite (first_num _ hx hy) (Num.ite (first_num _ hx hy) (Num.ite (yes_num _) (Num.ite (yes_num _) (Num.ite (yes_num _) (Num.ite (yes_num _) (Num.ite (yes_num _) Num.zero)))))))))))

/-- A machine. waits, cell: what it waits for; how: how it ended. -/
structure Mc where
  cells : Int
  threads : Int
  fuel : Int
  writes : Int
  tag : Int
  code : List Ins
  args : Nat → Nat
  locals : Nat → Nat
  s : List Nat
  calls : List Int
  at_ : Nat
  used : Nat
  waits : Bool
  cell : Int
  how : Int × Int × Int
  out : List Nat
  reads : List (Int × Nat)
  buf : List (Int × Nat)
def Mc.bad (m : Mc) : Bool := checkE m.tag m.code != 0
/-- What a step asks, or tells. -/
structure AskD where
  kind : Int
  cell : Int
  x : Nat
  first : Bool
def askNone : AskD := ⟨0, 0, 0, false⟩
def askEnd : AskD := ⟨4, 0, 0, false⟩
def askV (a : AskD) : Value := .agg #[.int .i64 a.kind, .int .i64 a.cell, fl a.x, .bool a.first]
/-- The n-th number from the top. -/
def topN (s : List Nat) (n : Nat) : Nat := s.getD (s.length - 1 - n) 0
def needOf (x : Ins) : Int := if x.1 = 5 then x.2.1 + 1 else takesOf x.1
def roomOk (m : Mc) (x : Ins) : Bool := decide (needOf x ≤ m.s.length) && decide ((m.s.length : Int) - takesOf x.1 + laysOf x.1 ≤ 64) && !(x.1 == 14 && m.calls.length == 16)
def Mc.fails (m : Mc) (e : Int) : Mc := { m with how := (3, 0, e) }
def locSet (f : Nat → Nat) (n v : Nat) : Nat → Nat := fun k => if k = n then v else f k
def getN (l : List (Int × Nat)) (c : Int) : Option Nat := (pos l c).map fun i => (l.getD i (0, 0)).2
def putN (l : List (Int × Nat)) (c : Int) (x : Nat) : List (Int × Nat) := match pos l c with | some i => l.set i (c, x) | none => l ++ [(c, x)]

/-- What an instruction does with numbers alone. -/
def reckonP (m : Mc) (x : Ins) : Mc :=
  if x.1 = 1 then { m with s := m.s ++ [fixB x.2.2] }
  else if x.1 = 2 then { m with s := m.s.dropLast }
  else if x.1 = 3 then { m with s := m.s ++ [topN m.s 0] }
  else if x.1 = 4 then { m with s := m.s.dropLast.dropLast ++ [topN m.s 0, topN m.s 1] }
  else if x.1 = 5 then { m with s := m.s ++ [topN m.s x.2.1.toNat] }
  else if x.1 = 6 then { m with s := m.s ++ [m.args x.2.1.toNat] }
  else if x.1 = 7 then { m with s := m.s ++ [m.locals x.2.1.toNat] }
  else if x.1 = 8 then { m with s := m.s.dropLast, locals := locSet m.locals x.2.1.toNat (topN m.s 0) }
  else if x.1 = 9 then { m with s := m.s.dropLast ++ [oneV x.2.1 (topN m.s 0)] }
  else if x.1 = 10 then { m with s := m.s.dropLast.dropLast ++ [twoV x.2.1 (topN m.s 1) (topN m.s 0)] }
  else if x.1 = 18 then { m with s := m.s.dropLast, out := m.out ++ [topN m.s 0] }
  else m
def readP (m : Mc) : Mc × AskD :=
  if idxE (topN m.s 0) m.cells = 0 then
    let c := idxI (topN m.s 0) m.cells
    match getN m.buf c with
    | none => ({ m with s := m.s.dropLast, waits := true, cell := c }, ⟨1, c, 0, false⟩)
    | some x => ({ m with s := m.s.dropLast ++ [x], reads := m.reads ++ [(c, x)] }, ⟨2, c, x, false⟩)
  else (m.fails 50, askEnd)
def writeP (m : Mc) : Mc × AskD :=
  if m.tag = 2 then
    if idxE (topN m.s 0) m.cells = 0 then
      let c := idxI (topN m.s 0) m.cells
      let x := topN m.s 1
      match getN m.buf c with
      | none => if (m.buf.length : Int) = m.writes then (m.fails 70, askEnd) else ({ m with s := m.s.dropLast.dropLast, buf := putN m.buf c x }, ⟨3, c, x, true⟩)
      | some _ => ({ m with s := m.s.dropLast.dropLast, buf := putN m.buf c x }, ⟨3, c, x, false⟩)
    else (m.fails 50, askEnd)
  else (m.fails 81, askEnd)
def doP (m : Mc) (x : Ins) : Mc × AskD :=
  if x.1 = 16 then readP m
  else if x.1 = 17 then writeP m
  else if x.1 = 19 then ({ m with how := (2, x.2.1, 0) }, askEnd)
  else if x.1 = 20 then ({ m with how := (1, 0, 0) }, askEnd)
  else if x.1 = 11 then ({ m with at_ := x.2.1.toNat }, askNone)
  else if x.1 = 12 then ((if trueB (topN m.s 0) then { m with s := m.s.dropLast, at_ := x.2.1.toNat } else { m with s := m.s.dropLast }), askNone)
  else if x.1 = 13 then ((if trueB (topN m.s 0) then { m with s := m.s.dropLast } else { m with s := m.s.dropLast, at_ := x.2.1.toNat }), askNone)
  else if x.1 = 14 then ({ m with calls := m.calls ++ [(m.at_ : Int)], at_ := x.2.1.toNat }, askNone)
  else if x.1 = 15 then (match m.calls.getLast? with | none => ({ m with how := (1, 0, 0) }, askEnd) | some a => ({ m with calls := m.calls.dropLast, at_ := a.toNat }, askNone))
  else (reckonP m x, askNone)
/-- A step. -/
def stepP (m : Mc) : Mc × AskD :=
  if m.waits then (m, ⟨1, m.cell, 0, false⟩)
  else if m.how.1 ≠ 0 then (m, askEnd)
  else if m.bad then (m.fails 50, askEnd)
  else if (m.used : Int) = m.fuel then (m.fails 80, askEnd)
  else match m.code[m.at_]? with
    | none => (m.fails 50, askEnd)
    | some x =>
      let m1 := { m with used := m.used + 1, at_ := m.at_ + 1 }
      if roomOk m x then doP m1 x else (m1.fails 82, askEnd)
/-- A number is given. -/
def giveP (m : Mc) (x : Nat) : Mc × Int := if m.waits then ({ m with s := m.s ++ [fixB x], reads := m.reads ++ [(m.cell, fixB x)], waits := false }, 0) else (m, 3)
end Go.Proofs.YtgeapkalabijmaaGreat

/- The machine in memory. -/
namespace Go.Proofs.YtgeapkalabijmaaGreat
open Go Go.RowKit
set_option maxRecDepth 100000
set_option maxHeartbeats 1000000
set_option linter.unusedVariables false
set_option linter.unusedSimpArgs false

/-- Its cells. -/
def mcells (s : Mc) (pn pc pb : Nat) (ac : Option Addr) (cc : Nat) (ao : Option Addr) (co : Nat) (ar : Option Addr) (cr : Nat) : Array Value :=
  #[.int .i64 s.cells, .int .i64 s.threads, .int .i64 s.fuel, .int .i64 s.writes, .int .i64 s.tag, .slice ac s.code.length cc, .bool s.bad, fl (s.args 0), fl (s.args 1), fl (s.args 2), fl (s.args 3), fl (s.args 4), fl (s.args 5), fl (s.args 6), fl (s.args 7), fl (s.locals 0), fl (s.locals 1), fl (s.locals 2), fl (s.locals 3), fl (s.locals 4), fl (s.locals 5), fl (s.locals 6), fl (s.locals 7), .pointer (some ⟨pn, 0, none⟩), .pointer (some ⟨pc, 0, none⟩), .int .i64 (s.at_ : Int), .int .i64 (s.used : Int), .bool s.waits, .int .i64 s.cell, .int .i64 s.how.1, .int .i64 s.how.2.1, .int .i64 s.how.2.2, .slice ao s.out.length co, .slice ar s.reads.length cr, .pointer (some ⟨pb, 0, none⟩)]
/-- A row whose block bears a tag. -/
def RowT (w : World) (T : Nat → Nat) (i : Nat) (e : TypeId) (size : Nat) (v : Value) (n : Nat) (xs : List Value) : Prop :=
  w.ownsRow 0 e size v n xs ∧ ∀ b, v.ownBlock = some b → T b = i
theorem RowT.move {w w' : World} {T T' : Nat → Nat} {i : Nat} {e : TypeId} {size : Nat} {v : Value} {n : Nat} {xs : List Value} (h : RowT w T i e size v n xs) (hs : ∀ b, T b = i → w'.heap[b]? = w.heap[b]? ∧ T' b = i) : RowT w' T' i e size v n xs :=
  ⟨ownsRow_heap h.1 (fun k hk => (hs k (h.2 k hk)).1), fun b hb => (hs b (h.2 b hb)).2⟩
abbrev SFk := Stk 159 61
abbrev SIk := Stk 161 3

/-- A machine at block m; T tells which block is what. -/
structure MaAt (w : World) (m : Nat) (T : Nat → Nat) (s : Mc) (pn pc pb : Nat) (ac : Option Addr) (cc : Nat) (ao : Option Addr) (co : Nat) (ar : Option Addr) (cr : Nat) : Prop where
  blk : w.heap[m]? = some (.cells (mcells s pn pc pb ac cc ao co ar cr) 142 (0, 0))
  tm : T m = 1
  code : RowT w T 2 73 3 (.slice ac s.code.length cc) s.code.length (insV s.code)
  out : RowT w T 3 61 1 (.slice ao s.out.length co) s.out.length (s.out.map fl)
  reads : RowT w T 4 152 2 (.slice ar s.reads.length cr) s.reads.length (tchV s.reads)
  num : SFk w pn (fun k => T k = 5) (s.s.map (Value.float .f64)) 64
  cal : SIk w pc (fun k => T k = 6) (s.calls.map (Value.int .i64)) 16
  buf : Bf w pb (fun k => T k = 7) s.buf s.writes
  lt : ∀ k, T k ≠ 0 → k < w.heap.size
def upT (T : Nat → Nat) (i n n' : Nat) : Nat → Nat := fun k => if n ≤ k ∧ k < n' then i else T k
theorem upT_old {T : Nat → Nat} {i n n' k : Nat} (h : k < n) : upT T i n n' k = T k := if_neg (by omega)

section
variable {w w1 w2 w' : World} {m : Nat} {T : Nat → Nat} {s : Mc} {pn pc pb : Nat} {ac ao ar : Option Addr} {cc co cr : Nat}

theorem MaAt.zero (h : MaAt w m T s pn pc pb ac cc ao co ar cr) {k : Nat} (hk : w.heap.size ≤ k) : T k = 0 := by
  rcases Nat.eq_zero_or_pos (T k) with e | e
  · exact e
  · have := h.lt k (by omega); omega
theorem MaAt.pre (h : MaAt w m T s pn pc pb ac cc ao co ar cr) {i j n' : Nat} (hij : i ≠ j) (hj : j ≠ 0) : (fun k => upT T i w.heap.size n' k = j) = (fun k => T k = j) := by
  funext k
  apply propext
  unfold upT
  constructor
  · intro hk
    split at hk
    · exact absurd hk hij
    · exact hk
  · intro hk
    have := h.lt k (by omega)
    rw [if_neg (by omega)]
    exact hk
theorem MaAt.own (h : MaAt w m T s pn pc pb ac cc ao co ar cr) (i : Nat) (hi : i ≠ 0) (n' : Nat) : (fun k => upT T i w.heap.size n' k = i) = fun k => T k = i ∨ (w.heap.size ≤ k ∧ k < n') := by
  funext k
  apply propext
  unfold upT
  constructor
  · intro hk
    split at hk
    · rename_i hr; exact .inr hr
    · exact .inl hk
  · rintro (hk | hk)
    · have := h.lt k (by omega)
      rw [if_neg (by omega)]
      exact hk
    · rw [if_pos hk]
theorem MaAt.mv (h : MaAt w m T s pn pc pb ac cc ao co ar cr) {i : Nat} (hc : Chg w w' (fun k => T k = i)) {j : Nat} (hij : i ≠ j) (hj : j ≠ 0) : ∀ b, T b = j → w'.heap[b]? = w.heap[b]? ∧ upT T i w.heap.size w'.heap.size b = j := fun b hb => by
  have hl := h.lt b (by omega)
  exact ⟨hc.block b hl (fun e => hij (e.symm.trans hb)), (upT_old hl).trans hb⟩
theorem MaAt.fits (h : MaAt w m T s pn pc pb ac cc ao co ar cr) : s.s.length ≤ 64 ∧ s.calls.length ≤ 16 ∧ (s.buf.length : Int) ≤ s.writes ∧ s.writes ≤ 32 ∧ (s.buf.map (·.1)).Nodup := by
  have a := h.num.fits.1
  have b := h.cal.fits.1
  have c := h.buf.fits
  rw [List.length_map] at a b
  exact ⟨by omega, by omega, c.2.1, c.2.2, c.1⟩
theorem MaAt.upLt (h : MaAt w m T s pn pc pb ac cc ao co ar cr) (hz : w.heap.size ≤ w'.heap.size) (i : Nat) : ∀ k, upT T i w.heap.size w'.heap.size k ≠ 0 → k < w'.heap.size := fun k hk => by
  unfold upT at hk
  split at hk
  · omega
  · have := h.lt k hk; omega
theorem MaAt.upNew {i n' : Nat} : ∀ k, upT T i w.heap.size n' k ≠ 0 → T k ≠ 0 ∨ w.heap.size ≤ k := fun k hk => by
  unfold upT at hk
  split at hk
  · exact .inr (by omega)
  · exact .inl hk

/-- Nothing of it has changed. -/
theorem MaAt.frame (h : MaAt w m T s pn pc pb ac cc ao co ar cr) (hz : w.heap.size ≤ w'.heap.size) (hs : ∀ b, T b ≠ 0 → w'.heap[b]? = w.heap[b]?) : MaAt w' m T s pn pc pb ac cc ao co ar cr :=
  ⟨(hs m (by rw [h.tm]; decide)).trans h.blk, h.tm, h.code.move (fun b hb => ⟨hs b (by omega), hb⟩), h.out.move (fun b hb => ⟨hs b (by omega), hb⟩), h.reads.move (fun b hb => ⟨hs b (by omega), hb⟩),
    h.num.frame hz (fun k hk => hs k (by omega)), h.cal.frame hz (fun k hk => hs k (by omega)), h.buf.frame hz (fun k hk => hs k (by omega)), fun k hk => Nat.lt_of_lt_of_le (h.lt k hk) hz⟩
/-- Its stack of numbers has changed. -/
theorem MaAt.nums (h : MaAt w m T s pn pc pb ac cc ao co ar cr) {zs : List Nat} (hc : Chg w w' (fun k => T k = 5)) (hs : SFk w' pn (Grow (fun k => T k = 5) w w') (zs.map (Value.float .f64)) 64) :
    MaAt w' m (upT T 5 w.heap.size w'.heap.size) { s with s := zs } pn pc pb ac cc ao co ar cr := by
  have mv := fun j h1 h2 => h.mv (j := j) hc h1 h2
  refine ⟨((mv 1 (by decide) (by decide)) m h.tm).1.trans h.blk, ((mv 1 (by decide) (by decide)) m h.tm).2, h.code.move (mv 2 (by decide) (by decide)), h.out.move (mv 3 (by decide) (by decide)), h.reads.move (mv 4 (by decide) (by decide)), ?_, ?_, ?_, h.upLt hc.size 5⟩
  · rw [h.own 5 (by decide)]; exact hs
  · rw [h.pre (by decide) (by decide)]; exact h.cal.chg hc (fun k hk e => by omega)
  · rw [h.pre (by decide) (by decide)]; exact h.buf.chg hc (fun k hk e => by omega)
/-- Its stack of places has changed. -/
theorem MaAt.cals (h : MaAt w m T s pn pc pb ac cc ao co ar cr) {zs : List Int} (hc : Chg w w' (fun k => T k = 6)) (hs : SIk w' pc (Grow (fun k => T k = 6) w w') (zs.map (Value.int .i64)) 16) :
    MaAt w' m (upT T 6 w.heap.size w'.heap.size) { s with calls := zs } pn pc pb ac cc ao co ar cr := by
  have mv := fun j h1 h2 => h.mv (j := j) hc h1 h2
  refine ⟨((mv 1 (by decide) (by decide)) m h.tm).1.trans h.blk, ((mv 1 (by decide) (by decide)) m h.tm).2, h.code.move (mv 2 (by decide) (by decide)), h.out.move (mv 3 (by decide) (by decide)), h.reads.move (mv 4 (by decide) (by decide)), ?_, ?_, ?_, h.upLt hc.size 6⟩
  · rw [h.pre (by decide) (by decide)]; exact h.num.chg hc (fun k hk e => by omega)
  · rw [h.own 6 (by decide)]; exact hs
  · rw [h.pre (by decide) (by decide)]; exact h.buf.chg hc (fun k hk e => by omega)
/-- Its buffer has changed. -/
theorem MaAt.bufs (h : MaAt w m T s pn pc pb ac cc ao co ar cr) {zs : List (Int × Nat)} (hc : Chg w w' (fun k => T k = 7)) (hs : Bf w' pb (Grow (fun k => T k = 7) w w') zs s.writes) :
    MaAt w' m (upT T 7 w.heap.size w'.heap.size) { s with buf := zs } pn pc pb ac cc ao co ar cr := by
  have mv := fun j h1 h2 => h.mv (j := j) hc h1 h2
  refine ⟨((mv 1 (by decide) (by decide)) m h.tm).1.trans h.blk, ((mv 1 (by decide) (by decide)) m h.tm).2, h.code.move (mv 2 (by decide) (by decide)), h.out.move (mv 3 (by decide) (by decide)), h.reads.move (mv 4 (by decide) (by decide)), ?_, ?_, ?_, h.upLt hc.size 7⟩
  · rw [h.pre (by decide) (by decide)]; exact h.num.chg hc (fun k hk e => by omega)
  · rw [h.pre (by decide) (by decide)]; exact h.cal.chg hc (fun k hk e => by omega)
  · rw [h.own 7 (by decide)]; exact hs
/-- A field of its own has been laid. -/
theorem MaAt.fld (h : MaAt w m T s pn pc pb ac cc ao co ar cr) (o : Nat) (v : Value) (s' : Mc) (e : (mcells s pn pc pb ac cc ao co ar cr).setIfInBounds o v = mcells s' pn pc pb ac cc ao co ar cr)
    (e1 : s'.code = s.code) (e2 : s'.out = s.out) (e3 : s'.reads = s.reads) (e4 : s'.s = s.s) (e5 : s'.calls = s.calls) (e6 : s'.buf = s.buf) (e7 : s'.writes = s.writes) : MaAt (w.setCell ⟨m, o, none⟩ v) m T s' pn pc pb ac cc ao co ar cr := by
  have hz : (w.setCell ⟨m, o, none⟩ v).heap.size = w.heap.size := by simp
  have hs : ∀ b, T b ≠ 1 → (w.setCell ⟨m, o, none⟩ v).heap[b]? = w.heap[b]? := fun b hb => Below.heap_setCell _ _ _ _ (fun e => hb (by rw [e]; exact h.tm))
  have hb := blk_set h.blk o v
  rw [e] at hb
  refine ⟨hb, h.tm, ?_, ?_, ?_, ?_, ?_, ?_, fun k hk => by rw [hz]; exact h.lt k hk⟩
  · rw [e1]; exact h.code.move (fun b hb => ⟨hs b (by omega), hb⟩)
  · rw [e2]; exact h.out.move (fun b hb => ⟨hs b (by omega), hb⟩)
  · rw [e3]; exact h.reads.move (fun b hb => ⟨hs b (by omega), hb⟩)
  · rw [e4]; exact h.num.frame (Nat.le_of_eq hz.symm) (fun k hk => hs k (by omega))
  · rw [e5]; exact h.cal.frame (Nat.le_of_eq hz.symm) (fun k hk => hs k (by omega))
  · rw [e6, e7]; exact h.buf.frame (Nat.le_of_eq hz.symm) (fun k hk => hs k (by omega))
/-- The code's header stays. -/
theorem MaAt.hdr {T' : Nat → Nat} {s' : Mc} {pn' pc' pb' : Nat} {ao' ar' : Option Addr} {co' cr' : Nat} (h : MaAt w m T s pn pc pb ac cc ao co ar cr) (h' : MaAt w' m T' s' pn' pc' pb' ac cc ao' co' ar' cr') (e : s'.code = s.code) : ∀ v, w.cell? ⟨m, 5, none⟩ = some v → w'.cell? ⟨m, 5, none⟩ = some v := fun v hv => by
  have h1 : w.cell? ⟨m, 5, none⟩ = some (.slice ac s.code.length cc) := blk_cell h.blk 5
  have h2 : w'.cell? ⟨m, 5, none⟩ = some (.slice ac s'.code.length cc) := blk_cell h'.blk 5
  rw [e] at h2
  rw [h1] at hv
  rw [h2]
  exact hv
theorem MaAt.chg1 (h : MaAt w m T s pn pc pb ac cc ao co ar cr) (o : Nat) (v : Value) : Chg w (w.setCell ⟨m, o, none⟩ v) (fun k => T k ≠ 0) := (Chg.refl _ _).setCell (.inr (by show T m ≠ 0; rw [h.tm]; decide)) _
end

/-- A machine at block m, all of whose blocks lie in F. -/
def Ma (w : World) (m : Nat) (F : Nat → Prop) (s : Mc) : Prop :=
  (∀ k, F k → k < w.heap.size) ∧ ∃ T pn pc pb ac cc ao co ar cr, MaAt w m T s pn pc pb ac cc ao co ar cr ∧ ∀ k, T k ≠ 0 → F k
/-- From w to w' the machine has become s', and nothing else has changed. -/
structure MaS (w w' : World) (m : Nat) (F : Nat → Prop) (s' : Mc) : Prop where
  ma : Ma w' m (Grow F w w') s'
  chg : Chg w w' F
  hdr : ∀ v, w.cell? ⟨m, 5, none⟩ = some v → w'.cell? ⟨m, 5, none⟩ = some v
section
variable {w w1 w2 w' : World} {m : Nat} {F S : Nat → Prop} {s s' s1 s2 : Mc}
theorem Ma.lt (h : Ma w m F s) : ∀ k, F k → k < w.heap.size := h.1
theorem Ma.chg (h : Ma w m F s) (hc : Chg w w' S) (hd : ∀ k, F k → ¬ S k) : Ma w' m F s := by
  obtain ⟨h1, T, pn, pc, pb, ac, cc, ao, co, ar, cr, h2, h3⟩ := h
  exact ⟨fun k hk => Nat.lt_of_lt_of_le (h1 k hk) hc.size, T, pn, pc, pb, ac, cc, ao, co, ar, cr, h2.frame hc.size (fun b hb => hc.block b (h1 b (h3 b hb)) (hd b (h3 b hb))), h3⟩
theorem Ma.quiet (h : Ma w m F s) (hc : Chg w w' Nothing) : Ma w' m F s := h.chg hc (fun _ _ h => h)
theorem Ma.wider {F' : Nat → Prop} (h : Ma w m F s) (hF : ∀ k, F k → F' k) (hlt : ∀ k, F' k → k < w.heap.size) : Ma w m F' s := by
  obtain ⟨h1, T, pn, pc, pb, ac, cc, ao, co, ar, cr, h2, h3⟩ := h
  exact ⟨hlt, T, pn, pc, pb, ac, cc, ao, co, ar, cr, h2, fun k hk => hF k (h3 k hk)⟩
theorem Ma.grow (h : Ma w' m F s) : Ma w' m (Grow F w w') s := h.wider (fun k hk => .inl hk) (fun k hk => by rcases hk with hk | hk; exact h.lt k hk; exact hk.2)
theorem MaS.of (h : Ma w m F s) (hc : Chg w w' Nothing) : MaS w w' m F s := ⟨(h.quiet hc).grow, hc.mono (fun _ _ h => h.elim), fun v hv => hc.cell hv id⟩
theorem MaS.step {T T' : Nat → Nat} {pn pc pb : Nat} {ac ao ar : Option Addr} {cc co cr : Nat} (hF : ∀ k, F k → k < w.heap.size) (hT : ∀ k, T k ≠ 0 → F k) (h : MaAt w' m T' s' pn pc pb ac cc ao co ar cr) (hc : Chg w w' (fun k => T k ≠ 0)) (hn : ∀ k, T' k ≠ 0 → T k ≠ 0 ∨ w.heap.size ≤ k) (hh : ∀ v, w.cell? ⟨m, 5, none⟩ = some v → w'.cell? ⟨m, 5, none⟩ = some v) : MaS w w' m F s' :=
  ⟨⟨fun k hk => by rcases hk with hk | hk; exact Nat.lt_of_lt_of_le (hF k hk) hc.size; exact hk.2, T', pn, pc, pb, ac, cc, ao, co, ar, cr, h, fun k hk => (hn k hk).imp (hT k) (fun e => ⟨e, h.lt k hk⟩)⟩, hc.mono (fun k _ hk => hT k hk), hh⟩
theorem MaS.then (a : MaS w w1 m F s1) (b : MaS w1 w2 m (Grow F w w1) s2) : MaS w w2 m F s2 := by
  have e1 := a.chg.size
  have e2 := b.chg.size
  refine ⟨b.ma.wider (fun k hk => ?_) (fun k hk => ?_), a.chg.trans b.chg (fun k hk h => ?_), fun v hv => b.hdr v (a.hdr v hv)⟩
  · rcases hk with (hk | hk) | hk
    · exact .inl hk
    · exact .inr ⟨hk.1, by omega⟩
    · exact .inr ⟨by omega, hk.2⟩
  · rcases hk with hk | hk
    · exact b.ma.lt k (.inl (.inl hk))
    · exact hk.2
  · rcases h with h | h
    · exact h
    · omega
theorem MaS.after (a : Chg w w1 Nothing) (b : MaS w1 w2 m F s2) : MaS w w2 m F s2 := by
  have e1 := a.size
  refine ⟨b.ma.wider (fun k hk => ?_) (fun k hk => ?_), (a.mono (fun _ _ h => h.elim)).trans b.chg (fun k hk h => h), fun v hv => b.hdr v (a.cell hv id)⟩
  · rcases hk with hk | hk
    · exact .inl hk
    · exact .inr ⟨by omega, hk.2⟩
  · rcases hk with hk | hk
    · exact b.ma.lt k (.inl hk)
    · exact hk.2
theorem MaS.quiet (a : MaS w w1 m F s1) (b : Chg w1 w2 Nothing) : MaS w w2 m F s1 := a.then (MaS.of a.ma b)
end
end Go.Proofs.YtgeapkalabijmaaGreat

/- The machine's small functions. -/
namespace Go.Proofs.YtgeapkalabijmaaGreat
open Go Go.RowKit
set_option maxRecDepth 100000
set_option maxHeartbeats 1000000
set_option linter.unusedVariables false
set_option linter.unusedSimpArgs false

theorem must_ok (w : World) : Calls Tryz.prog 118 #[.int .i64 0] w fun e w' => e = .returned (.tuple #[]) ∧ w = w' := by
  go_enter Tryz.func118, Tryz.ntmps118
  go_wp2
  go_end0
  exact ⟨rfl, rfl⟩
/-- A chain of panics: a fault of number n. -/
def faultC (n : Int) : List PanicEntry := [{ v := .iface 144 (.int .i64 n), recovered := false }]
theorem must_bad (n : Int) (w : World) (h : n ≠ 0) : Calls Tryz.prog 118 #[.int .i64 n] w fun e w' => e = .panicked (faultC n) ∧ w = w' := by
  have hb : (n != 0) = true := by simpa using h
  clear h
  go_enter Tryz.func118, Tryz.ntmps118
  go_wp2
  exact ⟨rfl, rfl, rfl⟩

theorem topN_last (s : List Nat) : topN s 0 = s.getLastD 0 := by
  unfold topN
  rw [List.getLastD_eq_getLast?, List.getLast?_eq_getElem?, List.getD_eq_getElem?_getD]
  rfl
theorem mpush_any (m : Nat) (F : Nat → Prop) (s : Mc) (x : Nat) (w : World) (h : Ma w m F s) (hl : s.s.length < 64) :
    Calls Tryz.prog 122 #[.pointer (some ⟨m, 0, none⟩), fl x] w fun e w' => e = .returned (.tuple #[]) ∧ MaS w w' m F { s with s := s.s ++ [x] } := by
  obtain ⟨hF, T, pn, pc, pb, ac, cc, ao, co, ar, cr, hM, hT⟩ := h
  have c23 : w.cell? ⟨m, 23, none⟩ = some (.pointer (some ⟨pn, 0, none⟩)) := blk_cell hM.blk 23
  have HM := Lib.hid hM
  have HF := Lib.hid hF
  have HT := Lib.hid hT
  have HL := Lib.hid hl
  clear hM hF hT hl
  go_enter Tryz.func122, Tryz.ntmps122
  go_wp2_with fail
  refine (SF.push_any pn _ s.s 64 x w HM.out.num).mono ?_
  rintro e w1 ⟨rfl, s1, c1⟩
  have e1 : pushL s.s 64 x = s.s ++ [x] := by unfold pushL; rw [if_pos (by have := HL.out; omega)]
  rw [e1] at s1
  have R := Lib.hid (MaS.step HF.out HT.out (HM.out.nums c1 s1) (c1.mono (fun k _ hk => by omega)) MaAt.upNew (HM.out.hdr (HM.out.nums c1 s1) rfl))
  clear s1 c1 e1
  go_wp2_with fail
  go_end0
  exact ⟨rfl, R.out⟩
theorem mpop_any (m : Nat) (F : Nat → Prop) (s : Mc) (w : World) (h : Ma w m F s) :
    Calls Tryz.prog 161 #[.pointer (some ⟨m, 0, none⟩)] w fun e w' => e = .returned (fl (topN s.s 0)) ∧ MaS w w' m F { s with s := s.s.dropLast } := by
  obtain ⟨hF, T, pn, pc, pb, ac, cc, ao, co, ar, cr, hM, hT⟩ := h
  have c23 : w.cell? ⟨m, 23, none⟩ = some (.pointer (some ⟨pn, 0, none⟩)) := blk_cell hM.blk 23
  have HM := Lib.hid hM
  have HF := Lib.hid hF
  have HT := Lib.hid hT
  have HE := Lib.hid (topN_last s.s)
  clear hM hF hT
  go_enter Tryz.func161, Tryz.ntmps161
  go_wp2_with fail
  refine (SF.pop_any pn _ s.s 64 w HM.out.num).mono ?_
  rintro e w1 ⟨rfl, s1, c1⟩
  have R := Lib.hid (MaS.step HF.out HT.out (HM.out.nums c1 s1.grow) (c1.mono (fun k _ hk => by omega)) MaAt.upNew (HM.out.hdr (HM.out.nums c1 s1.grow) rfl))
  clear s1 c1
  go_wp2_with fail
  go_ret
  exact ⟨by rw [HE.out]; rfl, R.out⟩
theorem ends_results {tmps : Array Value} {W : World} {r0 : Nat} {a : AskD} {T : TypeId} {fr : Nat × Nat} (h : tmps.getD 4 undef = .pointer (some ⟨r0, 0, none⟩)) (hb : W.heap[r0]? = some (.cells #[.int .i64 a.kind, .int .i64 a.cell, fl a.x, .bool a.first] T fr)) :
    (results Tryz.f117 tmps).run Tryz.prog W = .ok (askV a) W := by
  have h' : tmps[4]?.getD undef = .pointer (some ⟨r0, 0, none⟩) := by simpa using h
  have hl := run_loadVar_row (P := Tryz.prog) W r0 T 99 #[.int .i64 a.kind, .int .i64 a.cell, fl a.x, .bool a.first] fr _ hb Tryz.underlying99 rfl (by kernel_rfl)
  have k0 : W.cell? ⟨r0, 0, none⟩ = some (.int .i64 a.kind) := blk_cell hb 0
  have k1 : W.cell? ⟨r0, 1, none⟩ = some (.int .i64 a.cell) := blk_cell hb 1
  have k2 : W.cell? ⟨r0, 2, none⟩ = some (fl a.x) := blk_cell hb 2
  have k3 : W.cell? ⟨r0, 3, none⟩ = some (.bool a.first) := blk_cell hb 3
  simp [results, Tryz.results117, h', asAddr, hl, k0, k1, k2, k3, go_sem, askV]
theorem read_results {tmps : Array Value} {W : World} {r0 : Nat} {a : AskD} {T : TypeId} {fr : Nat × Nat} (h : tmps.getD 2 undef = .pointer (some ⟨r0, 0, none⟩)) (hb : W.heap[r0]? = some (.cells #[.int .i64 a.kind, .int .i64 a.cell, fl a.x, .bool a.first] T fr)) :
    (results Tryz.f158 tmps).run Tryz.prog W = .ok (askV a) W := by
  have h' : tmps[2]?.getD undef = .pointer (some ⟨r0, 0, none⟩) := by simpa using h
  have hl := run_loadVar_row (P := Tryz.prog) W r0 T 99 #[.int .i64 a.kind, .int .i64 a.cell, fl a.x, .bool a.first] fr _ hb Tryz.underlying99 rfl (by kernel_rfl)
  have k0 : W.cell? ⟨r0, 0, none⟩ = some (.int .i64 a.kind) := blk_cell hb 0
  have k1 : W.cell? ⟨r0, 1, none⟩ = some (.int .i64 a.cell) := blk_cell hb 1
  have k2 : W.cell? ⟨r0, 2, none⟩ = some (fl a.x) := blk_cell hb 2
  have k3 : W.cell? ⟨r0, 3, none⟩ = some (.bool a.first) := blk_cell hb 3
  simp [results, Tryz.results158, h', asAddr, hl, k0, k1, k2, k3, go_sem, askV]
theorem write_results {tmps : Array Value} {W : World} {r0 : Nat} {a : AskD} {T : TypeId} {fr : Nat × Nat} (h : tmps.getD 2 undef = .pointer (some ⟨r0, 0, none⟩)) (hb : W.heap[r0]? = some (.cells #[.int .i64 a.kind, .int .i64 a.cell, fl a.x, .bool a.first] T fr)) :
    (results Tryz.f159 tmps).run Tryz.prog W = .ok (askV a) W := by
  have h' : tmps[2]?.getD undef = .pointer (some ⟨r0, 0, none⟩) := by simpa using h
  have hl := run_loadVar_row (P := Tryz.prog) W r0 T 99 #[.int .i64 a.kind, .int .i64 a.cell, fl a.x, .bool a.first] fr _ hb Tryz.underlying99 rfl (by kernel_rfl)
  have k0 : W.cell? ⟨r0, 0, none⟩ = some (.int .i64 a.kind) := blk_cell hb 0
  have k1 : W.cell? ⟨r0, 1, none⟩ = some (.int .i64 a.cell) := blk_cell hb 1
  have k2 : W.cell? ⟨r0, 2, none⟩ = some (fl a.x) := blk_cell hb 2
  have k3 : W.cell? ⟨r0, 3, none⟩ = some (.bool a.first) := blk_cell hb 3
  simp [results, Tryz.results159, h', asAddr, hl, k0, k1, k2, k3, go_sem, askV]
theorem do_results {tmps : Array Value} {W : World} {r0 : Nat} {a : AskD} {T : TypeId} {fr : Nat × Nat} (h : tmps.getD 4 undef = .pointer (some ⟨r0, 0, none⟩)) (hb : W.heap[r0]? = some (.cells #[.int .i64 a.kind, .int .i64 a.cell, fl a.x, .bool a.first] T fr)) :
    (results Tryz.f120 tmps).run Tryz.prog W = .ok (askV a) W := by
  have h' : tmps[4]?.getD undef = .pointer (some ⟨r0, 0, none⟩) := by simpa using h
  have hl := run_loadVar_row (P := Tryz.prog) W r0 T 99 #[.int .i64 a.kind, .int .i64 a.cell, fl a.x, .bool a.first] fr _ hb Tryz.underlying99 rfl (by kernel_rfl)
  have k0 : W.cell? ⟨r0, 0, none⟩ = some (.int .i64 a.kind) := blk_cell hb 0
  have k1 : W.cell? ⟨r0, 1, none⟩ = some (.int .i64 a.cell) := blk_cell hb 1
  have k2 : W.cell? ⟨r0, 2, none⟩ = some (fl a.x) := blk_cell hb 2
  have k3 : W.cell? ⟨r0, 3, none⟩ = some (.bool a.first) := blk_cell hb 3
  simp [results, Tryz.results120, h', asAddr, hl, k0, k1, k2, k3, go_sem, askV]
theorem mends_any (m : Nat) (F : Nat → Prop) (s : Mc) (a b c : Int) (w : World) (h : Ma w m F s) :
    Calls Tryz.prog 117 #[.pointer (some ⟨m, 0, none⟩), .agg #[.int .i64 a, .int .i64 b, .int .i64 c]] w fun e w' => e = .returned (askV askEnd) ∧ MaS w w' m F { s with how := (a, b, c) } := by
  obtain ⟨hF, T, pn, pc, pb, ac, cc, ao, co, ar, cr, hM, hT⟩ := h
  have c29 : w.cell? ⟨m, 29, none⟩ = some (.int .i64 s.how.1) := blk_cell hM.blk 29
  have c30 : w.cell? ⟨m, 30, none⟩ = some (.int .i64 s.how.2.1) := blk_cell hM.blk 30
  have c31 : w.cell? ⟨m, 31, none⟩ = some (.int .i64 s.how.2.2) := blk_cell hM.blk 31
  have f29 : w.frozen? ⟨m, 29, none⟩ = false := blk_free hM.blk 29
  have f30 : w.frozen? ⟨m, 30, none⟩ = false := blk_free hM.blk 30
  have f31 : w.frozen? ⟨m, 31, none⟩ = false := blk_free hM.blk 31
  have hm : m < w.heap.size := blk_lt hM.blk
  have hmn : ¬ m = w.heap.size := by omega
  have hmn1 : ¬ m = w.heap.size + 1 := by omega
  have HM := Lib.hid hM
  have HF := Lib.hid hF
  have HT := Lib.hid hT
  clear hM hF hT
  go_enter Tryz.func117, Tryz.ntmps117
  have A1 := HM.out.fld 29 (.int .i64 a) { s with how := (a, s.how.2) } rfl rfl rfl rfl rfl rfl rfl rfl
  have A2 := A1.fld 30 (.int .i64 b) { s with how := (a, b, s.how.2.2) } rfl rfl rfl rfl rfl rfl rfl rfl
  have A3 := A2.fld 31 (.int .i64 c) { s with how := (a, b, c) } rfl rfl rfl rfl rfl rfl rfl rfl
  have C3 := ((HM.out.chg1 29 (.int .i64 a)).trans (A1.chg1 30 (.int .i64 b)) (fun _ _ h => h)).trans (A2.chg1 31 (.int .i64 c)) (fun _ _ h => h)
  obtain ⟨W3, hW3⟩ : ∃ W3, W3 = ((w.setCell ⟨m, 29, none⟩ (.int .i64 a)).setCell ⟨m, 30, none⟩ (.int .i64 b)).setCell ⟨m, 31, none⟩ (.int .i64 c) := ⟨_, rfl⟩
  rw [← hW3] at A3 C3
  have hz : W3.heap.size = w.heap.size := by rw [hW3]; simp
  have hb := heap_alloc2_new W3 (.cells #[.int .i64 a, .int .i64 b, .int .i64 c] 54) (.cells #[.int .i64 4, .int .i64 0, .float .f64 0, .bool false] 99)
  rw [hz] at hb
  have HB := Lib.hid hb
  have HW := Lib.hid hW3
  have R := Lib.hid ((MaS.step HF.out HT.out A3 C3 (fun k hk => .inl hk) (HM.out.hdr A3 rfl)).quiet (((Chg.refl W3 Nothing).alloc (.cells #[.int .i64 a, .int .i64 b, .int .i64 c] 54)).alloc (.cells #[.int .i64 4, .int .i64 0, .float .f64 0, .bool false] 99)))
  clear A1 A2 A3 C3 hW3 hz hb
  go_wp2
  rw [← HW.out]
  exact bodyPost_ret (v := askV askEnd) (ends_results (a := askEnd) rfl HB.out) rfl ⟨rfl, R.out⟩

theorem pick_top (zs : List Nat) {n : Nat} (h : n < zs.length) : pickV 0 zs (n : Int) = topN zs n := by
  unfold pickV topN
  rw [if_pos (by omega), Int.toNat_natCast]
theorem maddr_ok (m : Nat) (F : Nat → Prop) (s : Mc) (w : World) (h : Ma w m F s) (hs : 0 < s.s.length) (hi : idxE (topN s.s 0) s.cells = 0) :
    Calls Tryz.prog 170 #[.pointer (some ⟨m, 0, none⟩)] w fun e w' => e = .returned (.int .i64 (idxI (topN s.s 0) s.cells)) ∧ ∃ n, w' = w.drewN n := by
  obtain ⟨hF, T, pn, pc, pb, ac, cc, ao, co, ar, cr, hM, hT⟩ := h
  have c23 : w.cell? ⟨m, 23, none⟩ = some (.pointer (some ⟨pn, 0, none⟩)) := blk_cell hM.blk 23
  have c0 : w.cell? ⟨m, 0, none⟩ = some (.int .i64 s.cells) := blk_cell hM.blk 0
  have HM := Lib.hid hM
  have HI := Lib.hid hi
  have HS := Lib.hid (pick_top s.s hs)
  clear hM hF hT hi hs
  go_enter Tryz.func170, Tryz.ntmps170
  go_wp2_with fail
  refine (SF.pick_any pn _ s.s 64 0 w HM.out.num).mono ?_
  rintro e w1 ⟨rfl, n1, rfl⟩
  have hps : pickV 0 s.s 0 = topN s.s 0 := HS.out
  go_wp2_with fail
  refine (index_any _ s.cells _).mono ?_
  rintro e w1 ⟨rfl, n2, rfl⟩
  rw [HI.out]
  go_wp2_with fail
  go_ret
  exact ⟨rfl, n1 + n2, rfl⟩
theorem maddr_bad (m : Nat) (F : Nat → Prop) (s : Mc) (w : World) (h : Ma w m F s) (hs : 0 < s.s.length) (hi : idxE (topN s.s 0) s.cells ≠ 0) :
    Calls Tryz.prog 170 #[.pointer (some ⟨m, 0, none⟩)] w fun e w' => e = .panicked (faultC 50) ∧ ∃ n, w' = w.drewN n := by
  obtain ⟨hF, T, pn, pc, pb, ac, cc, ao, co, ar, cr, hM, hT⟩ := h
  have c23 : w.cell? ⟨m, 23, none⟩ = some (.pointer (some ⟨pn, 0, none⟩)) := blk_cell hM.blk 23
  have c0 : w.cell? ⟨m, 0, none⟩ = some (.int .i64 s.cells) := blk_cell hM.blk 0
  have HM := Lib.hid hM
  have HS := Lib.hid (pick_top s.s hs)
  have hb : (idxE (topN s.s 0) s.cells != 0) = true := by simpa using hi
  clear hM hF hT hi hs
  go_enter Tryz.func170, Tryz.ntmps170
  go_wp2_with fail
  refine (SF.pick_any pn _ s.s 64 0 w HM.out.num).mono ?_
  rintro e w1 ⟨rfl, n1, rfl⟩
  have hps : pickV 0 s.s 0 = topN s.s 0 := HS.out
  go_wp2_with fail
  refine (index_any _ s.cells _).mono ?_
  rintro e w1 ⟨rfl, n2, rfl⟩
  go_wp2_with fail
  refine (must_bad 50 _ (by decide)).mono ?_
  rintro e w1 ⟨rfl, rfl⟩
  exact ⟨rfl, rfl, n1 + n2, rfl⟩

set_option maxHeartbeats 1000000 in
theorem effect_any (op : Int) (w : World) (h1 : 1 ≤ op) (h2 : op ≤ 20) :
    Calls Tryz.prog 155 #[.int .i64 op] w fun e w' => e = .returned (.tuple #[.int .i64 (takesOf op), .int .i64 (laysOf op), .int .i64 0]) ∧ Chg w w' Nothing := by
  obtain ⟨ws, hidx⟩ := index_rows h1 h2
  have b1 : decide (op ≤ 0) = false := decide_eq_false (by omega)
  have b2 : decide (20 < op) = false := decide_eq_false (by omega)
  clear h1 h2
  generalize mostOf op = M at *
  generalize takesOf op = TK at *
  generalize laysOf op = LY at *
  go_enter Tryz.func155, Tryz.ntmps155
  go_wp2_with fail
  refine (rows_any _).mono ?_
  rintro e w1 ⟨rfl, hc⟩
  have HC := Lib.hid hc
  clear hc
  go_wp2_with fail
  go_quiet (fail)
  go_wp2_with fail
  go_ret3
  exact ⟨rfl, (HC.out.alloc _).drewN _⟩
end Go.Proofs.YtgeapkalabijmaaGreat

/- The machine's ready. -/
namespace Go.Proofs.YtgeapkalabijmaaGreat
open Go Go.RowKit
set_option maxRecDepth 100000
set_option maxHeartbeats 1000000
set_option linter.unusedVariables false
set_option linter.unusedSimpArgs false

theorem takes_bd {op : Int} (h1 : 1 ≤ op) (h2 : op ≤ 20) : 0 ≤ takesOf op ∧ takesOf op ≤ 2 ∧ 0 ≤ laysOf op ∧ laysOf op ≤ 2 := by
  rcases twenty h1 h2 with (rfl | rfl | rfl | rfl | rfl) | (rfl | rfl | rfl | rfl | rfl) | (rfl | rfl | rfl | rfl | rfl) | (rfl | rfl | rfl | rfl | rfl) <;> decide
/-- An instruction that a program may have, as far as the machine's stacks go. -/
def OpOk (x : Ins) : Prop := 1 ≤ x.1 ∧ x.1 ≤ 20 ∧ (x.1 = 5 → 0 ≤ x.2.1 ∧ x.2.1 ≤ 63)
def readyE (s : Mc) (x : Ins) : Ending := if roomOk s x then .returned (.tuple #[]) else .panicked (faultC 82)
theorem room_a {s : Mc} {x : Ins} (h : (s.s.length : Int) < needOf x) : roomOk s x = false := by
  unfold roomOk
  rw [decide_eq_false (by omega : ¬ needOf x ≤ (s.s.length : Int))]
  rfl
theorem room_b {s : Mc} {x : Ins} (h : 64 < (s.s.length : Int) - takesOf x.1 + laysOf x.1) : roomOk s x = false := by
  unfold roomOk
  rw [decide_eq_false (by omega : ¬ (s.s.length : Int) - takesOf x.1 + laysOf x.1 ≤ 64)]
  simp
theorem room_c {s : Mc} {x : Ins} (h : x.1 = 14) (h2 : s.calls.length = 16) : roomOk s x = false := by
  unfold roomOk
  rw [h, h2]
  simp
theorem room_d {s : Mc} {x : Ins} (h : needOf x ≤ (s.s.length : Int)) (h2 : (s.s.length : Int) - takesOf x.1 + laysOf x.1 ≤ 64) (h3 : ¬ (x.1 = 14 ∧ s.calls.length = 16)) : roomOk s x = true := by
  unfold roomOk
  rw [decide_eq_true h, decide_eq_true h2]
  simp
  by_cases e : x.1 = 14
  · exact .inr (fun e2 => h3 ⟨e, e2⟩)
  · exact .inl e
theorem ready_no {s : Mc} {x : Ins} (h : roomOk s x = false) : readyE s x = .panicked (faultC 82) := by unfold readyE; rw [if_neg (by rw [h]; decide)]
theorem ready_yes {s : Mc} {x : Ins} (h : roomOk s x = true) : readyE s x = .returned (.tuple #[]) := by unfold readyE; rw [if_pos h]

set_option maxHeartbeats 2000000 in
theorem mready_any (m : Nat) (F : Nat → Prop) (s : Mc) (op n : Int) (x : Nat) (w : World) (h : Ma w m F s) (ho : OpOk (op, n, x)) :
    Calls Tryz.prog 119 #[.pointer (some ⟨m, 0, none⟩), .agg #[.int .i64 op, .int .i64 n, fl x]] w fun e w' => e = readyE s (op, n, x) ∧ Chg w w' Nothing := by
  obtain ⟨hF, T, pn, pc, pb, ac, cc, ao, co, ar, cr, hM, hT⟩ := h
  obtain ⟨h1, h2, h5⟩ := ho
  simp only at h1 h2 h5
  obtain ⟨t1, t2, t3, t4⟩ := takes_bd h1 h2
  have hfit := hM.fits
  have hlen : s.s.length ≤ 64 := hfit.1
  have hcal : s.calls.length ≤ 16 := hfit.2.1
  have c23 : w.cell? ⟨m, 23, none⟩ = some (.pointer (some ⟨pn, 0, none⟩)) := blk_cell hM.blk 23
  have c24 : w.cell? ⟨m, 24, none⟩ = some (.pointer (some ⟨pc, 0, none⟩)) := blk_cell hM.blk 24
  have HM := Lib.hid hM
  have HO := Lib.hid (And.intro h1 h2)
  have hcases : (s.s.length : Int) < needOf (op, n, x) ∨ (needOf (op, n, x) ≤ (s.s.length : Int) ∧ 64 < (s.s.length : Int) - takesOf op + laysOf op) ∨ (needOf (op, n, x) ≤ (s.s.length : Int) ∧ (s.s.length : Int) - takesOf op + laysOf op ≤ 64 ∧ op = 14 ∧ s.calls.length = 16) ∨
      (needOf (op, n, x) ≤ (s.s.length : Int) ∧ (s.s.length : Int) - takesOf op + laysOf op ≤ 64 ∧ ¬ (op = 14 ∧ s.calls.length = 16)) := by
    by_cases a : (s.s.length : Int) < needOf (op, n, x)
    · exact .inl a
    · by_cases b : 64 < (s.s.length : Int) - takesOf op + laysOf op
      · exact .inr (.inl ⟨by omega, b⟩)
      · by_cases c : op = 14 ∧ s.calls.length = 16
        · exact .inr (.inr (.inl ⟨by omega, by omega, c.1, c.2⟩))
        · exact .inr (.inr (.inr ⟨by omega, by omega, c⟩))
  have HC := Lib.hid hcases
  have RA := Lib.hid (fun h => room_a (s := s) (x := (op, n, x)) h)
  have RB := Lib.hid (fun h => room_b (s := s) (x := (op, n, x)) h)
  have RC := Lib.hid (fun h h2 => room_c (s := s) (x := (op, n, x)) h h2)
  have RD := Lib.hid (fun h h2 h3 => room_d (s := s) (x := (op, n, x)) h h2 h3)
  have hz : s.calls.length < 2 ^ 63 := by omega
  clear hcases hfit hM hF hT h1 h2 hz
  by_cases e5 : op = 5
  · subst e5
    have hn := h5 rfl
    have hn0 := hn.1
    have hn1 := hn.2
    have e6 : needOf (5, n, x) = n + 1 := if_pos rfl
    rw [e6] at HC RA RD
    obtain ⟨TK, hTK⟩ : ∃ TK, takesOf 5 = TK := ⟨_, rfl⟩
    obtain ⟨LY, hLY⟩ : ∃ LY, laysOf 5 = LY := ⟨_, rfl⟩
    rw [hTK] at t1 t2
    rw [hLY] at t3 t4
    have hq := HC.out
    rw [hLY] at hq
    first | rw [hTK] at hq | skip
    have HTL := Lib.hid (And.intro hTK hLY)
    clear hTK hLY
    rcases hq with a | ⟨a, b⟩ | ⟨a, b, c, d⟩ | ⟨a, b, c⟩
    · have q1 : decide ((s.s.length : Int) < n + 1) = true := decide_eq_true a
      have FA := Lib.hid a
      clear a
      go_enter Tryz.func119, Tryz.ntmps119
      go_wp2_with fail
      with_reducible refine (effect_any 5 _ HO.out.1 HO.out.2).mono ?_
      rintro e w1 ⟨rfl, cc1⟩
      have C1 := Lib.hid (box_chg w _ cc1 rfl rfl rfl rfl)
      have d0 := box_at w #[.int .i64 5, .int .i64 n, fl x] 73 cc1 rfl 0 rfl
      have d1 := box_at w #[.int .i64 5, .int .i64 n, fl x] 73 cc1 rfl 1 rfl
      have k23 := C1.out.cell c23 id
      have k24 := C1.out.cell c24 id
      have N1 := Lib.hid (HM.out.num.chg C1.out (fun _ _ h => h))
      have N2 := Lib.hid (HM.out.cal.chg C1.out (fun _ _ h => h))
      clear cc1 c23 c24
      rw [HTL.out.1, HTL.out.2]
      go_wp2_with fail
      refine (SF.len_any pn _ _ 64 w1 N1.out).mono ?_
      rintro e w2 ⟨rfl, rfl⟩
      go_wp2_with fail
      refine (must_bad 82 _ (by decide)).mono ?_
      rintro e w2 ⟨rfl, rfl⟩
      exact ⟨rfl, (ready_no (RA.out FA.out)).symm, C1.out⟩
    · have q1 : decide ((s.s.length : Int) < n + 1) = false := decide_eq_false (by omega)
      have q2 : decide ((64 : Int) < (s.s.length : Int) - TK + LY) = true := decide_eq_true b
      have FA := Lib.hid a
      have FB := Lib.hid b
      clear a b
      go_enter Tryz.func119, Tryz.ntmps119
      go_wp2_with fail
      with_reducible refine (effect_any 5 _ HO.out.1 HO.out.2).mono ?_
      rintro e w1 ⟨rfl, cc1⟩
      have C1 := Lib.hid (box_chg w _ cc1 rfl rfl rfl rfl)
      have d0 := box_at w #[.int .i64 5, .int .i64 n, fl x] 73 cc1 rfl 0 rfl
      have d1 := box_at w #[.int .i64 5, .int .i64 n, fl x] 73 cc1 rfl 1 rfl
      have k23 := C1.out.cell c23 id
      have k24 := C1.out.cell c24 id
      have N1 := Lib.hid (HM.out.num.chg C1.out (fun _ _ h => h))
      have N2 := Lib.hid (HM.out.cal.chg C1.out (fun _ _ h => h))
      clear cc1 c23 c24
      rw [HTL.out.1, HTL.out.2]
      go_wp2_with fail
      refine (SF.len_any pn _ _ 64 w1 N1.out).mono ?_
      rintro e w2 ⟨rfl, rfl⟩
      go_wp2_with fail
      refine (must_bad 82 _ (by decide)).mono ?_
      rintro e w2 ⟨rfl, rfl⟩
      exact ⟨rfl, (ready_no (RB.out (by first | (rw [HTL.out.1, HTL.out.2]; exact FB.out) | (rw [HTL.out.2]; exact FB.out)))).symm, C1.out⟩
    · omega
    · have q1 : decide ((s.s.length : Int) < n + 1) = false := decide_eq_false (by omega)
      have q2 : decide ((64 : Int) < (s.s.length : Int) - TK + LY) = false := decide_eq_false (by omega)
      have FA := Lib.hid a
      have FB := Lib.hid b
      clear a b
      go_enter Tryz.func119, Tryz.ntmps119
      go_wp2_with fail
      with_reducible refine (effect_any 5 _ HO.out.1 HO.out.2).mono ?_
      rintro e w1 ⟨rfl, cc1⟩
      have C1 := Lib.hid (box_chg w _ cc1 rfl rfl rfl rfl)
      have d0 := box_at w #[.int .i64 5, .int .i64 n, fl x] 73 cc1 rfl 0 rfl
      have d1 := box_at w #[.int .i64 5, .int .i64 n, fl x] 73 cc1 rfl 1 rfl
      have k23 := C1.out.cell c23 id
      have k24 := C1.out.cell c24 id
      have N1 := Lib.hid (HM.out.num.chg C1.out (fun _ _ h => h))
      have N2 := Lib.hid (HM.out.cal.chg C1.out (fun _ _ h => h))
      clear cc1 c23 c24
      rw [HTL.out.1, HTL.out.2]
      go_wp2_with fail
      refine (SF.len_any pn _ _ 64 w1 N1.out).mono ?_
      rintro e w2 ⟨rfl, rfl⟩
      go_wp2_with fail
      go_end0
      exact ⟨(ready_yes (RD.out FA.out (by first | (rw [HTL.out.1, HTL.out.2]; exact FB.out) | (rw [HTL.out.2]; exact FB.out)) c)).symm, C1.out⟩
  · have e6 : needOf (op, n, x) = takesOf op := if_neg e5
    have q5 : (op == 5) = false := by simpa using e5
    rw [e6] at HC RA RD
    clear e5 h5 e6
    obtain ⟨TK, hTK⟩ : ∃ TK, takesOf op = TK := ⟨_, rfl⟩
    obtain ⟨LY, hLY⟩ : ∃ LY, laysOf op = LY := ⟨_, rfl⟩
    rw [hTK] at t1 t2 HC RA RD
    rw [hLY] at t3 t4
    have hq := HC.out
    rw [hLY] at hq
    first | rw [hTK] at hq | skip
    have HTL := Lib.hid (And.intro hTK hLY)
    clear hTK hLY
    rcases hq with a | ⟨a, b⟩ | ⟨a, b, c, d⟩ | ⟨a, b, c⟩
    · have q1 : decide ((s.s.length : Int) < TK) = true := decide_eq_true a
      have FA := Lib.hid a
      clear a
      go_enter Tryz.func119, Tryz.ntmps119
      go_wp2_with fail
      with_reducible refine (effect_any op _ HO.out.1 HO.out.2).mono ?_
      rintro e w1 ⟨rfl, cc1⟩
      have C1 := Lib.hid (box_chg w _ cc1 rfl rfl rfl rfl)
      have d0 := box_at w #[.int .i64 op, .int .i64 n, fl x] 73 cc1 rfl 0 rfl
      have d1 := box_at w #[.int .i64 op, .int .i64 n, fl x] 73 cc1 rfl 1 rfl
      have k23 := C1.out.cell c23 id
      have k24 := C1.out.cell c24 id
      have N1 := Lib.hid (HM.out.num.chg C1.out (fun _ _ h => h))
      have N2 := Lib.hid (HM.out.cal.chg C1.out (fun _ _ h => h))
      clear cc1 c23 c24
      rw [HTL.out.1, HTL.out.2]
      go_wp2_with fail
      refine (SF.len_any pn _ _ 64 w1 N1.out).mono ?_
      rintro e w2 ⟨rfl, rfl⟩
      go_wp2_with fail
      refine (must_bad 82 _ (by decide)).mono ?_
      rintro e w2 ⟨rfl, rfl⟩
      exact ⟨rfl, (ready_no (RA.out FA.out)).symm, C1.out⟩
    · have q1 : decide ((s.s.length : Int) < TK) = false := decide_eq_false (by omega)
      have q2 : decide ((64 : Int) < (s.s.length : Int) - TK + LY) = true := decide_eq_true b
      have FA := Lib.hid a
      have FB := Lib.hid b
      clear a b
      go_enter Tryz.func119, Tryz.ntmps119
      go_wp2_with fail
      with_reducible refine (effect_any op _ HO.out.1 HO.out.2).mono ?_
      rintro e w1 ⟨rfl, cc1⟩
      have C1 := Lib.hid (box_chg w _ cc1 rfl rfl rfl rfl)
      have d0 := box_at w #[.int .i64 op, .int .i64 n, fl x] 73 cc1 rfl 0 rfl
      have d1 := box_at w #[.int .i64 op, .int .i64 n, fl x] 73 cc1 rfl 1 rfl
      have k23 := C1.out.cell c23 id
      have k24 := C1.out.cell c24 id
      have N1 := Lib.hid (HM.out.num.chg C1.out (fun _ _ h => h))
      have N2 := Lib.hid (HM.out.cal.chg C1.out (fun _ _ h => h))
      clear cc1 c23 c24
      rw [HTL.out.1, HTL.out.2]
      go_wp2_with fail
      refine (SF.len_any pn _ _ 64 w1 N1.out).mono ?_
      rintro e w2 ⟨rfl, rfl⟩
      go_wp2_with fail
      refine (must_bad 82 _ (by decide)).mono ?_
      rintro e w2 ⟨rfl, rfl⟩
      exact ⟨rfl, (ready_no (RB.out (by first | (rw [HTL.out.1, HTL.out.2]; exact FB.out) | (rw [HTL.out.2]; exact FB.out)))).symm, C1.out⟩
    · have q1 : decide ((s.s.length : Int) < TK) = false := decide_eq_false (by omega)
      have q2 : decide ((64 : Int) < (s.s.length : Int) - TK + LY) = false := decide_eq_false (by omega)
      have q14 : (op == 14) = true := by simpa using c
      have q16 : ((s.calls.length : Int) == 16) = true := by rw [beq_iff_eq]; omega
      have FC := Lib.hid (And.intro c d)
      have FA := Lib.hid a
      have FB := Lib.hid b
      clear a b
      clear c d
      go_enter Tryz.func119, Tryz.ntmps119
      go_wp2_with fail
      with_reducible refine (effect_any op _ HO.out.1 HO.out.2).mono ?_
      rintro e w1 ⟨rfl, cc1⟩
      have C1 := Lib.hid (box_chg w _ cc1 rfl rfl rfl rfl)
      have d0 := box_at w #[.int .i64 op, .int .i64 n, fl x] 73 cc1 rfl 0 rfl
      have d1 := box_at w #[.int .i64 op, .int .i64 n, fl x] 73 cc1 rfl 1 rfl
      have k23 := C1.out.cell c23 id
      have k24 := C1.out.cell c24 id
      have N1 := Lib.hid (HM.out.num.chg C1.out (fun _ _ h => h))
      have N2 := Lib.hid (HM.out.cal.chg C1.out (fun _ _ h => h))
      clear cc1 c23 c24
      rw [HTL.out.1, HTL.out.2]
      go_wp2_with fail
      refine (SF.len_any pn _ _ 64 w1 N1.out).mono ?_
      rintro e w2 ⟨rfl, rfl⟩
      go_wp2_with fail
      refine (SI.len_any pc _ _ 16 w1 N2.out).mono ?_
      rintro e w2 ⟨rfl, rfl⟩
      go_wp2_with fail
      refine (must_bad 82 _ (by decide)).mono ?_
      rintro e w2 ⟨rfl, rfl⟩
      exact ⟨rfl, (ready_no (RC.out FC.out.1 FC.out.2)).symm, C1.out⟩
    · by_cases c14 : op = 14
      · have q1 : decide ((s.s.length : Int) < TK) = false := decide_eq_false (by omega)
        have q2 : decide ((64 : Int) < (s.s.length : Int) - TK + LY) = false := decide_eq_false (by omega)
        have q14 : (op == 14) = true := by simpa using c14
        have q16 : ((s.calls.length : Int) == 16) = false := by rw [beq_eq_false_iff_ne]; intro h; exact c ⟨c14, by omega⟩
        have FC := Lib.hid c
        have FA := Lib.hid a
        have FB := Lib.hid b
        clear a b
        clear c c14
        go_enter Tryz.func119, Tryz.ntmps119
        go_wp2_with fail
        with_reducible refine (effect_any op _ HO.out.1 HO.out.2).mono ?_
        rintro e w1 ⟨rfl, cc1⟩
        have C1 := Lib.hid (box_chg w _ cc1 rfl rfl rfl rfl)
        have d0 := box_at w #[.int .i64 op, .int .i64 n, fl x] 73 cc1 rfl 0 rfl
        have d1 := box_at w #[.int .i64 op, .int .i64 n, fl x] 73 cc1 rfl 1 rfl
        have k23 := C1.out.cell c23 id
        have k24 := C1.out.cell c24 id
        have N1 := Lib.hid (HM.out.num.chg C1.out (fun _ _ h => h))
        have N2 := Lib.hid (HM.out.cal.chg C1.out (fun _ _ h => h))
        clear cc1 c23 c24
        rw [HTL.out.1, HTL.out.2]
        go_wp2_with fail
        refine (SF.len_any pn _ _ 64 w1 N1.out).mono ?_
        rintro e w2 ⟨rfl, rfl⟩
        go_wp2_with fail
        refine (SI.len_any pc _ _ 16 w1 N2.out).mono ?_
        rintro e w2 ⟨rfl, rfl⟩
        go_wp2_with fail
        go_end0
        exact ⟨(ready_yes (RD.out FA.out (by first | (rw [HTL.out.1, HTL.out.2]; exact FB.out) | (rw [HTL.out.2]; exact FB.out)) FC.out)).symm, C1.out⟩
      · have q1 : decide ((s.s.length : Int) < TK) = false := decide_eq_false (by omega)
        have q2 : decide ((64 : Int) < (s.s.length : Int) - TK + LY) = false := decide_eq_false (by omega)
        have q14 : (op == 14) = false := by simpa using c14
        have FC := Lib.hid c
        have FA := Lib.hid a
        have FB := Lib.hid b
        clear a b
        clear c c14
        go_enter Tryz.func119, Tryz.ntmps119
        go_wp2_with fail
        with_reducible refine (effect_any op _ HO.out.1 HO.out.2).mono ?_
        rintro e w1 ⟨rfl, cc1⟩
        have C1 := Lib.hid (box_chg w _ cc1 rfl rfl rfl rfl)
        have d0 := box_at w #[.int .i64 op, .int .i64 n, fl x] 73 cc1 rfl 0 rfl
        have d1 := box_at w #[.int .i64 op, .int .i64 n, fl x] 73 cc1 rfl 1 rfl
        have k23 := C1.out.cell c23 id
        have k24 := C1.out.cell c24 id
        have N1 := Lib.hid (HM.out.num.chg C1.out (fun _ _ h => h))
        have N2 := Lib.hid (HM.out.cal.chg C1.out (fun _ _ h => h))
        clear cc1 c23 c24
        rw [HTL.out.1, HTL.out.2]
        go_wp2_with fail
        refine (SF.len_any pn _ _ 64 w1 N1.out).mono ?_
        rintro e w2 ⟨rfl, rfl⟩
        go_wp2_with fail
        go_end0
        exact ⟨(ready_yes (RD.out FA.out (by first | (rw [HTL.out.1, HTL.out.2]; exact FB.out) | (rw [HTL.out.2]; exact FB.out)) FC.out)).symm, C1.out⟩
end Go.Proofs.YtgeapkalabijmaaGreat

/- What the machine does with numbers alone. -/
namespace Go.Proofs.YtgeapkalabijmaaGreat
open Go Go.RowKit
set_option maxRecDepth 100000
set_option maxHeartbeats 1000000
set_option linter.unusedVariables false
set_option linter.unusedSimpArgs false

theorem mcells_args (s : Mc) (pn pc pb : Nat) (ac : Option Addr) (cc : Nat) (ao : Option Addr) (co : Nat) (ar : Option Addr) (cr : Nat) : ∀ k, k < 8 → (mcells s pn pc pb ac cc ao co ar cr)[7 + k]? = some (fl (s.args k))
  | 0, _ => rfl | 1, _ => rfl | 2, _ => rfl | 3, _ => rfl | 4, _ => rfl | 5, _ => rfl | 6, _ => rfl | 7, _ => rfl | k + 8, h => by omega
theorem mcells_locals (s : Mc) (pn pc pb : Nat) (ac : Option Addr) (cc : Nat) (ao : Option Addr) (co : Nat) (ar : Option Addr) (cr : Nat) : ∀ k, k < 8 → (mcells s pn pc pb ac cc ao co ar cr)[15 + k]? = some (fl (s.locals k))
  | 0, _ => rfl | 1, _ => rfl | 2, _ => rfl | 3, _ => rfl | 4, _ => rfl | 5, _ => rfl | 6, _ => rfl | 7, _ => rfl | k + 8, h => by omega
theorem mcells_set (s : Mc) (pn pc pb : Nat) (ac : Option Addr) (cc : Nat) (ao : Option Addr) (co : Nat) (ar : Option Addr) (cr v : Nat) : ∀ k, k < 8 → (mcells s pn pc pb ac cc ao co ar cr).setIfInBounds (15 + k) (fl v) = mcells { s with locals := locSet s.locals k v } pn pc pb ac cc ao co ar cr
  | 0, _ => rfl | 1, _ => rfl | 2, _ => rfl | 3, _ => rfl | 4, _ => rfl | 5, _ => rfl | 6, _ => rfl | 7, _ => rfl | k + 8, h => by omega
section
variable {w w1 w2 w' : World} {m : Nat} {F : Nat → Prop} {s s' s1 s2 : Mc}
/-- A field of its own is laid. -/
theorem Ma.fld (h : Ma w m F s) (o : Nat) (v : Value) (s' : Mc) (e : ∀ pn pc pb ac cc ao co ar cr, (mcells s pn pc pb ac cc ao co ar cr).setIfInBounds o v = mcells s' pn pc pb ac cc ao co ar cr)
    (e1 : s'.code = s.code) (e2 : s'.out = s.out) (e3 : s'.reads = s.reads) (e4 : s'.s = s.s) (e5 : s'.calls = s.calls) (e6 : s'.buf = s.buf) (e7 : s'.writes = s.writes) : MaS w (w.setCell ⟨m, o, none⟩ v) m F s' := by
  obtain ⟨h1, T, pn, pc, pb, ac, cc, ao, co, ar, cr, h2, h3⟩ := h
  exact MaS.step h1 h3 (h2.fld o v s' (e ..) e1 e2 e3 e4 e5 e6 e7) (h2.chg1 o v) (fun k hk => .inl hk) (h2.hdr (h2.fld o v s' (e ..) e1 e2 e3 e4 e5 e6 e7) e1)
theorem Ma.cell (h : Ma w m F s) (o : Nat) {v : Value} (hv : ∀ pn pc pb ac cc ao co ar cr, (mcells s pn pc pb ac cc ao co ar cr)[o]? = some v) : w.cell? ⟨m, o, none⟩ = some v := by
  obtain ⟨h1, T, pn, pc, pb, ac, cc, ao, co, ar, cr, h2, h3⟩ := h
  exact (blk_cell h2.blk o).trans (hv ..)
theorem Ma.free (h : Ma w m F s) (o : Nat) : w.frozen? ⟨m, o, none⟩ = false := by
  obtain ⟨h1, T, pn, pc, pb, ac, cc, ao, co, ar, cr, h2, h3⟩ := h
  exact blk_free h2.blk o
theorem Ma.has (h : Ma w m F s) : F m ∧ m < w.heap.size := by
  obtain ⟨h1, T, pn, pc, pb, ac, cc, ao, co, ar, cr, h2, h3⟩ := h
  exact ⟨h3 m (by rw [h2.tm]; decide), blk_lt h2.blk⟩
theorem Ma.fits (h : Ma w m F s) : s.s.length ≤ 64 ∧ s.calls.length ≤ 16 ∧ (s.buf.length : Int) ≤ s.writes ∧ s.writes ≤ 32 ∧ (s.buf.map (·.1)).Nodup := by
  obtain ⟨h1, T, pn, pc, pb, ac, cc, ao, co, ar, cr, h2, h3⟩ := h
  exact h2.fits
theorem Ma.boxed (h : Ma w m F s) (o : Obj) : Ma (w.alloc o) m F s := h.quiet ((Chg.refl _ _).alloc _)
theorem Ma.drewN (h : Ma w m F s) (n : Nat) : Ma (w.drewN n) m F s := h.quiet ((Chg.refl _ _).drewN _)
theorem MaS.boxed {o : Obj} (h : MaS (w.alloc o) w' m F s) : MaS w w' m F s := MaS.after ((Chg.refl _ _).alloc o) h
theorem mbox_cell {F : Nat → Prop} {cs : Array Value} {T : TypeId} {v : Value} (j : Nat) (c1 : Chg (w.alloc (.cells cs T)) w1 F) (hF : ∀ k, F k → k < w.heap.size) (hv : cs[j]? = some v) : w1.cell? ⟨w.heap.size, j, none⟩ = some v :=
  c1.cell ((blk_cell (heap_alloc_new w _) j).trans hv) (fun h => Nat.lt_irrefl _ (hF _ h))
end
theorem mbox_off {w : World} {o : Obj} : ¬ (w.alloc o).heap.size ≤ w.heap.size := by simp
theorem topN_drop {s : List Nat} (h : 2 ≤ s.length) : topN s.dropLast 0 = topN s 1 := by
  unfold topN
  rw [List.length_dropLast, List.getD_eq_getElem?_getD, List.getD_eq_getElem?_getD, List.getElem?_dropLast, if_pos (by omega), show s.length - 1 - 1 - 0 = s.length - 1 - 1 by omega]

section
variable (m : Nat) (F : Nat → Prop) (s : Mc) (n : Int) (x : Nat) (w : World)
theorem rk_1 (h : Ma w m F s) (hl : s.s.length < 64) :
    Calls Tryz.prog 164 #[.pointer (some ⟨m, 0, none⟩), .agg #[.int .i64 1, .int .i64 n, fl x]] w fun e w' => e = .returned (.tuple #[]) ∧ MaS w w' m F { s with s := s.s ++ [fixB x] } := by
  have H := Lib.hid h
  have HL := Lib.hid hl
  clear h hl
  go_enter Tryz.func164, Tryz.ntmps164
  go_wp2_with fail
  with_reducible refine (fix_any _ _).mono ?_
  rintro e w1 ⟨rfl, rfl⟩
  go_wp2_with fail
  with_reducible refine (mpush_any m F s (fixB x) _ (H.out.boxed _) HL.out).mono ?_
  rintro e w1 ⟨rfl, r1⟩
  have R := Lib.hid r1.boxed
  clear r1
  go_wp2_with fail
  go_end0
  exact ⟨rfl, R.out⟩
theorem rk_2 (h : Ma w m F s) :
    Calls Tryz.prog 164 #[.pointer (some ⟨m, 0, none⟩), .agg #[.int .i64 2, .int .i64 n, fl x]] w fun e w' => e = .returned (.tuple #[]) ∧ MaS w w' m F { s with s := s.s.dropLast } := by
  have H := Lib.hid h
  clear h
  go_enter Tryz.func164, Tryz.ntmps164
  go_wp2_with fail
  with_reducible refine (mpop_any m F s _ (H.out.boxed _)).mono ?_
  rintro e w1 ⟨rfl, r1⟩
  have R := Lib.hid r1.boxed
  clear r1
  go_wp2_with fail
  go_end0
  exact ⟨rfl, R.out⟩
theorem rk_4 (h : Ma w m F s) (hl : 2 ≤ s.s.length) :
    Calls Tryz.prog 164 #[.pointer (some ⟨m, 0, none⟩), .agg #[.int .i64 4, .int .i64 n, fl x]] w fun e w' => e = .returned (.tuple #[]) ∧ MaS w w' m F { s with s := s.s.dropLast.dropLast ++ [topN s.s 0, topN s.s 1] } := by
  have H := Lib.hid h
  have HL := Lib.hid hl
  have HT := Lib.hid (topN_drop hl)
  have HZ := Lib.hid h.fits.1
  clear h hl
  go_enter Tryz.func164, Tryz.ntmps164
  go_wp2_with fail
  with_reducible refine (mpop_any m F s _ (H.out.boxed _)).mono ?_
  rintro e w1 ⟨rfl, r1⟩
  have R1 := Lib.hid r1.boxed
  clear r1
  go_wp2_with fail
  with_reducible refine (mpop_any m _ _ _ R1.out.ma).mono ?_
  rintro e w2 ⟨rfl, r2⟩
  have R2 := Lib.hid (R1.out.then r2)
  clear r2
  go_wp2_with fail
  with_reducible refine (mpush_any m _ _ _ _ R2.out.ma (by show (s.s.dropLast.dropLast).length < 64; simp; have := HZ.out; omega)).mono ?_
  rintro e w3 ⟨rfl, r3⟩
  have R3 := Lib.hid (R2.out.then r3)
  clear r3
  go_wp2_with fail
  with_reducible refine (mpush_any m _ _ _ _ R3.out.ma (by show (s.s.dropLast.dropLast ++ [_]).length < 64; simp; have := HZ.out; have := HL.out; omega)).mono ?_
  rintro e w4 ⟨rfl, r4⟩
  have R4 := Lib.hid (R3.out.then r4)
  clear r4
  go_wp2_with fail
  go_end0
  refine ⟨rfl, ?_⟩
  have := R4.out
  simp only [HT.out, List.append_assoc, List.singleton_append] at this
  exact this
theorem rk_10 (h : Ma w m F s) (hl : 2 ≤ s.s.length) (hx : topN s.s 0 < 18446744073709551616) (hy : topN s.s 1 < 18446744073709551616) :
    Calls Tryz.prog 164 #[.pointer (some ⟨m, 0, none⟩), .agg #[.int .i64 10, .int .i64 n, fl x]] w fun e w' => e = .returned (.tuple #[]) ∧ MaS w w' m F { s with s := s.s.dropLast.dropLast ++ [twoV n (topN s.s 1) (topN s.s 0)] } := by
  have H := Lib.hid h
  have HL := Lib.hid hl
  have HT := Lib.hid (topN_drop hl)
  have HZ := Lib.hid h.fits.1
  have HX := Lib.hid hx
  have HY := Lib.hid hy
  clear h hl hx hy
  go_enter Tryz.func164, Tryz.ntmps164
  go_wp2_with fail
  with_reducible refine (mpop_any m F s _ (H.out.boxed _)).mono ?_
  rintro e w1 ⟨rfl, r1⟩
  have d1 := mbox_cell 1 r1.chg H.out.lt rfl
  have R1 := Lib.hid r1
  clear r1
  go_wp2_with fail
  with_reducible refine (mpop_any m _ _ _ R1.out.ma).mono ?_
  rintro e w2 ⟨rfl, r2⟩
  have R2 := Lib.hid (R1.out.then r2)
  have d2 := r2.chg.cell d1 (fun h => by rcases h with h | h; exact Nat.lt_irrefl _ (H.out.lt _ h); exact mbox_off h.1)
  clear r2 d1
  go_wp2_with fail
  with_reducible refine (two_any n _ _ _ (by show topN s.s.dropLast 0 < _; rw [HT.out]; exact HY.out) HX.out).mono ?_
  rintro e w3 ⟨rfl, c3⟩
  have R3 := Lib.hid (R2.out.quiet c3)
  clear c3 d2
  go_wp2_with fail
  with_reducible refine (mpush_any m _ _ _ _ R3.out.ma (by show (s.s.dropLast.dropLast).length < 64; simp; have := HZ.out; omega)).mono ?_
  rintro e w4 ⟨rfl, r4⟩
  have R4 := Lib.hid (R3.out.then r4)
  clear r4
  go_wp2_with fail
  go_end0
  refine ⟨rfl, ?_⟩
  have := R4.out.boxed
  simp only [HT.out] at this
  exact this
theorem rk_3 (h : Ma w m F s) (hl : 1 ≤ s.s.length) (hl2 : s.s.length < 64) :
    Calls Tryz.prog 164 #[.pointer (some ⟨m, 0, none⟩), .agg #[.int .i64 3, .int .i64 n, fl x]] w fun e w' => e = .returned (.tuple #[]) ∧ MaS w w' m F { s with s := s.s ++ [topN s.s 0] } := by
  obtain ⟨hF, T, pn, pc, pb, ac, cc, ao, co, ar, cr, hM, hT⟩ := id h
  have c23 : w.cell? ⟨m, 23, none⟩ = some (.pointer (some ⟨pn, 0, none⟩)) := blk_cell hM.blk 23
  have hm := h.has.2
  have H := Lib.hid h
  have HM := Lib.hid hM
  have HL2 := Lib.hid hl2
  have HP := Lib.hid (pick_top s.s hl)
  clear h hl hl2 hM hF hT
  go_enter Tryz.func164, Tryz.ntmps164
  go_wp2_with fail
  with_reducible refine (SF.pick_any pn _ s.s 64 0 _ (HM.out.num.chg ((Chg.refl _ _).alloc _) (fun _ _ h => h))).mono ?_
  rintro e w1 ⟨rfl, n1, rfl⟩
  have hps : pickV 0 s.s 0 = topN s.s 0 := HP.out
  go_wp2_with fail
  with_reducible refine (mpush_any m F s (topN s.s 0) _ ((H.out.boxed _).drewN n1) HL2.out).mono ?_
  rintro e w1 ⟨rfl, r1⟩
  have R := Lib.hid (MaS.after (((Chg.refl w Nothing).alloc _).drewN n1) r1)
  clear r1
  go_wp2_with fail
  go_end0
  exact ⟨rfl, R.out⟩
theorem rk_5 (k : Nat) (h : Ma w m F s) (hk : k < s.s.length) (hl2 : s.s.length < 64) :
    Calls Tryz.prog 164 #[.pointer (some ⟨m, 0, none⟩), .agg #[.int .i64 5, .int .i64 (k : Int), fl x]] w fun e w' => e = .returned (.tuple #[]) ∧ MaS w w' m F { s with s := s.s ++ [topN s.s k] } := by
  obtain ⟨hF, T, pn, pc, pb, ac, cc, ao, co, ar, cr, hM, hT⟩ := id h
  have c23 : w.cell? ⟨m, 23, none⟩ = some (.pointer (some ⟨pn, 0, none⟩)) := blk_cell hM.blk 23
  have hm := h.has.2
  have H := Lib.hid h
  have HM := Lib.hid hM
  have HL2 := Lib.hid hl2
  have HP := Lib.hid (pick_top s.s hk)
  clear h hk hl2 hM hF hT
  go_enter Tryz.func164, Tryz.ntmps164
  go_wp2_with fail
  go_quiet ((go_at_call 172; exact (SF.pick_any pn _ s.s 64 (k : Int) _ (HM.out.num.chg (((Chg.refl w Nothing).alloc _).drewN _) (fun _ _ h => h))).quiet_of))
  have hps : pickV 0 s.s (k : Int) = topN s.s k := HP.out
  go_wp2_with fail
  with_reducible refine (mpush_any m F s (topN s.s k) _ ((H.out.boxed _).drewN _) HL2.out).mono ?_
  rintro e w1 ⟨rfl, r1⟩
  have R := Lib.hid (MaS.after (((Chg.refl w Nothing).alloc _).drewN _) r1)
  clear r1
  go_wp2_with fail
  go_end0
  exact ⟨rfl, R.out⟩
theorem rk_6 (k : Nat) (h : Ma w m F s) (hk : k < 8) (hl2 : s.s.length < 64) :
    Calls Tryz.prog 164 #[.pointer (some ⟨m, 0, none⟩), .agg #[.int .i64 6, .int .i64 (k : Int), fl x]] w fun e w' => e = .returned (.tuple #[]) ∧ MaS w w' m F { s with s := s.s ++ [s.args k] } := by
  have ck : w.cell? ⟨m, 7 + k, none⟩ = some (fl (s.args k)) := h.cell (7 + k) (fun pn pc pb ac cc ao co ar cr => mcells_args s pn pc pb ac cc ao co ar cr k hk)
  have hm := h.has.2
  have hki : (k : Int) < 8 := by omega
  have H := Lib.hid h
  have HL2 := Lib.hid hl2
  clear h hl2
  go_enter Tryz.func164, Tryz.ntmps164
  go_wp2_with fail
  go_region_law (first | (go_simp; go_at_call 122; refine (mpush_any m F s (s.args k) _ (((H.out.boxed _).drewN 1)) HL2.out).mono ?_; rintro e w1 ⟨rfl, r1⟩))
  all_goals
    have R := Lib.hid (MaS.after (((Chg.refl w Nothing).alloc _).drewN _) r1)
    clear r1
    go_wp2_with fail
    go_end0
    exact ⟨rfl, R.out⟩
theorem rk_7 (k : Nat) (h : Ma w m F s) (hk : k < 8) (hl2 : s.s.length < 64) :
    Calls Tryz.prog 164 #[.pointer (some ⟨m, 0, none⟩), .agg #[.int .i64 7, .int .i64 (k : Int), fl x]] w fun e w' => e = .returned (.tuple #[]) ∧ MaS w w' m F { s with s := s.s ++ [s.locals k] } := by
  have ck : w.cell? ⟨m, 15 + k, none⟩ = some (fl (s.locals k)) := h.cell (15 + k) (fun pn pc pb ac cc ao co ar cr => mcells_locals s pn pc pb ac cc ao co ar cr k hk)
  have hm := h.has.2
  have hki : (k : Int) < 8 := by omega
  have H := Lib.hid h
  have HL2 := Lib.hid hl2
  clear h hl2
  go_enter Tryz.func164, Tryz.ntmps164
  go_wp2_with fail
  go_region_law (first | (go_simp; go_at_call 122; refine (mpush_any m F s (s.locals k) _ (((H.out.boxed _).drewN 1)) HL2.out).mono ?_; rintro e w1 ⟨rfl, r1⟩))
  all_goals
    have R := Lib.hid (MaS.after (((Chg.refl w Nothing).alloc _).drewN _) r1)
    clear r1
    go_wp2_with fail
    go_end0
    exact ⟨rfl, R.out⟩
theorem rk_8 (k : Nat) (h : Ma w m F s) (hk : k < 8) :
    Calls Tryz.prog 164 #[.pointer (some ⟨m, 0, none⟩), .agg #[.int .i64 8, .int .i64 (k : Int), fl x]] w fun e w' => e = .returned (.tuple #[]) ∧ MaS w w' m F { s with s := s.s.dropLast, locals := locSet s.locals k (topN s.s 0) } := by
  have hm := h.has.2
  have hki : (k : Int) < 8 := by omega
  have H := Lib.hid h
  have HK := Lib.hid hk
  clear h
  go_enter Tryz.func164, Tryz.ntmps164
  go_wp2_with fail
  go_region_law (first | (go_simp; go_at_call 161; refine (mpop_any m F s _ ((H.out.boxed _).drewN 1)).mono ?_; rintro e w1 ⟨rfl, r1⟩; have d1 := mbox_cell (w := w) (cs := #[.int .i64 8, .int .i64 (k : Int), fl x]) (T := 73) (v := .int .i64 (k : Int)) 1 ⟨r1.chg.os, r1.chg.tape, r1.chg.output, r1.chg.size, r1.chg.block⟩ H.out.lt rfl; have e1 : w1.cell? ⟨m, 15 + k, none⟩ = some (fl (s.locals k)) := r1.ma.cell (15 + k) (fun pn pc pb ac cc ao co ar cr => mcells_locals _ pn pc pb ac cc ao co ar cr k HK.out); have e2 : w1.frozen? ⟨m, 15 + k, none⟩ = false := r1.ma.free _))
  all_goals
    have R := Lib.hid (MaS.after (((Chg.refl w Nothing).alloc _).drewN _) (r1.then (r1.ma.fld (15 + k) (fl (topN s.s 0)) { s with s := s.s.dropLast, locals := locSet s.locals k (topN s.s 0) } (fun pn pc pb ac cc ao co ar cr => mcells_set _ pn pc pb ac cc ao co ar cr _ k HK.out) rfl rfl rfl rfl rfl rfl rfl)))
    clear r1
    go_wp2_with fail
    go_end0
    exact ⟨rfl, R.out⟩
theorem rk_9 (h : Ma w m F s) (hl : 1 ≤ s.s.length) :
    Calls Tryz.prog 164 #[.pointer (some ⟨m, 0, none⟩), .agg #[.int .i64 9, .int .i64 n, fl x]] w fun e w' => e = .returned (.tuple #[]) ∧ MaS w w' m F { s with s := s.s.dropLast ++ [oneV n (topN s.s 0)] } := by
  have hm := h.has.2
  have H := Lib.hid h
  have HL := Lib.hid hl
  have HZ := Lib.hid h.fits.1
  clear h hl
  go_enter Tryz.func164, Tryz.ntmps164
  go_upto_region 23 with fail
  go_cut [10] (fun v wx => v = fl (oneV n (topN s.s 0)) ∧ MaS w wx m F { s with s := s.s.dropLast })
  case first =>
    go_region_law (first | (go_simp; go_at_call 161; refine (mpop_any m F s _ ((H.out.boxed _).drewN 1)).mono ?_; rintro e w1 ⟨rfl, r1⟩; have d1 := mbox_cell (w := w) (cs := #[.int .i64 9, .int .i64 n, fl x]) (T := 73) (v := .int .i64 n) 1 ⟨r1.chg.os, r1.chg.tape, r1.chg.output, r1.chg.size, r1.chg.block⟩ H.out.lt rfl) | (go_simp; go_at_call 176; refine (one_any n _ _).mono ?_; rintro e w2 ⟨rfl, c2⟩))
    all_goals
      go_wp2_with fail
      go_meet
      exact ⟨rfl, MaS.after (((Chg.refl w Nothing).alloc _).drewN _) (r1.quiet c2)⟩
  case rest =>
    obtain ⟨rfl, r1⟩ := hcut
    have R1 := Lib.hid r1
    clear r1
    go_wp2_with fail
    with_reducible refine (mpush_any m _ _ _ _ R1.out.ma (by show (s.s.dropLast).length < 64; simp; have := HZ.out; have := HL.out; omega)).mono ?_
    rintro e w3 ⟨rfl, r3⟩
    have R3 := Lib.hid (R1.out.then r3)
    clear r3
    go_wp2_with fail
    go_end0
    exact ⟨rfl, R3.out⟩
end
end Go.Proofs.YtgeapkalabijmaaGreat

/- The machine's rows grow: emit, Give. -/
namespace Go.Proofs.YtgeapkalabijmaaGreat
open Go Go.RowKit
set_option maxRecDepth 100000
set_option maxHeartbeats 1000000
set_option linter.unusedVariables false
set_option linter.unusedSimpArgs false

section
variable {w w1 w2 w' : World} {m : Nat} {T : Nat → Nat} {s : Mc} {pn pc pb : Nat} {ac ao ar : Option Addr} {cc co cr : Nat}
/-- A row of the machine's has grown, and its field is stored. -/
theorem ma_step {v x : Value} {g i j : Nat} (h : MaAt w m T s pn pc pb ac cc ao co ar cr) (hc : Chg w w1 Nothing) (hg : w1.grownBy w2 v.ownBlock) (hgg : v.ownBlock = some g ∨ w1.heap.size ≤ g) (hgl : g < w2.heap.size) (tv : ∀ b, v.ownBlock = some b → T b = i) (hi : i = 3 ∨ i = 4) :
    (∀ b, T b ≠ 0 → T b ≠ i → b ≠ m → (w2.setCell ⟨m, j, none⟩ x).heap[b]? = w.heap[b]? ∧ (if b = g then i else T b) = T b) ∧ w2.heap[m]? = w.heap[m]? ∧ g ≠ m ∧ (if m = g then i else T m) = 1 ∧ (∀ k, (if k = g then i else T k) ≠ 0 → k < (w2.setCell ⟨m, j, none⟩ x).heap.size) ∧ Chg w (w2.setCell ⟨m, j, none⟩ x) (fun k => T k ≠ 0) ∧
      (∀ k, (if k = g then i else T k) ≠ 0 → T k ≠ 0 ∨ w.heap.size ≤ k) ∧ w.heap.size ≤ (w2.setCell ⟨m, j, none⟩ x).heap.size ∧ ∀ q, q ≠ 0 → q ≠ i → (fun k => (if k = g then i else T k) = q) = (fun k => T k = q) := by
  have hi2 : 2 ≤ i := by omega
  have far : ∀ b, T b ≠ 0 → T b ≠ i → w2.heap[b]? = w.heap[b]? ∧ b ≠ g := fun b hb hn => by
    have hl := h.lt b hb
    have hl1 := hc.size
    refine ⟨(hg.block b (by omega) (fun e => hn (tv b e.symm))).trans (hc.block b hl id), fun e => ?_⟩
    rcases hgg with h' | h'
    · exact hn (by rw [e]; exact tv g h')
    · omega
  have fr := far m (by rw [h.tm]; decide) (by rw [h.tm]; omega)
  have hl1 := hc.size
  have hl2 := hg.size
  have hz : (w2.setCell ⟨m, j, none⟩ x).heap.size = w2.heap.size := by simp
  refine ⟨fun b hb hn hr => ⟨(Below.heap_setCell _ _ _ _ hr).trans (far b hb hn).1, if_neg (far b hb hn).2⟩, fr.1, Ne.symm fr.2, by rw [if_neg fr.2]; exact h.tm, fun k hk => ?_, ((hc.mono (S' := fun k => T k ≠ 0) (fun _ _ h => h.elim)).grown hg (fun k hk => .inr (by rw [tv k hk]; omega))).setCell (.inr (by show T m ≠ 0; rw [h.tm]; decide)) _, fun k hk => ?_, by rw [hz]; omega, fun q hq hqi => ?_⟩
  · rw [hz]
    by_cases e : k = g
    · omega
    · rw [if_neg e] at hk
      have := h.lt k hk
      omega
  · by_cases e : k = g
    · subst e
      rcases hgg with h' | h'
      · exact .inl (by rw [tv k h']; omega)
      · exact .inr (by omega)
    · rw [if_neg e] at hk
      exact .inl hk
  · funext k
    apply propext
    by_cases e : k = g
    · subst e
      rw [if_pos rfl]
      constructor
      · intro e2; exact absurd e2.symm hqi
      · intro e2
        rcases hgg with h' | h'
        · exact absurd (e2.symm.trans (tv k h')) hqi
        · have := h.lt k (by omega); omega
    · rw [if_neg e]
theorem MaAt.outed (h : MaAt w m T s pn pc pb ac cc ao co ar cr) {g cap x : Nat} (hc : Chg w w1 Nothing) (hg : w1.grownBy w2 (Value.slice ao s.out.length co).ownBlock)
    (hown : w2.ownsRow 0 61 1 (.slice (some ⟨g, 0, none⟩) (s.out.length + 1) cap) (s.out.length + 1) (s.out.map fl ++ [fl x])) (hgg : (Value.slice ao s.out.length co).ownBlock = some g ∨ w1.heap.size ≤ g) :
    MaAt (w2.setCell ⟨m, 32, none⟩ (.slice (some ⟨g, 0, none⟩) (s.out.length + 1) cap)) m (fun k => if k = g then 3 else T k) { s with out := s.out ++ [x] } pn pc pb ac cc (some ⟨g, 0, none⟩) cap ar cr ∧
      Chg w (w2.setCell ⟨m, 32, none⟩ (.slice (some ⟨g, 0, none⟩) (s.out.length + 1) cap)) (fun k => T k ≠ 0) ∧ (∀ k, (if k = g then 3 else T k) ≠ 0 → T k ≠ 0 ∨ w.heap.size ≤ k) := by
  obtain ⟨s1, s2, s3, s4, s5, s6, s7, s8, s9⟩ := ma_step (j := 32) (x := .slice (some ⟨g, 0, none⟩) (s.out.length + 1) cap) h hc hg hgg (hown.lt g rfl).2 h.out.2 (.inl rfl)
  have mv : ∀ i, i ≠ 0 → i ≠ 3 → i ≠ 1 → ∀ b, T b = i → _ ∧ (if b = g then 3 else T b) = i := fun i h0 h1 h2 b hb => by
    have := s1 b (by omega) (by omega) (fun e => by rw [e, h.tm] at hb; omega)
    exact ⟨this.1, this.2.trans hb⟩
  have e1 : (s.out ++ [x]).length = s.out.length + 1 := by simp
  refine ⟨⟨?_, s4, h.code.move (mv 2 (by decide) (by decide) (by decide)), ⟨?_, fun b hb => ?_⟩, h.reads.move (mv 4 (by decide) (by decide) (by decide)), ?_, ?_, ?_, s5⟩, s6, s7⟩
  · have := blk_set (s2.trans h.blk) 32 (.slice (some ⟨g, 0, none⟩) (s.out.length + 1) cap)
    rw [this]
    unfold mcells
    simp only [e1]
    rfl
  · show World.ownsRow _ 0 _ 1 (.slice _ (s.out ++ [x]).length cap) (s.out ++ [x]).length ((s.out ++ [x]).map fl)
    rw [e1, List.map_append]
    exact ownsRow_heap hown (fun k hk => by injection hk with hk; have hk : g = k := hk; exact Below.heap_setCell _ _ _ _ (by rw [← hk]; exact s3))
  · injection hb with hb
    have hb : g = b := hb
    exact if_pos hb.symm
  · rw [s9 5 (by decide) (by decide)]; exact h.num.frame s8 (fun k hk => (s1 k (by omega) (by omega) (fun e => by rw [e, h.tm] at hk; omega)).1)
  · rw [s9 6 (by decide) (by decide)]; exact h.cal.frame s8 (fun k hk => (s1 k (by omega) (by omega) (fun e => by rw [e, h.tm] at hk; omega)).1)
  · rw [s9 7 (by decide) (by decide)]; exact h.buf.frame s8 (fun k hk => (s1 k (by omega) (by omega) (fun e => by rw [e, h.tm] at hk; omega)).1)
theorem MaAt.readed (h : MaAt w m T s pn pc pb ac cc ao co ar cr) {g cap : Nat} {x : Int × Nat} (hc : Chg w w1 Nothing) (hg : w1.grownBy w2 (Value.slice ar s.reads.length cr).ownBlock)
    (hown : w2.ownsRow 0 152 2 (.slice (some ⟨g, 0, none⟩) (s.reads.length + 1) cap) (s.reads.length + 1) (tchV s.reads ++ [.int .i64 x.1, fl x.2])) (hgg : (Value.slice ar s.reads.length cr).ownBlock = some g ∨ w1.heap.size ≤ g) :
    MaAt (w2.setCell ⟨m, 33, none⟩ (.slice (some ⟨g, 0, none⟩) (s.reads.length + 1) cap)) m (fun k => if k = g then 4 else T k) { s with reads := s.reads ++ [x] } pn pc pb ac cc ao co (some ⟨g, 0, none⟩) cap ∧
      Chg w (w2.setCell ⟨m, 33, none⟩ (.slice (some ⟨g, 0, none⟩) (s.reads.length + 1) cap)) (fun k => T k ≠ 0) ∧ (∀ k, (if k = g then 4 else T k) ≠ 0 → T k ≠ 0 ∨ w.heap.size ≤ k) := by
  obtain ⟨s1, s2, s3, s4, s5, s6, s7, s8, s9⟩ := ma_step (j := 33) (x := .slice (some ⟨g, 0, none⟩) (s.reads.length + 1) cap) h hc hg hgg (hown.lt g rfl).2 h.reads.2 (.inr rfl)
  have mv : ∀ i, i ≠ 0 → i ≠ 4 → i ≠ 1 → ∀ b, T b = i → _ ∧ (if b = g then 4 else T b) = i := fun i h0 h1 h2 b hb => by
    have := s1 b (by omega) (by omega) (fun e => by rw [e, h.tm] at hb; omega)
    exact ⟨this.1, this.2.trans hb⟩
  have e1 : (s.reads ++ [x]).length = s.reads.length + 1 := by simp
  refine ⟨⟨?_, s4, h.code.move (mv 2 (by decide) (by decide) (by decide)), h.out.move (mv 3 (by decide) (by decide) (by decide)), ⟨?_, fun b hb => ?_⟩, ?_, ?_, ?_, s5⟩, s6, s7⟩
  · have := blk_set (s2.trans h.blk) 33 (.slice (some ⟨g, 0, none⟩) (s.reads.length + 1) cap)
    rw [this]
    unfold mcells
    simp only [e1]
    rfl
  · show World.ownsRow _ 0 _ 2 (.slice _ (s.reads ++ [x]).length cap) (s.reads ++ [x]).length (tchV (s.reads ++ [x]))
    rw [e1, tchV_snoc]
    exact ownsRow_heap hown (fun k hk => by injection hk with hk; have hk : g = k := hk; exact Below.heap_setCell _ _ _ _ (by rw [← hk]; exact s3))
  · injection hb with hb
    have hb : g = b := hb
    exact if_pos hb.symm
  · rw [s9 5 (by decide) (by decide)]; exact h.num.frame s8 (fun k hk => (s1 k (by omega) (by omega) (fun e => by rw [e, h.tm] at hk; omega)).1)
  · rw [s9 6 (by decide) (by decide)]; exact h.cal.frame s8 (fun k hk => (s1 k (by omega) (by omega) (fun e => by rw [e, h.tm] at hk; omega)).1)
  · rw [s9 7 (by decide) (by decide)]; exact h.buf.frame s8 (fun k hk => (s1 k (by omega) (by omega) (fun e => by rw [e, h.tm] at hk; omega)).1)
/-- The block of the machine lies still while a row grows. -/
theorem MaAt.still {v : Value} (h : MaAt w m T s pn pc pb ac cc ao co ar cr) (hc : Chg w w1 Nothing) (hg : w1.grownBy w2 v.ownBlock) (hv : v.ownBlock ≠ some m) : w2.heap[m]? = some (.cells (mcells s pn pc pb ac cc ao co ar cr) 142 (0, 0)) := by
  have l := blk_lt h.blk
  have := hc.size
  exact (hg.block m (by omega) (Ne.symm hv)).trans ((hc.block m l id).trans h.blk)
end
theorem row_off {w : World} {T : Nat → Nat} {i : Nat} {e : TypeId} {size : Nat} {a : Option Addr} {n c : Nat} {xs : List Value} {b : Nat} (h : RowT w T i e size (.slice a n c) n xs) (hb : T b ≠ i) : (Value.slice a n c).ownBlock ≠ some b := fun e => hb (h.2 b e)

theorem mpop_at {T : Nat → Nat} {pn pc pb : Nat} {ac ao ar : Option Addr} {cc co cr : Nat} (m : Nat) (s : Mc) (w : World) (hM : MaAt w m T s pn pc pb ac cc ao co ar cr) :
    Calls Tryz.prog 161 #[.pointer (some ⟨m, 0, none⟩)] w fun e w' => e = .returned (fl (topN s.s 0)) ∧ MaAt w' m (upT T 5 w.heap.size w'.heap.size) { s with s := s.s.dropLast } pn pc pb ac cc ao co ar cr ∧ Chg w w' (fun k => T k = 5) := by
  have c23 : w.cell? ⟨m, 23, none⟩ = some (.pointer (some ⟨pn, 0, none⟩)) := blk_cell hM.blk 23
  have HM := Lib.hid hM
  have HE := Lib.hid (topN_last s.s)
  clear hM
  go_enter Tryz.func161, Tryz.ntmps161
  go_wp2_with fail
  refine (SF.pop_any pn _ s.s 64 w HM.out.num).mono ?_
  rintro e w1 ⟨rfl, s1, c1⟩
  have R := Lib.hid (And.intro (HM.out.nums c1 s1.grow) c1)
  clear s1 c1
  go_wp2_with fail
  go_ret
  exact ⟨by rw [HE.out]; rfl, R.out⟩
end Go.Proofs.YtgeapkalabijmaaGreat

/- emit, Give. -/
namespace Go.Proofs.YtgeapkalabijmaaGreat
open Go Go.RowKit
set_option maxRecDepth 100000
set_option maxHeartbeats 1000000
set_option linter.unusedVariables false
set_option linter.unusedSimpArgs false

theorem MaAt.drew {w : World} {m : Nat} {T : Nat → Nat} {s : Mc} {pn pc pb : Nat} {ac ao ar : Option Addr} {cc co cr : Nat} {o : Obj} (h : MaAt w m T s pn pc pb ac cc ao co ar cr) : MaAt (w.alloc o).drew m T s pn pc pb ac cc ao co ar cr :=
  h.frame (by show w.heap.size ≤ (w.alloc o).heap.size; simp) (fun b hb => Below.heap_alloc _ _ _ (h.lt b hb))

theorem lt_drew {w : World} {o : Obj} {k : Nat} (h : k < w.heap.size) : k < (w.alloc o).drew.heap.size := by
  show k < (w.alloc o).heap.size
  simp
  omega
theorem rk_18 (m : Nat) (F : Nat → Prop) (s : Mc) (n : Int) (x : Nat) (w : World) (h : Ma w m F s) (hl : s.out.length < 4096) :
    Calls Tryz.prog 164 #[.pointer (some ⟨m, 0, none⟩), .agg #[.int .i64 18, .int .i64 n, fl x]] w fun e w' => e = .returned (.tuple #[]) ∧ MaS w w' m F { s with s := s.s.dropLast, out := s.out ++ [topN s.s 0] } := by
  obtain ⟨i1, i11, i12, i13, i14⟩ := info_parts (show (Tryz.prog.info? 61).map (fun i => (i.zero, i.size, i.bytes)) = some (some (fl 0), 1, 8) by kernel_rfl)
  obtain ⟨hF, T, pn, pc, pb, ac, cc, ao, co, ar, cr, hM, hT⟩ := id h
  have hm := h.has.2
  have c32 : w.cell? ⟨m, 32, none⟩ = some (.slice ao s.out.length co) := blk_cell hM.blk 32
  have HM := Lib.hid hM
  have HF := Lib.hid hF
  have HT := Lib.hid hT
  have HN := Lib.hid hl
  have H1 := Lib.hid (And.intro i11 (And.intro i12 (And.intro i13 i14)))
  have HD := Lib.hid (hM.drew (o := .cells #[.int .i64 18, .int .i64 n, fl x] 73))
  clear h hM hF hT i11 i12 i13 i14 hl
  go_enter Tryz.func164, Tryz.ntmps164
  go_wp2_with fail
  go_region_law (first | (go_simp; go_at_call 161; refine (mpop_at m s _ HD.out).mono ?_; rintro e w1 ⟨rfl, hM1, c1⟩; have y32 : w1.cell? ⟨m, 32, none⟩ = some (.slice ao s.out.length co) := blk_cell hM1.blk 32; have hm1 : m < w1.heap.size := blk_lt hM1.blk) | (refine step_append_lies _ (by rfl) _ _ _ (by rfl) 0 61 i1 _ 1 8 Tryz.underlying55 H1.out.1 H1.out.2.1 H1.out.2.2.1 H1.out.2.2.2 rfl (by omega) (.slice ao s.out.length co) s.out.length (s.out.map fl) (by rfl) (hM1.out.1.alloc _) ⟨w1.heap.size, 0, none⟩ 1 1 [fl (topN s.s 0)] (by rfl) (by rfl) (World.news_of_block (cs := #[fl (topN s.s 0)]) (t := 61) (fr := (0, 0)) (heap_alloc_new w1 _)) (by simp [Value.oneCell', fl]) (by omega) (by have := HN.out; unfold maxLen; omega) (by have := HN.out; omega) (by simp) (w1.heap.size + 1) (by simp) ?_; intro gg cap w2 hown2 hgrow hat hlt; have hbk := hM1.still ((Chg.refl w1 Nothing).alloc _) hgrow (row_off hM1.out (by rw [hM1.tm]; decide)); have y1 : w2.cell? ⟨m, 32, none⟩ = some (.slice ao s.out.length co) := blk_cell hbk 32; have y2 : w2.frozen? ⟨m, 32, none⟩ = false := blk_free hbk 32))
  all_goals
    obtain ⟨A1, A2, A3⟩ := hM1.outed (x := topN s.s 0) ((Chg.refl w1 Nothing).alloc _) hgrow hown2 (hat.imp id (fun h => by rw [h]; simp))
    have z1 := c1.size
    have R := Lib.hid (MaS.after (((Chg.refl w Nothing).alloc (.cells #[.int .i64 18, .int .i64 n, fl x] 73)).drew) (MaS.step (T := T) (fun k hk => lt_drew (HF.out k hk)) HT.out A1 ((c1.mono (fun k _ hk => by omega)).trans A2 (fun k hk h => by rw [upT_old hk] at h; exact h)) (fun k hk => (A3 k hk).elim (fun h => MaAt.upNew k h) (fun h => .inr (Nat.le_trans z1 h))) (HD.out.hdr A1 rfl)))
    clear A1 A2 A3 hown2 hgrow hat hlt hbk hM1 c1
    go_wp2_with fail
    go_end0
    exact ⟨rfl, R.out⟩
theorem give_no (m : Nat) (F : Nat → Prop) (s : Mc) (x : Nat) (w : World) (h : Ma w m F s) (hw : s.waits = false) :
    Calls Tryz.prog 63 #[.pointer (some ⟨m, 0, none⟩), fl x] w fun e w' => e = .returned (.int .i64 3) ∧ w = w' := by
  have c27 : w.cell? ⟨m, 27, none⟩ = some (.bool false) := h.cell 27 (fun pn pc pb ac cc ao co ar cr => by rw [← hw]; rfl)
  clear h hw
  go_enter Tryz.func63, Tryz.ntmps63
  go_wp2_with fail
  go_ret
  exact ⟨rfl, rfl⟩

set_option maxHeartbeats 2000000 in
theorem give_yes (m : Nat) (F : Nat → Prop) (s : Mc) (x : Nat) (w : World) (h : Ma w m F s) (hw : s.waits = true) (hl : s.reads.length < 4096) (hs : s.s.length < 64) :
    Calls Tryz.prog 63 #[.pointer (some ⟨m, 0, none⟩), fl x] w fun e w' => e = .returned (.int .i64 0) ∧ MaS w w' m F { s with s := s.s ++ [fixB x], reads := s.reads ++ [(s.cell, fixB x)], waits := false } := by
  obtain ⟨i1, i11, i12, i13, i14⟩ := info_parts (show (Tryz.prog.info? 152).map (fun i => (i.zero, i.size, i.bytes)) = some (some (.agg #[.int .i64 0, fl 0]), 2, 16) by kernel_rfl)
  have c27 : w.cell? ⟨m, 27, none⟩ = some (.bool true) := h.cell 27 (fun pn pc pb ac cc ao co ar cr => by rw [← hw]; rfl)
  have H := Lib.hid h
  have HN := Lib.hid hl
  have HS := Lib.hid hs
  have HW := Lib.hid hw
  have H1 := Lib.hid (And.intro i11 (And.intro i12 (And.intro i13 i14)))
  clear h i11 i12 i13 i14 hl hs hw
  go_enter Tryz.func63, Tryz.ntmps63
  go_wp2_with fail
  with_reducible refine (fix_any _ _).mono ?_
  rintro e w1 ⟨rfl, rfl⟩
  go_wp2_with fail
  with_reducible refine (mpush_any m F s (fixB x) w H.out HS.out).mono ?_
  rintro e w1 ⟨rfl, r1⟩
  obtain ⟨hF1, T, pn, pc, pb, ac, cc, ao, co, ar, cr, hM1, hT1⟩ := id r1.ma
  have HR1 := Lib.hid r1
  have HM1 := Lib.hid hM1
  have HF1 := Lib.hid hF1
  have HT1 := Lib.hid hT1
  have y33 : w1.cell? ⟨m, 33, none⟩ = some (.slice ar s.reads.length cr) := blk_cell hM1.blk 33
  have y28 : w1.cell? ⟨m, 28, none⟩ = some (.int .i64 s.cell) := blk_cell hM1.blk 28
  have hm1 : m < w1.heap.size := blk_lt hM1.blk
  clear r1 hF1 hM1 hT1 c27
  go_wp2_with fail
  go_region_law (first | (refine step_append_lies _ (by rfl) _ _ _ (by rfl) 0 152 i1 _ 2 16 Tryz.underlying56 H1.out.1 H1.out.2.1 H1.out.2.2.1 H1.out.2.2.2 rfl (by omega) (.slice ar s.reads.length cr) s.reads.length (tchV s.reads) (by rfl) ((HM1.out.reads.1.alloc _).drew) ⟨w1.heap.size, 0, none⟩ 1 1 [.int .i64 s.cell, fl (fixB x)] (by rfl) (by rfl) (World.news_of_block (cs := #[.int .i64 s.cell, fl (fixB x)]) (t := 152) (fr := (0, 0)) (heap_alloc_new w1 _)) (by simp [Value.oneCell', fl]) (by omega) (by have := HN.out; unfold maxLen; omega) (by have := HN.out; omega) (by simp) (w1.heap.size + 1) (by simp) ?_; intro gg cap w2 hown2 hgrow hat hlt; have hbk := HM1.out.still (((Chg.refl w1 Nothing).alloc _).drew) hgrow (row_off HM1.out.reads (by rw [HM1.out.tm]; decide)); have y1 : w2.cell? ⟨m, 33, none⟩ = some (.slice ar s.reads.length cr) := blk_cell hbk 33; have y2 : w2.frozen? ⟨m, 33, none⟩ = false := blk_free hbk 33; have y3 : w2.cell? ⟨m, 27, none⟩ = some (.bool s.waits) := blk_cell hbk 27; have y4 : w2.frozen? ⟨m, 27, none⟩ = false := blk_free hbk 27))
  all_goals
    obtain ⟨A1, A2, A3⟩ := HM1.out.readed (x := (s.cell, fixB x)) (((Chg.refl w1 Nothing).alloc _).drew) hgrow hown2 (hat.imp id (fun h => by rw [h]; simp))
    have r2 := MaS.step (T := T) HF1.out HT1.out A1 A2 A3 (HM1.out.hdr A1 rfl)
    have r3 := HR1.out.then r2
    have R := Lib.hid (r3.then (r3.ma.fld 27 (.bool false) { s with s := s.s ++ [fixB x], reads := s.reads ++ [(s.cell, fixB x)], waits := false } (fun pn pc pb ac cc ao co ar cr => rfl) rfl rfl rfl rfl rfl rfl rfl))
    clear A1 A2 A3 hown2 hgrow hat hlt hbk r2 r3
    go_wp2_with fail
    go_ret
    exact ⟨rfl, R.out⟩
end Go.Proofs.YtgeapkalabijmaaGreat

/- The machine's read and write. -/
namespace Go.Proofs.YtgeapkalabijmaaGreat
open Go Go.RowKit
set_option maxRecDepth 100000
set_option maxHeartbeats 1000000
set_option linter.unusedVariables false
set_option linter.unusedSimpArgs false

theorem four_set {w : World} {b : Nat} {T : TypeId} {x y z u a c d e : Value} (h : w.heap[b]? = some (.cells #[x, y, z, u] T (0, 0))) : ((((w.setCell ⟨b, 0, none⟩ a).setCell ⟨b, 1, none⟩ c).setCell ⟨b, 2, none⟩ d).setCell ⟨b, 3, none⟩ e).heap[b]? = some (.cells #[a, c, d, e] T (0, 0)) := by
  have := blk_set (blk_set (blk_set (blk_set h 0 a) 1 c) 2 d) 3 e
  simpa using this
theorem Chg.setB {w w' : World} {b : Nat} (h : Chg w w' (fun k => k = b)) (o : Nat) (v : Value) : Chg w (w'.setCell ⟨b, o, none⟩ v) (fun k => k = b) := Chg.setCell h (a := ⟨b, o, none⟩) (.inr rfl) v
theorem four_chg {w : World} {b : Nat} {a c d e : Value} : Chg w ((((w.setCell ⟨b, 0, none⟩ a).setCell ⟨b, 1, none⟩ c).setCell ⟨b, 2, none⟩ d).setCell ⟨b, 3, none⟩ e) (fun k => k = b) :=
  (((Chg.refl w (fun k => k = b)).setB 0 a).setB 1 c |>.setB 2 d).setB 3 e
/-- The answer's block is laid last. -/
theorem MaS.asked {w X X' : World} {o : Obj} {m : Nat} {F : Nat → Prop} {s : Mc} (h : MaS (w.alloc o) X m F s) (hc : Chg X X' (fun k => k = w.heap.size)) (hF : ∀ k, F k → k < w.heap.size) : MaS w X' m F s := by
  have e0 : (w.alloc o).heap.size = w.heap.size + 1 := by simp
  have e1 := h.chg.size
  have e2 := hc.size
  refine ⟨(h.ma.chg hc (fun k hk e => ?_)).wider (fun k hk => ?_) (fun k hk => ?_), ?_, fun v hv => hc.cell (h.hdr v (((Chg.refl w Nothing).alloc o).cell hv id)) (fun e => by have h1 := cell_lt hv; have h2 : m = w.heap.size := e; have h3 : m < w.heap.size := h1; omega)⟩
  · rcases hk with hk | hk
    · have := hF k hk; omega
    · omega
  · rcases hk with hk | hk
    · exact .inl hk
    · exact .inr (by omega)
  · rcases hk with hk | hk
    · have := hF k hk; omega
    · omega
  · exact ((((Chg.refl w Nothing).alloc o).mono (fun _ _ h => h.elim)).trans h.chg (fun _ _ h => h)).trans hc (fun k hk e => by omega)
theorem MaS.askBlk {w X : World} {cs : Array Value} {T : TypeId} {m : Nat} {F : Nat → Prop} {s : Mc} (h : MaS (w.alloc (.cells cs T)) X m F s) (hF : ∀ k, F k → k < w.heap.size) : X.heap[w.heap.size]? = some (.cells cs T (0, 0)) :=
  (h.chg.block _ (by simp) (fun e => Nat.lt_irrefl _ (hF _ e))).trans (heap_alloc_new w _)
theorem MaS.askOff {w X : World} {o : Obj} {m : Nat} {F : Nat → Prop} {s : Mc} (h : MaS (w.alloc o) X m F s) (hF : ∀ k, F k → k < w.heap.size) : ¬ Grow F (w.alloc o) X w.heap.size := by
  rintro (e | e)
  · exact Nat.lt_irrefl _ (hF _ e)
  · exact mbox_off e.1
abbrev ask0 : Array Value := #[.int .i64 0, .int .i64 0, .float .f64 0, .bool false]
theorem Ma.pb {w : World} {m : Nat} {F : Nat → Prop} {s : Mc} (h : Ma w m F s) : ∃ pb Fb, w.cell? ⟨m, 34, none⟩ = some (.pointer (some ⟨pb, 0, none⟩)) ∧ Bf w pb Fb s.buf s.writes := by
  obtain ⟨h1, T, pn, pc, pb, ac, cc, ao, co, ar, cr, h2, h3⟩ := h
  exact ⟨pb, _, blk_cell h2.blk 34, h2.buf⟩
theorem getN_none {l : List (Int × Nat)} {c : Int} (h : getN l c = none) : Un l c := by
  unfold getN at h
  cases hp : pos l c with
  | none => exact Un.of_pos hp
  | some i => rw [hp] at h; simp at h
theorem getN_some {l : List (Int × Nat)} {c : Int} {y : Nat} (h : getN l c = some y) : ∃ i, Kn l c i ∧ l[i]? = some (c, y) := by
  unfold getN at h
  cases hp : pos l c with
  | none => rw [hp] at h; simp at h
  | some i =>
    rw [hp] at h
    have hk := Kn.of_pos hp
    obtain ⟨⟨z, hz⟩, _⟩ := id hk
    rw [Option.map_some, List.getD_eq_getElem?_getD, hz] at h
    simp at h
    subst h
    exact ⟨i, hk, hz⟩

theorem new2v {w : World} {x y : Value} {T : TypeId} : ∀ j u, [x, y][j]? = some u → (w.alloc (.cells #[x, y] T)).cell? ⟨w.heap.size, j, none⟩ = some u := by
  intro j u hj
  rw [blk_cell (heap_alloc_new w _)]
  simpa using hj
theorem one2v {k : IntKind} {a : Int} {c : Nat} : ∀ u ∈ [Value.int k a, fl c], u.oneCell' = true := by
  intro u hu
  simp at hu
  rcases hu with rfl | rfl <;> rfl

section
variable (m : Nat) (F : Nat → Prop) (s : Mc) (w : World)
theorem mread_bad (h : Ma w m F s) (hs : 0 < s.s.length) (hi : idxE (topN s.s 0) s.cells ≠ 0) :
    Calls Tryz.prog 158 #[.pointer (some ⟨m, 0, none⟩)] w fun e w' => e = .panicked (faultC 50) ∧ Chg w w' Nothing := by
  have H := Lib.hid h
  have HS := Lib.hid hs
  have HI := Lib.hid hi
  clear h hs hi
  go_enter Tryz.func158, Tryz.ntmps158
  go_wp2_with fail
  with_reducible refine (maddr_bad m F s _ (H.out.boxed _) HS.out HI.out).mono ?_
  rintro e w1 ⟨rfl, n1, rfl⟩
  exact ⟨rfl, rfl, ((Chg.refl _ _).alloc _).drewN _⟩

set_option maxHeartbeats 2000000 in
theorem mread_none (h : Ma w m F s) (hs : 0 < s.s.length) (hi : idxE (topN s.s 0) s.cells = 0) (hb : getN s.buf (idxI (topN s.s 0) s.cells) = none) :
    Calls Tryz.prog 158 #[.pointer (some ⟨m, 0, none⟩)] w fun e w' => e = .returned (askV ⟨1, idxI (topN s.s 0) s.cells, 0, false⟩) ∧ MaS w w' m F { s with s := s.s.dropLast, waits := true, cell := idxI (topN s.s 0) s.cells } := by
  have H := Lib.hid h
  have HS := Lib.hid hs
  have HI := Lib.hid hi
  have HB := Lib.hid (getN_none hb)
  have hm := h.has.2
  have hmq : ¬ w.heap.size = m := by omega
  have hmq2 : ¬ m = w.heap.size := by omega
  clear h hs hi hb
  generalize hc : idxI (topN s.s 0) s.cells = c at *
  have HCC := Lib.hid hc
  clear hc
  go_enter Tryz.func158, Tryz.ntmps158
  go_wp2_with fail
  with_reducible refine (maddr_ok m F s _ (H.out.boxed _) HS.out HI.out).mono ?_
  rintro e w1 ⟨rfl, n1, rfl⟩
  rw [HCC.out]
  go_wp2_with fail
  with_reducible refine (mpop_any m F s _ ((H.out.boxed _).drewN n1)).mono ?_
  rintro e w1 ⟨rfl, r1⟩
  have R1 := Lib.hid (MaS.after (w := w.alloc (.cells ask0 99)) ((Chg.refl _ _).drewN n1) r1)
  obtain ⟨pb, Fb, c34, hbf⟩ := r1.ma.pb
  have HBF := Lib.hid hbf
  clear r1 hbf
  go_wp2_with fail
  with_reducible refine (get_un pb Fb s.buf s.writes c _ HBF.out HB.out).mono ?_
  rintro e w2 ⟨rfl, rfl⟩
  have y27 : w1.cell? ⟨m, 27, none⟩ = some (.bool s.waits) := R1.out.ma.cell 27 (fun pn pc pb ac cc ao co ar cr => rfl)
  have y28 : w1.cell? ⟨m, 28, none⟩ = some (.int .i64 s.cell) := R1.out.ma.cell 28 (fun pn pc pb ac cc ao co ar cr => rfl)
  have f27 := R1.out.ma.free 27
  have f28 := R1.out.ma.free 28
  have qb := R1.out.askBlk H.out.lt
  have q0 : w1.cell? ⟨w.heap.size, 0, none⟩ = some (.int .i64 0) := blk_cell qb 0
  have q1 : w1.cell? ⟨w.heap.size, 1, none⟩ = some (.int .i64 0) := blk_cell qb 1
  have q2 : w1.cell? ⟨w.heap.size, 2, none⟩ = some (.float .f64 0) := blk_cell qb 2
  have q3 : w1.cell? ⟨w.heap.size, 3, none⟩ = some (.bool false) := blk_cell qb 3
  have g0 : w1.frozen? ⟨w.heap.size, 0, none⟩ = false := blk_free qb 0
  have g1 : w1.frozen? ⟨w.heap.size, 1, none⟩ = false := blk_free qb 1
  have g2 : w1.frozen? ⟨w.heap.size, 2, none⟩ = false := blk_free qb 2
  have g3 : w1.frozen? ⟨w.heap.size, 3, none⟩ = false := blk_free qb 3
  have R2 := R1.out.then (R1.out.ma.fld 27 (.bool true) { s with s := s.s.dropLast, waits := true } (fun pn pc pb ac cc ao co ar cr => rfl) rfl rfl rfl rfl rfl rfl rfl)
  have R3 := R2.then (R2.ma.fld 28 (.int .i64 c) { s with s := s.s.dropLast, waits := true, cell := c } (fun pn pc pb ac cc ao co ar cr => rfl) rfl rfl rfl rfl rfl rfl rfl)
  have QB := Lib.hid ((Below.heap_setCell _ _ _ _ hmq).trans ((Below.heap_setCell _ _ _ _ hmq).trans qb) : (((w1.setCell ⟨m, 27, none⟩ (.bool true)).setCell ⟨m, 28, none⟩ (.int .i64 c)).heap[w.heap.size]? = some (.cells ask0 99 (0, 0))))
  have R := Lib.hid (R3.asked (four_chg (a := .int .i64 1) (c := .int .i64 c) (d := .float .f64 0) (e := .bool false)) H.out.lt)
  clear qb R2 R3
  go_wp2_with fail
  exact bodyPost_ret (v := askV ⟨1, c, 0, false⟩) (read_results (a := ⟨1, c, 0, false⟩) rfl (four_set QB.out)) rfl ⟨rfl, R.out⟩
set_option maxHeartbeats 2000000 in
theorem mread_own (h : Ma w m F s) (hs : 0 < s.s.length) (hi : idxE (topN s.s 0) s.cells = 0) (x : Nat) (hb : getN s.buf (idxI (topN s.s 0) s.cells) = some x) (hl : s.reads.length < 4096) :
    Calls Tryz.prog 158 #[.pointer (some ⟨m, 0, none⟩)] w fun e w' => e = .returned (askV ⟨2, idxI (topN s.s 0) s.cells, x, false⟩) ∧ MaS w w' m F { s with s := s.s.dropLast ++ [x], reads := s.reads ++ [(idxI (topN s.s 0) s.cells, x)] } := by
  obtain ⟨i, hk, hy⟩ := getN_some hb
  have H := Lib.hid h
  have HS := Lib.hid hs
  have HI := Lib.hid hi
  have HB := Lib.hid (And.intro hk hy)
  have HZ := Lib.hid h.fits.1
  have HN := Lib.hid hl
  have hm := h.has.2
  have hmq : ¬ w.heap.size = m := by omega
  have hmq2 : ¬ m = w.heap.size := by omega
  clear h hs hi hb hk hy hl
  generalize hc : idxI (topN s.s 0) s.cells = c at *
  have HCC := Lib.hid hc
  clear hc
  go_enter Tryz.func158, Tryz.ntmps158
  go_wp2_with fail
  with_reducible refine (maddr_ok m F s _ (H.out.boxed _) HS.out HI.out).mono ?_
  rintro e w1 ⟨rfl, n1, rfl⟩
  rw [HCC.out]
  go_wp2_with fail
  with_reducible refine (mpop_any m F s _ ((H.out.boxed _).drewN n1)).mono ?_
  rintro e w1 ⟨rfl, r1⟩
  have R1 := Lib.hid (MaS.after (w := w.alloc (.cells ask0 99)) ((Chg.refl _ _).drewN n1) r1)
  obtain ⟨pb, Fb, c34, hbf⟩ := r1.ma.pb
  have HBF := Lib.hid hbf
  clear r1 hbf
  go_wp2_with fail
  with_reducible refine (get_known pb Fb s.buf s.writes c i x _ HBF.out HB.out.1 HB.out.2).mono ?_
  rintro e w2 ⟨rfl, rfl⟩
  clear c34
  go_wp2_with fail
  with_reducible refine (mpush_any m _ _ x w1 R1.out.ma (by show s.s.dropLast.length < 64; simp; have := HZ.out; have := HS.out; omega)).mono ?_
  rintro e w2 ⟨rfl, r2⟩
  have R2 := Lib.hid (R1.out.then r2)
  clear r2
  obtain ⟨hF1, T, pn, pc, pb2, ac, cc, ao, co, ar, cr, hM1, hT1⟩ := id R2.out.ma
  have HM1 := Lib.hid hM1
  have HF1 := Lib.hid hF1
  have HT1 := Lib.hid hT1
  have y33 : w2.cell? ⟨m, 33, none⟩ = some (.slice ar s.reads.length cr) := blk_cell hM1.blk 33
  have hm1 : m < w2.heap.size := blk_lt hM1.blk
  have hmn1 : ¬ m = w2.heap.size := by omega
  have qb := R2.out.askBlk H.out.lt
  have hq1 : w.heap.size < w2.heap.size := blk_lt qb
  have QB2 := Lib.hid qb
  clear hF1 hM1 hT1 qb
  go_wp2_with (at_builtin; refine append_one rfl _ _ 56 152 rfl (.agg #[.int .i64 0, fl 0]) 2 16 Tryz.underlying56 (by kernel_rfl) rfl (by decide) _ s.reads.length (tchV s.reads) rfl (HM1.out.reads.1.alloc _) w2.heap.size 1 rfl [.int .i64 c, fl x] rfl ?c1 ?c2 ?c3 ?c4 ?c5)
  first | (case c1 => exact new2v) | skip
  first | (case c2 => first | exact one2v | exact ⟨rfl, rfl⟩) | skip
  first | (case c3 => (have := HN.out; unfold maxLen; omega)) | skip
  first | (case c4 => (have := HN.out; omega)) | skip
  case c5 =>
    intro g cap w3 hown3 hg3 hgg
    obtain ⟨A1, A2, A3⟩ := HM1.out.readed (x := (c, x)) ((Chg.refl w2 Nothing).alloc (.cells #[.int .i64 c, fl x] 152)) hg3 hown3 (hgg.imp id (fun h => by simpa using h))
    have hbk := HM1.out.still ((Chg.refl w2 Nothing).alloc (.cells #[.int .i64 c, fl x] 152)) hg3 (row_off HM1.out.reads (by rw [HM1.out.tm]; decide))
    have y1 : w3.cell? ⟨m, 33, none⟩ = some (.slice ar s.reads.length cr) := blk_cell hbk 33
    have y2 : w3.frozen? ⟨m, 33, none⟩ = false := blk_free hbk 33
    have R3 := R2.out.then (MaS.step (T := T) HF1.out HT1.out A1 A2 A3 (HM1.out.hdr A1 rfl))
    have qe := R3.askBlk H.out.lt
    have qd : w3.heap[w.heap.size]? = some (.cells ask0 99 (0, 0)) := by rw [← qe]; exact (Below.heap_setCell _ _ _ _ hmq).symm
    have q0 : w3.cell? ⟨w.heap.size, 0, none⟩ = some (.int .i64 0) := blk_cell qd 0
    have q1 : w3.cell? ⟨w.heap.size, 1, none⟩ = some (.int .i64 0) := blk_cell qd 1
    have q2 : w3.cell? ⟨w.heap.size, 2, none⟩ = some (.float .f64 0) := blk_cell qd 2
    have q3 : w3.cell? ⟨w.heap.size, 3, none⟩ = some (.bool false) := blk_cell qd 3
    have g0 : w3.frozen? ⟨w.heap.size, 0, none⟩ = false := blk_free qd 0
    have g1 : w3.frozen? ⟨w.heap.size, 1, none⟩ = false := blk_free qd 1
    have g2 : w3.frozen? ⟨w.heap.size, 2, none⟩ = false := blk_free qd 2
    have g3 : w3.frozen? ⟨w.heap.size, 3, none⟩ = false := blk_free qd 3
    have QE := Lib.hid qe
    have R := Lib.hid (R3.asked (four_chg (a := .int .i64 2) (c := .int .i64 c) (d := fl x) (e := .bool false)) H.out.lt)
    clear A1 A2 A3 hown3 hg3 hgg hbk R3 qe qd
    go_wp2_with fail
    exact bodyPost_ret (v := askV ⟨2, c, x, false⟩) (read_results (a := ⟨2, c, x, false⟩) rfl (four_set QE.out)) rfl ⟨rfl, R.out⟩
end
end Go.Proofs.YtgeapkalabijmaaGreat

/- The machine's write. -/
namespace Go.Proofs.YtgeapkalabijmaaGreat
open Go Go.RowKit
set_option maxRecDepth 100000
set_option maxHeartbeats 1000000
set_option linter.unusedVariables false
set_option linter.unusedSimpArgs false

theorem Bf.grown {w w' : World} {p : Nat} {F : Nat → Prop} {l : List (Int × Nat)} {most : Int} (h : Bf w' p F l most) : Bf w' p (Grow F w w') l most :=
  h.wider (fun k hk => .inl hk) (fun k hk => by rcases hk with hk | hk; exact h.lt k hk; exact hk.2)
theorem putN_un {l : List (Int × Nat)} {c : Int} {x : Nat} (h : Un l c) : putN l c x = l ++ [(c, x)] := by unfold putN; rw [h.pos]
theorem putN_kn {l : List (Int × Nat)} {c : Int} {x i : Nat} (h : Kn l c i) : putN l c x = l.set i (c, x) := by unfold putN; rw [h.pos]

section
variable (m : Nat) (F : Nat → Prop) (s : Mc) (w : World)
theorem mwrite_tag (h : Ma w m F s) (ht : s.tag ≠ 2) :
    Calls Tryz.prog 159 #[.pointer (some ⟨m, 0, none⟩)] w fun e w' => e = .panicked (faultC 81) ∧ Chg w w' Nothing := by
  have c4 : w.cell? ⟨m, 4, none⟩ = some (.int .i64 s.tag) := h.cell 4 (fun pn pc pb ac cc ao co ar cr => rfl)
  have hm := h.has.2
  have q1 : (s.tag != 2) = true := by simpa using ht
  clear h ht
  go_enter Tryz.func159, Tryz.ntmps159
  go_wp2_with fail
  with_reducible refine (must_bad 81 _ (by decide)).mono ?_
  rintro e w1 ⟨rfl, rfl⟩
  exact ⟨rfl, rfl, (Chg.refl _ _).alloc _⟩
theorem mwrite_bad (h : Ma w m F s) (ht : s.tag = 2) (hs : 0 < s.s.length) (hi : idxE (topN s.s 0) s.cells ≠ 0) :
    Calls Tryz.prog 159 #[.pointer (some ⟨m, 0, none⟩)] w fun e w' => e = .panicked (faultC 50) ∧ Chg w w' Nothing := by
  have c4 : w.cell? ⟨m, 4, none⟩ = some (.int .i64 2) := h.cell 4 (fun pn pc pb ac cc ao co ar cr => by rw [← ht]; rfl)
  have hm := h.has.2
  have H := Lib.hid h
  have HS := Lib.hid hs
  have HI := Lib.hid hi
  clear h hs hi ht
  go_enter Tryz.func159, Tryz.ntmps159
  go_wp2_with fail
  with_reducible refine (maddr_bad m F s _ (H.out.boxed _) HS.out HI.out).mono ?_
  rintro e w1 ⟨rfl, n1, rfl⟩
  exact ⟨rfl, rfl, ((Chg.refl _ _).alloc _).drewN _⟩
set_option maxHeartbeats 2000000 in
theorem mwrite_full (h : Ma w m F s) (ht : s.tag = 2) (hs : 2 ≤ s.s.length) (hi : idxE (topN s.s 0) s.cells = 0) (hb : getN s.buf (idxI (topN s.s 0) s.cells) = none) (hf : (s.buf.length : Int) = s.writes) :
    Calls Tryz.prog 159 #[.pointer (some ⟨m, 0, none⟩)] w fun e w' => e = .panicked (faultC 70) ∧ Chg w w' Nothing := by
  obtain ⟨hF, T, pn, pc, pb, ac, cc, ao, co, ar, cr, hM, hT⟩ := id h
  have c4 : w.cell? ⟨m, 4, none⟩ = some (.int .i64 2) := h.cell 4 (fun pn pc pb ac cc ao co ar cr => by rw [← ht]; rfl)
  have c23 : w.cell? ⟨m, 23, none⟩ = some (.pointer (some ⟨pn, 0, none⟩)) := blk_cell hM.blk 23
  have c34 : w.cell? ⟨m, 34, none⟩ = some (.pointer (some ⟨pb, 0, none⟩)) := blk_cell hM.blk 34
  have hm := h.has.2
  have hmq : ¬ w.heap.size = m := by omega
  have H := Lib.hid h
  have HM := Lib.hid hM
  have HF := Lib.hid hF
  have HT := Lib.hid hT
  have HI := Lib.hid hi
  have HS := Lib.hid hs
  have HP := Lib.hid (pick_top s.s (n := 1) (by omega))
  have HB := Lib.hid (getN_none hb)
  have HFU := Lib.hid hf
  clear h hM hF hT hi hs hb ht hf
  generalize hc : idxI (topN s.s 0) s.cells = c at *
  have HCC := Lib.hid hc
  clear hc
  go_enter Tryz.func159, Tryz.ntmps159
  go_wp2_with fail
  with_reducible refine (maddr_ok m F s _ (H.out.boxed _) (by have := HS.out; omega) HI.out).mono ?_
  rintro e w1 ⟨rfl, n1, rfl⟩
  rw [HCC.out]
  go_wp2_with fail
  with_reducible refine (SF.pick_any pn _ s.s 64 1 _ (HM.out.num.chg (((Chg.refl w Nothing).alloc _).drewN n1) (fun _ _ h => h))).mono ?_
  rintro e w1 ⟨rfl, n2, rfl⟩
  have hps : pickV 0 s.s 1 = topN s.s 1 := HP.out
  go_wp2_with fail
  with_reducible refine (put_full pb _ s.buf s.writes c _ _ (HM.out.buf.chg (((Chg.refl w Nothing).alloc _).drewN (n1 + n2)) (fun _ _ h => h)) HB.out HFU.out).mono ?_
  rintro e w1 ⟨rfl, n3, rfl⟩
  go_wp2_with fail
  with_reducible refine (must_bad 70 _ (by decide)).mono ?_
  rintro e w1 ⟨rfl, rfl⟩
  exact ⟨rfl, rfl, ((Chg.refl _ _).alloc _).drewN _⟩
set_option maxHeartbeats 2000000 in
theorem mwrite_new (h : Ma w m F s) (ht : s.tag = 2) (hs : 2 ≤ s.s.length) (hi : idxE (topN s.s 0) s.cells = 0) (hb : getN s.buf (idxI (topN s.s 0) s.cells) = none) (hf : (s.buf.length : Int) < s.writes) (hx : fixB (topN s.s 1) = topN s.s 1) :
    Calls Tryz.prog 159 #[.pointer (some ⟨m, 0, none⟩)] w fun e w' => e = .returned (askV ⟨3, idxI (topN s.s 0) s.cells, topN s.s 1, true⟩) ∧ MaS w w' m F { s with s := s.s.dropLast.dropLast, buf := putN s.buf (idxI (topN s.s 0) s.cells) (topN s.s 1) } := by
  obtain ⟨hF, T, pn, pc, pb, ac, cc, ao, co, ar, cr, hM, hT⟩ := id h
  have c4 : w.cell? ⟨m, 4, none⟩ = some (.int .i64 2) := h.cell 4 (fun pn pc pb ac cc ao co ar cr => by rw [← ht]; rfl)
  have c23 : w.cell? ⟨m, 23, none⟩ = some (.pointer (some ⟨pn, 0, none⟩)) := blk_cell hM.blk 23
  have c34 : w.cell? ⟨m, 34, none⟩ = some (.pointer (some ⟨pb, 0, none⟩)) := blk_cell hM.blk 34
  have hm := h.has.2
  have hmq : ¬ w.heap.size = m := by omega
  have H := Lib.hid h
  have HM := Lib.hid hM
  have HF := Lib.hid hF
  have HT := Lib.hid hT
  have HI := Lib.hid hi
  have HS := Lib.hid hs
  have HP := Lib.hid (pick_top s.s (n := 1) (by omega))
  have HB := Lib.hid (getN_none hb)
  have HFU := Lib.hid hf
  have HX := Lib.hid hx
  clear h hM hF hT hi hs hb ht hf hx
  generalize hc : idxI (topN s.s 0) s.cells = c at *
  have HCC := Lib.hid hc
  clear hc
  go_enter Tryz.func159, Tryz.ntmps159
  go_wp2_with fail
  with_reducible refine (maddr_ok m F s _ (H.out.boxed _) (by have := HS.out; omega) HI.out).mono ?_
  rintro e w1 ⟨rfl, n1, rfl⟩
  rw [HCC.out]
  go_wp2_with fail
  with_reducible refine (SF.pick_any pn _ s.s 64 1 _ (HM.out.num.chg (((Chg.refl w Nothing).alloc _).drewN n1) (fun _ _ h => h))).mono ?_
  rintro e w1 ⟨rfl, n2, rfl⟩
  have hps : pickV 0 s.s 1 = topN s.s 1 := HP.out
  go_wp2_with fail
  with_reducible refine (put_new pb _ s.buf s.writes c _ _ (HM.out.buf.chg (((Chg.refl w Nothing).alloc _).drewN (n1 + n2)) (fun _ _ h => h)) HB.out HFU.out).mono ?_
  rintro e w1 ⟨rfl, b1, c1⟩
  have e1 := putN_un (x := topN s.s 1) HB.out
  rw [HX.out] at b1
  rw [← e1] at b1
  have M0 := HM.out.frame (w' := (w.alloc (.cells ask0 99)).drewN (n1 + n2)) ((((Chg.refl w Nothing).alloc _).drewN (n1 + n2)).size) (fun b hb => Below.heap_alloc _ _ _ (HM.out.lt b hb))
  have R1 := Lib.hid (MaS.after (w := w.alloc (.cells ask0 99)) ((Chg.refl _ Nothing).drewN (n1 + n2)) (MaS.step (F := F) (T := T) (fun k hk => by have := HF.out k hk; show k < (w.alloc _).heap.size; simp; omega) HT.out (M0.bufs c1 b1) (c1.mono (fun k _ hk => by omega)) MaAt.upNew (M0.hdr (M0.bufs c1 b1) rfl)))
  clear b1 c1 M0 e1
  go_wp2_with fail
  with_reducible refine (must_ok _).mono ?_
  rintro e w2 ⟨rfl, rfl⟩
  go_wp2_with fail
  with_reducible refine (mpop_any m _ _ _ R1.out.ma).mono ?_
  rintro e w2 ⟨rfl, r2⟩
  have R2 := Lib.hid (R1.out.then r2)
  clear r2
  go_wp2_with fail
  with_reducible refine (mpop_any m _ _ _ R2.out.ma).mono ?_
  rintro e w3 ⟨rfl, r3⟩
  have R3 := R2.out.then r3
  have qd := R3.askBlk H.out.lt
  have q0 : w3.cell? ⟨w.heap.size, 0, none⟩ = some (.int .i64 0) := blk_cell qd 0
  have q1 : w3.cell? ⟨w.heap.size, 1, none⟩ = some (.int .i64 0) := blk_cell qd 1
  have q2 : w3.cell? ⟨w.heap.size, 2, none⟩ = some (.float .f64 0) := blk_cell qd 2
  have q3 : w3.cell? ⟨w.heap.size, 3, none⟩ = some (.bool false) := blk_cell qd 3
  have g0 : w3.frozen? ⟨w.heap.size, 0, none⟩ = false := blk_free qd 0
  have g1 : w3.frozen? ⟨w.heap.size, 1, none⟩ = false := blk_free qd 1
  have g2 : w3.frozen? ⟨w.heap.size, 2, none⟩ = false := blk_free qd 2
  have g3 : w3.frozen? ⟨w.heap.size, 3, none⟩ = false := blk_free qd 3
  have QE := Lib.hid qd
  have R := Lib.hid (R3.asked (four_chg (a := .int .i64 3) (c := .int .i64 c) (d := fl (topN s.s 1)) (e := .bool true)) H.out.lt)
  clear R3 r3 qd
  go_wp2_with fail
  exact bodyPost_ret (v := askV ⟨3, c, topN s.s 1, true⟩) (write_results (a := ⟨3, c, topN s.s 1, true⟩) rfl (four_set QE.out)) rfl ⟨rfl, R.out⟩
set_option maxHeartbeats 2000000 in
theorem mwrite_known (h : Ma w m F s) (ht : s.tag = 2) (hs : 2 ≤ s.s.length) (hi : idxE (topN s.s 0) s.cells = 0) (y : Nat) (hb : getN s.buf (idxI (topN s.s 0) s.cells) = some y) (hx : fixB (topN s.s 1) = topN s.s 1) :
    Calls Tryz.prog 159 #[.pointer (some ⟨m, 0, none⟩)] w fun e w' => e = .returned (askV ⟨3, idxI (topN s.s 0) s.cells, topN s.s 1, false⟩) ∧ MaS w w' m F { s with s := s.s.dropLast.dropLast, buf := putN s.buf (idxI (topN s.s 0) s.cells) (topN s.s 1) } := by
  obtain ⟨i, hk, hy⟩ := getN_some hb
  obtain ⟨hF, T, pn, pc, pb, ac, cc, ao, co, ar, cr, hM, hT⟩ := id h
  have c4 : w.cell? ⟨m, 4, none⟩ = some (.int .i64 2) := h.cell 4 (fun pn pc pb ac cc ao co ar cr => by rw [← ht]; rfl)
  have c23 : w.cell? ⟨m, 23, none⟩ = some (.pointer (some ⟨pn, 0, none⟩)) := blk_cell hM.blk 23
  have c34 : w.cell? ⟨m, 34, none⟩ = some (.pointer (some ⟨pb, 0, none⟩)) := blk_cell hM.blk 34
  have hm := h.has.2
  have hmq : ¬ w.heap.size = m := by omega
  have H := Lib.hid h
  have HM := Lib.hid hM
  have HF := Lib.hid hF
  have HT := Lib.hid hT
  have HI := Lib.hid hi
  have HS := Lib.hid hs
  have HP := Lib.hid (pick_top s.s (n := 1) (by omega))
  have HB := Lib.hid hk
  have HX := Lib.hid hx
  clear h hM hF hT hi hs hb ht hx hk hy
  generalize hc : idxI (topN s.s 0) s.cells = c at *
  have HCC := Lib.hid hc
  clear hc
  go_enter Tryz.func159, Tryz.ntmps159
  go_wp2_with fail
  with_reducible refine (maddr_ok m F s _ (H.out.boxed _) (by have := HS.out; omega) HI.out).mono ?_
  rintro e w1 ⟨rfl, n1, rfl⟩
  rw [HCC.out]
  go_wp2_with fail
  with_reducible refine (SF.pick_any pn _ s.s 64 1 _ (HM.out.num.chg (((Chg.refl w Nothing).alloc _).drewN n1) (fun _ _ h => h))).mono ?_
  rintro e w1 ⟨rfl, n2, rfl⟩
  have hps : pickV 0 s.s 1 = topN s.s 1 := HP.out
  go_wp2_with fail
  with_reducible refine (put_known pb _ s.buf s.writes c _ i _ (HM.out.buf.chg (((Chg.refl w Nothing).alloc _).drewN (n1 + n2)) (fun _ _ h => h)) HB.out).mono ?_
  rintro e w1 ⟨rfl, b1', c1⟩
  have b1 := b1'.grown (w := ((w.alloc (.cells ask0 99)).drewN (n1 + n2)))
  have e1 := putN_kn (x := topN s.s 1) HB.out
  rw [HX.out] at b1
  rw [← e1] at b1
  have M0 := HM.out.frame (w' := (w.alloc (.cells ask0 99)).drewN (n1 + n2)) ((((Chg.refl w Nothing).alloc _).drewN (n1 + n2)).size) (fun b hb => Below.heap_alloc _ _ _ (HM.out.lt b hb))
  have R1 := Lib.hid (MaS.after (w := w.alloc (.cells ask0 99)) ((Chg.refl _ Nothing).drewN (n1 + n2)) (MaS.step (F := F) (T := T) (fun k hk => by have := HF.out k hk; show k < (w.alloc _).heap.size; simp; omega) HT.out (M0.bufs c1 b1) (c1.mono (fun k _ hk => by omega)) MaAt.upNew (M0.hdr (M0.bufs c1 b1) rfl)))
  clear b1 c1 M0 e1
  go_wp2_with fail
  with_reducible refine (must_ok _).mono ?_
  rintro e w2 ⟨rfl, rfl⟩
  go_wp2_with fail
  with_reducible refine (mpop_any m _ _ _ R1.out.ma).mono ?_
  rintro e w2 ⟨rfl, r2⟩
  have R2 := Lib.hid (R1.out.then r2)
  clear r2
  go_wp2_with fail
  with_reducible refine (mpop_any m _ _ _ R2.out.ma).mono ?_
  rintro e w3 ⟨rfl, r3⟩
  have R3 := R2.out.then r3
  have qd := R3.askBlk H.out.lt
  have q0 : w3.cell? ⟨w.heap.size, 0, none⟩ = some (.int .i64 0) := blk_cell qd 0
  have q1 : w3.cell? ⟨w.heap.size, 1, none⟩ = some (.int .i64 0) := blk_cell qd 1
  have q2 : w3.cell? ⟨w.heap.size, 2, none⟩ = some (.float .f64 0) := blk_cell qd 2
  have q3 : w3.cell? ⟨w.heap.size, 3, none⟩ = some (.bool false) := blk_cell qd 3
  have g0 : w3.frozen? ⟨w.heap.size, 0, none⟩ = false := blk_free qd 0
  have g1 : w3.frozen? ⟨w.heap.size, 1, none⟩ = false := blk_free qd 1
  have g2 : w3.frozen? ⟨w.heap.size, 2, none⟩ = false := blk_free qd 2
  have g3 : w3.frozen? ⟨w.heap.size, 3, none⟩ = false := blk_free qd 3
  have QE := Lib.hid qd
  have R := Lib.hid (R3.asked (four_chg (a := .int .i64 3) (c := .int .i64 c) (d := fl (topN s.s 1)) (e := .bool false)) H.out.lt)
  clear R3 r3 qd
  go_wp2_with fail
  exact bodyPost_ret (v := askV ⟨3, c, topN s.s 1, false⟩) (write_results (a := ⟨3, c, topN s.s 1, false⟩) rfl (four_set QE.out)) rfl ⟨rfl, R.out⟩
end
end Go.Proofs.YtgeapkalabijmaaGreat
