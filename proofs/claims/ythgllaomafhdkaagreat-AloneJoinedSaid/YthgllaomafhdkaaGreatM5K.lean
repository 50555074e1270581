/- Calls, one behind the other: plainly. -/
import Derived.Test.YthgllaomafhdkaaGreatM5I
import Derived.Test.YthgllaomafhdkaaGreatKO
namespace Go.Proofs.YthgllaomafhdkaaGreat
open Go Go.RowKit
set_option maxRecDepth 100000
set_option maxHeartbeats 1000000
set_option linter.unusedVariables false
set_option linter.unusedSimpArgs false

structure Pg where
  tag : Int
  av : Option Addr
  code : List Ins
  cap : Nat
structure Cl where
  prog : Int
  av : Option Addr
  args : List Nat
  cap : Nat
instance : Inhabited Pg := ⟨⟨0, none, [], 0⟩⟩
instance : Inhabited Cl := ⟨⟨0, none, [], 0⟩⟩
def pgV (ps : List Pg) : List Value := ps.flatMap fun p => [.int .i64 p.tag, .slice p.av p.code.length p.cap]
def clV (cs : List Cl) : List Value := cs.flatMap fun p => [.int .i64 p.prog, .slice p.av p.args.length p.cap]
theorem pgV_at : ∀ (ts : List Pg) (i : Nat) (x : Pg), ts[i]? = some x → (pgV ts)[i * 2]? = some (.int .i64 x.tag) ∧ (pgV ts)[i * 2 + 1]? = some (.slice x.av x.code.length x.cap)
  | [], i, x, h => by simp at h
  | t :: ts, 0, x, h => by simp at h; subst h; exact ⟨rfl, rfl⟩
  | t :: ts, i + 1, x, h => by
    have := pgV_at ts i x (by simpa using h)
    rw [show (i + 1) * 2 = i * 2 + 2 by omega]
    exact this
theorem clV_at : ∀ (ts : List Cl) (i : Nat) (x : Cl), ts[i]? = some x → (clV ts)[i * 2]? = some (.int .i64 x.prog) ∧ (clV ts)[i * 2 + 1]? = some (.slice x.av x.args.length x.cap)
  | [], i, x, h => by simp at h
  | t :: ts, 0, x, h => by simp at h; subst h; exact ⟨rfl, rfl⟩
  | t :: ts, i + 1, x, h => by
    have := clV_at ts i x (by simpa using h)
    rw [show (i + 1) * 2 = i * 2 + 2 by omega]
    exact this
structure Pg.In (w : World) (p : Pg) : Prop where
  cap : p.code.length ≤ p.cap
  nil : p.av = none → p.cap = 0
  sees : Sees w p.av (insV p.code)
  lt : ∀ i ∈ p.code, i.2.2 < 18446744073709551616
  bd : p.code.length * 24 ≤ 140737488351232
structure Cl.In (w : World) (p : Cl) : Prop where
  cap : p.args.length ≤ p.cap
  nil : p.av = none → p.cap = 0
  sees : Sees w p.av (p.args.map fl)
  lt : ∀ y ∈ p.args, y < 18446744073709551616
  bd : p.args.length * 8 ≤ 140737488351232
/-- One call's answer. -/
def callV (c t f r : Int) (ps : List Pg) (x : Cl) (fs : List Nat) : RV :=
  match ps[x.prog.toNat]? with
  | some p => runV c t f r p.tag p.code x.args fs
  | none => ⟨(0, 0, 0), [], [], [], 0, 1, fs⟩
def cstep (c t f r : Int) (ps : List Pg) (s : List RV × List Nat) (x : Cl) : List RV × List Nat := (s.1 ++ [callV c t f r ps x s.2], (callV c t f r ps x s.2).fs)
def callsN (c t f r : Int) (ps : List Pg) (cs : List Cl) (fs : List Nat) : List RV × List Nat := cs.foldl (cstep c t f r ps) ([], fs)
def ClOk (ps : List Pg) (x : Cl) : Prop := 0 ≤ x.prog ∧ x.prog < (ps.length : Int) ∧ x.args.length ≤ 8
instance (ps : List Pg) (x : Cl) : Decidable (ClOk ps x) := by unfold ClOk; infer_instance
/-- Its error, its answers, the numbers behind it. -/
def callsV (c t f r : Int) (ps : List Pg) (cs : List Cl) (fs : List Nat) : Int × List RV × List Nat :=
  if ¬ (CfgOk c t f r ∧ (fs.length : Int) = c) then (1, [], fs)
  else if 64 < ps.length ∨ 512 < cs.length then (160, [], fs)
  else if ∀ x ∈ cs, ClOk ps x then (0, callsN c t f r ps cs fs)
  else (1, [], fs)
theorem callsV_may {c t f r : Int} {ps : List Pg} {cs : List Cl} {fs : List Nat} (h : ¬ (CfgOk c t f r ∧ (fs.length : Int) = c)) : callsV c t f r ps cs fs = (1, [], fs) := if_pos h
theorem callsV_many {c t f r : Int} {ps : List Pg} {cs : List Cl} {fs : List Nat} (h : CfgOk c t f r ∧ (fs.length : Int) = c) (h2 : 64 < ps.length ∨ 512 < cs.length) : callsV c t f r ps cs fs = (160, [], fs) := by
  unfold callsV; rw [if_neg (not_not_intro h), if_pos h2]
theorem callsV_bad {c t f r : Int} {ps : List Pg} {cs : List Cl} {fs : List Nat} (h : CfgOk c t f r ∧ (fs.length : Int) = c) (h2 : ¬ (64 < ps.length ∨ 512 < cs.length)) (h3 : ¬ ∀ x ∈ cs, ClOk ps x) : callsV c t f r ps cs fs = (1, [], fs) := by
  unfold callsV; rw [if_neg (not_not_intro h), if_neg h2, if_neg h3]
theorem callsV_ok {c t f r : Int} {ps : List Pg} {cs : List Cl} {fs : List Nat} (h : CfgOk c t f r ∧ (fs.length : Int) = c) (h2 : ¬ (64 < ps.length ∨ 512 < cs.length)) (h3 : ∀ x ∈ cs, ClOk ps x) : callsV c t f r ps cs fs = (0, callsN c t f r ps cs fs) := by
  unfold callsV; rw [if_neg (not_not_intro h), if_neg h2, if_pos h3]
theorem callsN_snoc {c t f r : Int} {ps : List Pg} {cs : List Cl} {fs : List Nat} {n : Nat} {x : Cl} (h : cs[n]? = some x) : callsN c t f r ps (cs.take (n + 1)) fs = cstep c t f r ps (callsN c t f r ps (cs.take n) fs) x := by
  unfold callsN
  rw [List.take_add_one, h]
  simp only [Option.toList_some, List.foldl_append, List.foldl_cons, List.foldl_nil]
theorem resA_w (v : RV) (ao : Option Addr) (co : Nat) (ar : Option Addr) (cr : Nat) (aw : Option Addr) (cw : Nat) : resA v.how (ao, v.out.length, co) (ar, v.reads.length, cr) (aw, v.buf.length, cw) (v.used : Int) = #[.int .i64 v.how.1, .int .i64 v.how.2.1, .int .i64 v.how.2.2, .slice ao v.out.length co, .slice ar v.reads.length cr, .slice aw v.buf.length cw, .int .i64 (v.used : Int)] := rfl
/-- A result's slices. -/
structure H6 where
  ao : Option Addr
  co : Nat
  ar : Option Addr
  cr : Nat
  aw : Option Addr
  cw : Nat
def res7 (v : RV) (h : H6) : List Value := [.int .i64 v.how.1, .int .i64 v.how.2.1, .int .i64 v.how.2.2, .slice h.ao v.out.length h.co, .slice h.ar v.reads.length h.cr, .slice h.aw v.buf.length h.cw, .int .i64 (v.used : Int)]
def resC (vh : List (RV × H6)) : List Value := vh.flatMap fun x => res7 x.1 x.2
theorem resC_len (vh : List (RV × H6)) : (resC vh).length = vh.length * 7 := by
  induction vh with
  | nil => rfl
  | cons t ts ih => simp [resC, res7] at ih ⊢; omega
theorem resC_snoc (vh : List (RV × H6)) (x : RV × H6) : resC (vh ++ [x]) = resC vh ++ res7 x.1 x.2 := by simp [resC]
theorem resC_at : ∀ (vh : List (RV × H6)) (i : Nat) (x : RV × H6), vh[i]? = some x → ∀ j u, (res7 x.1 x.2)[j]? = some u → (resC vh)[i * 7 + j]? = some u
  | [], i, x, h, j, u, hu => by simp at h
  | t :: ts, 0, x, h, j, u, hu => by
    simp at h; subst h
    rw [Nat.zero_mul, Nat.zero_add]
    show (res7 t.1 t.2 ++ resC ts)[j]? = some u
    rw [List.getElem?_append_left (List.getElem?_eq_some_iff.1 hu).1]
    exact hu
  | t :: ts, i + 1, x, h, j, u, hu => by
    have := resC_at ts i x (by simpa using h) j u hu
    rw [show (i + 1) * 7 + j = (i * 7 + j) + 7 by omega]
    exact this
theorem resC_one (vh : List (RV × H6)) : ∀ u ∈ resC vh, u.oneCell' = true := by
  intro u hu
  obtain ⟨x, _, hx⟩ := List.mem_flatMap.1 hu
  simp [res7] at hx
  rcases hx with rfl | rfl | rfl | rfl | rfl | rfl | rfl <;> rfl
/-- What of a result may be read. -/
structure ResIn (w : World) (x : RV × H6) : Prop where
  out : Sees w x.2.ao (x.1.out.map fl)
  reads : Sees w x.2.ar (tchV x.1.reads)
  buf : Sees w x.2.aw (tchV x.1.buf)
theorem ResIn.quiet {w w' : World} {x : RV × H6} (h : ResIn w x) (hc : Chg w w' Nothing) : ResIn w' x := ⟨h.out.chg hc, h.reads.chg hc, h.buf.chg hc⟩
theorem Pg.In.quiet {w w' : World} {x : Pg} (h : x.In w) (hc : Chg w w' Nothing) : x.In w' := ⟨h.cap, h.nil, h.sees.chg hc, h.lt, h.bd⟩
theorem Cl.In.quiet {w w' : World} {x : Cl} (h : x.In w) (hc : Chg w w' Nothing) : x.In w' := ⟨h.cap, h.nil, h.sees.chg hc, h.lt, h.bd⟩
/-- Results in memory. -/
structure ResS (w : World) (a : Option Addr) (vh : List (RV × H6)) : Prop where
  sees : Sees w a (resC vh)
  all : ∀ x ∈ vh, ResIn w x
theorem ResS.quiet {w w' : World} {a : Option Addr} {vh : List (RV × H6)} (h : ResS w a vh) (hc : Chg w w' Nothing) : ResS w' a vh := ⟨h.sees.chg hc, fun x hx => (h.all x hx).quiet hc⟩
/-- The input's parts. -/
structure ClsIn (w : World) (pa ca : Option Addr) (ps : List Pg) (cs : List Cl) : Prop where
  pgs : Sees w pa (pgV ps)
  cls : Sees w ca (clV cs)
  pin : ∀ p ∈ ps, p.In w
  cin : ∀ x ∈ cs, x.In w
theorem ClsIn.quiet {w w' : World} {pa ca : Option Addr} {ps : List Pg} {cs : List Cl} (h : ClsIn w pa ca ps cs) (hc : Chg w w' Nothing) : ClsIn w' pa ca ps cs := ⟨h.pgs.chg hc, h.cls.chg hc, fun p hp => (h.pin p hp).quiet hc, fun p hp => (h.cin p hp).quiet hc⟩
theorem run_len {c t f r tag : Int} {code : List Ins} {args fs : List Nat} : (runV c t f r tag code args fs).fs.length = fs.length := by
  unfold runV
  split
  · exact after_len _ _
  · rfl
theorem call_ok {c t f r : Int} {ps : List Pg} {x : Cl} {fs : List Nat} {w : World} (hp : ∀ p ∈ ps, p.In w) (hx : x.In w) (hf : ∀ y ∈ fs, y < 18446744073709551616) : (callV c t f r ps x fs).Ok fs.length := by
  unfold callV
  cases h : ps[x.prog.toNat]? with
  | none => exact ⟨Nat.zero_le _, Nat.zero_le _, Nat.zero_le _, rfl, hf⟩
  | some p => exact runV_ok (hp p (List.mem_of_getElem? h)).lt hx.lt hf
theorem calls_fs {c t f r : Int} {ps : List Pg} {w : World} (hp : ∀ p ∈ ps, p.In w) : ∀ (cs : List Cl) (s : List RV × List Nat), (∀ x ∈ cs, x.In w) → (∀ y ∈ s.2, y < 18446744073709551616) → (∀ v ∈ s.1, ∃ n, v.Ok n) →
    (cs.foldl (cstep c t f r ps) s).2.length = s.2.length ∧ (∀ y ∈ (cs.foldl (cstep c t f r ps) s).2, y < 18446744073709551616) ∧ (∀ v ∈ (cs.foldl (cstep c t f r ps) s).1, ∃ n, v.Ok n)
  | [], s, _, h1, h2 => ⟨rfl, h1, h2⟩
  | x :: cs, s, hx, h1, h2 => by
    have ho := call_ok (c := c) (t := t) (f := f) (r := r) hp (hx x (by simp)) h1
    obtain ⟨a, b, d⟩ := calls_fs (c := c) (t := t) (f := f) (r := r) hp cs (cstep c t f r ps s x) (fun y hy => hx y (by simp [hy])) ho.lt (fun v hv => by
      rcases List.mem_append.1 hv with hv | hv
      · exact h2 v hv
      · obtain rfl := List.mem_singleton.1 hv
        exact ⟨_, ho⟩)
    exact ⟨a.trans ho.fs, b, d⟩
theorem callsV_fs {c t f r : Int} {ps : List Pg} {cs : List Cl} {fs : List Nat} {w : World} (hp : ∀ p ∈ ps, p.In w) (hx : ∀ x ∈ cs, x.In w) (hf : ∀ y ∈ fs, y < 18446744073709551616) :
    (callsV c t f r ps cs fs).2.2.length = fs.length ∧ (∀ y ∈ (callsV c t f r ps cs fs).2.2, y < 18446744073709551616) ∧ (∀ v ∈ (callsV c t f r ps cs fs).2.1, ∃ n, v.Ok n) := by
  unfold callsV
  split
  · exact ⟨rfl, hf, fun v hv => by simp at hv⟩
  · split
    · exact ⟨rfl, hf, fun v hv => by simp at hv⟩
    · split
      · exact calls_fs hp cs ([], fs) hx hf (fun v hv => by simp at hv)
      · exact ⟨rfl, hf, fun v hv => by simp at hv⟩
section
variable {H : Type} {enc : TypeId × Value → H} {w : World} {base : Nat} {spare : Nat → Bool} {held : Bool} {fuel : Nat}
theorem pair_sees {α : Type} (V : α → List Value) (F : List α → List Value) (hF0 : F [] = []) (hF : ∀ l k u, (F l)[k]? = some u → ∃ i j x, k = i * 2 + j ∧ l[i]? = some x ∧ (V x)[j]? = some u) {av : Option Addr} (l : List α)
    (h : ∀ i x, l[i]? = some x → ∃ b o, av = some ⟨b, o, none⟩ ∧ ∀ j v, (V x)[j]? = some v → w.cell? ⟨b, o + i * 2 + j, none⟩ = some v) : Sees w av (F l) := by
  cases l with
  | nil => exact .inl hF0
  | cons t l =>
    obtain ⟨b, o, hav, _⟩ := h 0 t rfl
    refine .inr ⟨b, o, hav, fun k u hu => ?_⟩
    obtain ⟨i, j, x, rfl, e1, e2⟩ := hF _ k u hu
    obtain ⟨b', o', hav', hc⟩ := h i x e1
    rw [hav] at hav'
    cases hav'
    rw [← Nat.add_assoc]
    exact hc j u e2
theorem two_flat {α : Type} (V : α → List Value) (hV : ∀ x, (V x).length = 2) : ∀ (l : List α) (k : Nat) (u : Value), (l.flatMap V)[k]? = some u → ∃ i j x, k = i * 2 + j ∧ l[i]? = some x ∧ (V x)[j]? = some u
  | [], k, u, h => by simp at h
  | t :: l, k, u, h => by
    rw [List.flatMap_cons] at h
    rcases Nat.lt_or_ge k 2 with hk | hk
    · rw [List.getElem?_append_left (by rw [hV]; exact hk)] at h
      exact ⟨0, k, t, by omega, rfl, h⟩
    · rw [List.getElem?_append_right (by rw [hV]; exact hk), hV] at h
      obtain ⟨i, j, x, e, h1, h2⟩ := two_flat V hV l (k - 2) u h
      exact ⟨i + 1, j, x, by omega, by simpa using h1, h2⟩
theorem progs_ofW {av : Option Addr} {len cap : Nat} {x : DataW H × List MemPlace} (h : DataW.trod enc Tryz.prog w base spare held fuel 84 [.slice av len cap] = some x) (hw : FitsW Tryz.prog 84 x.1) :
    ∃ ps : List Pg, ps.length = len ∧ len ≤ cap ∧ Sees w av (pgV ps) ∧ (∀ p ∈ ps, p.In w) ∧ len * 32 ≤ 140737488351232 := by
  obtain ⟨hL, l, h1, h2, h3, h4⟩ := open_typedW (α := Pg) 2 (by kernel_rfl) (by decide) Tryz.underlying84 (fun p => [.int .i64 p.tag, .slice p.av p.code.length p.cap]) (fun p => p.In w) (fun n cs y hlen hy hyw => by
    match cs, hlen with
    | [c0, c1], _ =>
      obtain ⟨tag, av, code, cap, rfl, rfl, g1, g2, g3, g4, g5⟩ := prog_ofW hy hyw
      exact ⟨⟨tag, av, code, cap⟩, rfl, g1, g2, g3, g4, g5⟩) h hw
  rw [show Tryz.prog.bytesOf 26 = 32 by kernel_rfl] at hL
  refine ⟨l, h1, h2, pair_sees (fun p : Pg => [.int .i64 p.tag, .slice p.av p.code.length p.cap]) pgV rfl (two_flat _ (fun _ => rfl)) l (fun i x hx => (h4 i x hx).2), ?_, by simpa [reachBytes] using hL⟩
  intro y hy
  obtain ⟨i, hi⟩ := List.mem_iff_getElem?.1 hy
  exact (h4 i y hi).1
theorem calls_ofW {av : Option Addr} {len cap : Nat} {x : DataW H × List MemPlace} (h : DataW.trod enc Tryz.prog w base spare held fuel 85 [.slice av len cap] = some x) (hw : FitsW Tryz.prog 85 x.1) :
    ∃ cs : List Cl, cs.length = len ∧ len ≤ cap ∧ Sees w av (clV cs) ∧ (∀ p ∈ cs, p.In w) ∧ len * 32 ≤ 140737488351232 := by
  obtain ⟨hL, l, h1, h2, h3, h4⟩ := open_typedW (α := Cl) 2 (by kernel_rfl) (by decide) Tryz.underlying85 (fun p => [.int .i64 p.prog, .slice p.av p.args.length p.cap]) (fun p => p.In w) (fun n cs y hlen hy hyw => by
    match cs, hlen with
    | [c0, c1], _ =>
      obtain ⟨y0, y1, m, hx, _, g0, g1⟩ := trod_struct2' Tryz.underlying140 hy
      rw [hx] at hyw
      have hw1 : FitsW Tryz.prog 27 y1.1 := hyw.field Tryz.underlying140 1 rfl rfl
      simp [show Tryz.prog.cellsOf 3 = 1 by kernel_rfl, show Tryz.prog.cellsOf 27 = 1 by kernel_rfl] at g0 g1
      obtain ⟨n0, e0, _⟩ := DataW.trod_int Tryz.underlying3 g0
      simp at e0
      obtain ⟨av, len, cap, e1⟩ := trod_slice_val Tryz.underlying27 g1
      simp at e1
      subst e1
      obtain ⟨l, rfl, k2, k4, k5, k6⟩ := floats_ofW g1 hw1
      exact ⟨⟨n0, av, l, cap⟩, by rw [e0], k2, slice_nil Tryz.underlying27 g1, k4, k5, k6⟩) h hw
  rw [show Tryz.prog.bytesOf 140 = 32 by kernel_rfl] at hL
  refine ⟨l, h1, h2, pair_sees (fun p : Cl => [.int .i64 p.prog, .slice p.av p.args.length p.cap]) clV rfl (two_flat _ (fun _ => rfl)) l (fun i x hx => (h4 i x hx).2), ?_, by simpa [reachBytes] using hL⟩
  intro y hy
  obtain ⟨i, hi⟩ := List.mem_iff_getElem?.1 hy
  exact (h4 i y hi).1
end
end Go.Proofs.YthgllaomafhdkaaGreat
