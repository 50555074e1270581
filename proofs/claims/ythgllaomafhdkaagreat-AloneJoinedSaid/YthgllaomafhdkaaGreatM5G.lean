/- The document's Run. -/
import Derived.Test.YthgllaomafhdkaaGreatM5F
import Derived.Test.YthgllaomafhdkaaGreatHeld
namespace Go.Proofs.YthgllaomafhdkaaGreat
open Go Go.RowKit
set_option maxRecDepth 100000
set_option maxHeartbeats 1000000
set_option linter.unusedVariables false
set_option linter.unusedSimpArgs false

theorem rrun_results {tmps : Array Value} {W : World} {r0 : Nat} {h1 h2 h3 u ee : Int} {ao ar aw : Option Addr} {no co nr cr nw cw : Nat} {T : TypeId} {fr : Nat × Nat} (h : tmps.getD 8 undef = .pointer (some ⟨r0, 0, none⟩)) (h3' : tmps.getD 9 undef = .int .i64 ee) (hb : W.heap[r0]? = some (.cells #[.int .i64 h1, .int .i64 h2, .int .i64 h3, .slice ao no co, .slice ar nr cr, .slice aw nw cw, .int .i64 u] T fr)) :
    (results Tryz.f41 tmps).run Tryz.prog W = .ok (.tuple #[.agg #[.int .i64 h1, .int .i64 h2, .int .i64 h3, .slice ao no co, .slice ar nr cr, .slice aw nw cw, .int .i64 u], .int .i64 ee]) W := by
  have h' : tmps[8]?.getD undef = .pointer (some ⟨r0, 0, none⟩) := by simpa using h
  have h3'' : tmps[9]?.getD undef = .int .i64 ee := by simpa using h3'
  have hl := run_loadVar_row (P := Tryz.prog) W r0 T 69 #[.int .i64 h1, .int .i64 h2, .int .i64 h3, .slice ao no co, .slice ar nr cr, .slice aw nw cw, .int .i64 u] fr _ hb Tryz.underlying69 rfl (by kernel_rfl)
  have k0 : W.cell? ⟨r0, 0, none⟩ = some (.int .i64 h1) := blk_cell hb 0
  have k1 : W.cell? ⟨r0, 1, none⟩ = some (.int .i64 h2) := blk_cell hb 1
  have k2 : W.cell? ⟨r0, 2, none⟩ = some (.int .i64 h3) := blk_cell hb 2
  have k3 : W.cell? ⟨r0, 3, none⟩ = some (.slice ao no co) := blk_cell hb 3
  have k4 : W.cell? ⟨r0, 4, none⟩ = some (.slice ar nr cr) := blk_cell hb 4
  have k5 : W.cell? ⟨r0, 5, none⟩ = some (.slice aw nw cw) := blk_cell hb 5
  have k6 : W.cell? ⟨r0, 6, none⟩ = some (.int .i64 u) := blk_cell hb 6
  simp [results, Tryz.results41, h', h3'', asAddr, hl, k0, k1, k2, k3, k4, k5, k6, go_sem]
/-- The document's run at a head of its loop. -/
structure RRuns (w0 wr : World) (C : Nat → Prop) (q lb : Nat) (R : Nat → Prop) (s0 : Mc) (fs : List Nat) (k : Nat) (s : Mc) : Prop where
  rm : Rm wr q lb R s
  full : s.Full
  chg : Chg w0 wr Nothing
  new : w0.heap.size ≤ q ∧ w0.heap.size ≤ lb ∧ ∀ k, R k → C k ∨ w0.heap.size ≤ k
  inr : InR s
  eq : runN k s fs = runP s0 fs
  st : (∃ n, Goes s s0 n ∧ n + k = s0.fuel.toNat + 1) ∨ Over s s0
theorem RRuns.next {w0 wr w' : World} {C : Nat → Prop} {q lb : Nat} {R R' : Nat → Prop} {s0 s s' : Mc} {fs : List Nat} {k n : Nat} (h : RRuns w0 wr C q lb R s0 fs k s) (hg : Goes s s0 n) (hn : n + k = s0.fuel.toNat + 1) (hk : ∃ k', k = k' + 1) (e : oneP s fs = s') (hrm : Rm w' q lb R' s') (hfull : s'.Full) (hc : Chg w0 w' Nothing) (hR : ∀ k, R' k → C k ∨ w0.heap.size ≤ k) : RRuns w0 w' C q lb R' s0 fs (k - 1) s' := by
  subst e
  obtain ⟨k', rfl⟩ := hk
  have he : runN (k' + 1 - 1) (oneP s fs) fs = runP s0 fs := by
    rw [Nat.add_sub_cancel, ← h.eq, runN_go (hows hg)]
  rcases one_goes fs hg h.full.fine h.inr with ⟨_, ho⟩ | ⟨hu, hg2, hr2, _⟩
  · exact ⟨hrm, hfull, hc, ⟨h.new.1, h.new.2.1, hR⟩, ho.inr, he, .inr ho⟩
  · exact ⟨hrm, hfull, hc, ⟨h.new.1, h.new.2.1, hR⟩, hr2, he, .inl ⟨n + 1, hg2, by omega⟩⟩
theorem Rs.news {w0 w w' : World} {C : Nat → Prop} {q lb : Nat} {R : Nat → Prop} {s' : Mc} (h : Rs w w' q lb R s') (hR : ∀ k, R k → C k ∨ w0.heap.size ≤ k) (hz : w0.heap.size ≤ w.heap.size) : ∀ k, Grow R w w' k → C k ∨ w0.heap.size ≤ k := fun k hk => by
  rcases hk with hk | hk
  · exact hR k hk
  · exact .inr (by omega)
theorem RRuns.moved {w0 wr w1 : World} {C : Nat → Prop} {q lb : Nat} {R : Nat → Prop} {s0 s : Mc} {fs : List Nat} {k : Nat} (h : RRuns w0 wr C q lb R s0 fs k s) (hc : Chg wr w1 (fun k => k = q ∨ k = lb)) : Chg w0 w1 Nothing := h.chg.trans hc (fun k hk e => by have := h.new; omega)
theorem kind_cell {s s0 : Mc} {n : Nat} {c : Int} {x : Nat} {b : Bool} (h : Goes s s0 n) (hf : s.Fine) (hk : (stepP s).2 = ⟨1, c, x, b⟩) : 0 ≤ c ∧ c < s.cells := by
  rcases h.class hf with ⟨u, hu, he⟩ | ⟨hu, hw⟩
  · rw [he.ask] at hk; cases hk
  · have := hw.cell (by rw [hk]; show (1 : Int) ≠ 0; decide)
    rw [hk] at this
    exact this
theorem drew_blk {X : World} {b : Nat} {o : Option Obj} (h : X.heap[b]? = o) : X.drew.heap[b]? = o := h
/-- What may be read, and lies in such a block. -/
def SeesB (w : World) (B : Nat → Prop) (a : Option Addr) (xs : List Value) : Prop := xs = [] ∨ ∃ b o, a = some ⟨b, o, none⟩ ∧ B b ∧ ∀ j u, xs[j]? = some u → w.cell? ⟨b, o + j, none⟩ = some u
theorem SeesB.sees {w : World} {B : Nat → Prop} {a : Option Addr} {xs : List Value} (h : SeesB w B a xs) : Sees w a xs := by
  rcases h with h | ⟨b, o, h1, _, h2⟩
  · exact .inl h
  · exact .inr ⟨b, o, h1, h2⟩
theorem SeesB.chg {w w' : World} {B B' F : Nat → Prop} {a : Option Addr} {xs : List Value} (h : SeesB w B a xs) (hc : Chg w w' F) (hB : ∀ b, B b → b < w.heap.size → B' b ∧ ¬ F b) : SeesB w' B' a xs := by
  rcases h with h | ⟨b, o, h1, h2, h3⟩
  · exact .inl h
  · cases xs with
    | nil => exact .inl rfl
    | cons u xs =>
      have hb := hB b h2 (cell_lt (h3 0 u rfl))
      exact .inr ⟨b, o, h1, hb.1, fun j u hu => hc.cell (h3 j u hu) hb.2⟩
theorem rrow_sees {w w1 w2 : World} {R : Nat → Prop} {a : Option Addr} {n c size rb sg : Nat} {xs : List Value} (hc : Chg w w1 (fun k => k = sg)) (hc2 : Chg w1 w2 (fun k => k = rb)) (h : RRow w R (.slice a n c) n size xs) {B : Nat → Prop} (hR : ∀ k, R k → B k ∧ k ≠ sg ∧ k ≠ rb) : SeesB w2 B a xs := by
  obtain ⟨a', c', hv, h1, h2, h3⟩ := h
  injection hv with e1 e2 e3
  subst e1
  rcases h3 with ⟨h4, _⟩ | ⟨b, o, rfl, hb, hcl⟩
  · exact .inl (List.eq_nil_of_length_eq_zero (by rw [h2, h4, Nat.zero_mul]))
  · exact .inr ⟨b, o, rfl, (hR b hb).1, fun j u hu => hc2.cell (hc.cell (hcl j u hu) (hR b hb).2.1) (hR b hb).2.2⟩
theorem setL_own {w : World} {base g n : Nat} {cs : Nat} {gs : List Nat} {j x : Nat} (h : w.ownsRow base 33 1 (.slice (some ⟨g, 0, none⟩) n cs) n (gs.map fl)) (hl : gs.length = n) (hj : j < n) (hx : fixB x = x) : (w.setCell ⟨g, j, none⟩ (fl x)).ownsRow base 33 1 (.slice (some ⟨g, 0, none⟩) n cs) n ((setL gs (j : Int) x).map fl) := by
  have e : (setL gs (j : Int) x).map fl = (gs.map fl).set j (fl x) := by
    unfold setL hasB
    rw [if_pos (by simp; omega), Int.toNat_natCast, hx, List.map_set]
  rw [e]
  exact (h.stored j (fl x)).1
theorem rrun_bad (c t f r tag : Int) (ac : Option Addr) (ln cc : Nat) (aa : Option Addr) (n na : Nat) (sa : Option Addr) (sn cs : Nat) (w : World) (hno : ¬ RunOk c t f r n sn) :
    Calls Tryz.prog 41 #[.agg #[.int .i64 c, .int .i64 t, .int .i64 f, .int .i64 r], .agg #[.int .i64 tag, .slice ac ln cc], .slice aa n na, .slice sa sn cs] w fun e w' => e = .returned (.tuple #[.agg (resA (0, 0, 0) (none, 0, 0) (none, 0, 0) (none, 0, 0) 0), .int .i64 1]) ∧ Chg w w' Nothing := by
  by_cases hc : CfgOk c t f r
  · have hn : ¬ (n ≤ 8 ∧ (sn : Int) = c) := fun hn => hno ⟨hc, hn.2, hn.1⟩
    have HC := Lib.hid hc
    have HN := Lib.hid hn
    clear hno hc hn
    go_enter Tryz.func41, Tryz.ntmps41
    go_wp2_with fail
    with_reducible refine (rplace_good c t f r _ HC.out).mono ?_
    rintro e w1 ⟨⟨p0, p1, p2, p3, p4, p5, rfl⟩, hc1⟩
    by_cases h8 : n ≤ 8
    · have b1 : decide ((8 : Int) < (n : Int)) = false := decide_eq_false (by omega)
      have b2 : ((sn : Int) != c) = true := by
        rw [bne_iff_ne]; exact fun e => HN.out ⟨h8, e⟩
      have b3 : ((sn : Int) == c) = false := by
        rw [beq_eq_false_iff_ne]; exact fun e => HN.out ⟨h8, e⟩
      clear h8
      have e2 : w1.heap[w.heap.size + 1 + 1]? = some (.cells zeroR 69 (0, 0)) := (hc1.block _ (by simp) id).trans three_blk
      have E2 := Lib.hid e2
      have x0 : w1.cell? ⟨w.heap.size + 1 + 1, 0, none⟩ = some (.int .i64 0) := blk_cell e2 0
      have x1 : w1.cell? ⟨w.heap.size + 1 + 1, 1, none⟩ = some (.int .i64 0) := blk_cell e2 1
      have x2 : w1.cell? ⟨w.heap.size + 1 + 1, 2, none⟩ = some (.int .i64 0) := blk_cell e2 2
      have x3 : w1.cell? ⟨w.heap.size + 1 + 1, 3, none⟩ = some (.slice none 0 0) := blk_cell e2 3
      have x4 : w1.cell? ⟨w.heap.size + 1 + 1, 4, none⟩ = some (.slice none 0 0) := blk_cell e2 4
      have x5 : w1.cell? ⟨w.heap.size + 1 + 1, 5, none⟩ = some (.slice none 0 0) := blk_cell e2 5
      have x6 : w1.cell? ⟨w.heap.size + 1 + 1, 6, none⟩ = some (.int .i64 0) := blk_cell e2 6
      have f0 := blk_free e2 0
      have f1 := blk_free e2 1
      have f2 := blk_free e2 2
      have f3 := blk_free e2 3
      have f4 := blk_free e2 4
      have f5 := blk_free e2 5
      have f6 := blk_free e2 6
      have y0 : w1.cell? ⟨w.heap.size, 0, none⟩ = some (.int .i64 c) := hc1.cell (blk_cell (blk_alloc (blk_alloc (heap_alloc_new w (.cells #[.int .i64 c, .int .i64 t, .int .i64 f, .int .i64 r] 23)) _) _) 0) id
      have y1 : w.heap.size < w1.heap.size := by have := hc1.size; simp at this; omega
      have y2 : w.heap.size + 1 + 1 < w1.heap.size := blk_lt e2
      have y3 : ¬ w.heap.size + 1 + 1 = w1.heap.size := by omega
      have y4 : ¬ w.heap.size = w1.heap.size := by omega
      have C1 := Lib.hid (show Chg w w1 Nothing from ((((Chg.refl w Nothing).alloc _).alloc _).alloc _).trans hc1 (fun _ _ h => h))
      clear e2 hc1
      go_wp2_with fail
      exact bodyPost_ret (rrun_results rfl rfl (blk_alloc (seven_set E2.out rfl) _)) rfl ⟨rfl, (seven_chg C1.out (.inl (by omega))).alloc _⟩
    · have b1 : decide ((8 : Int) < (n : Int)) = true := decide_eq_true (by omega)
      clear h8
      have e2 : w1.heap[w.heap.size + 1 + 1]? = some (.cells zeroR 69 (0, 0)) := (hc1.block _ (by simp) id).trans three_blk
      have E2 := Lib.hid e2
      have x0 : w1.cell? ⟨w.heap.size + 1 + 1, 0, none⟩ = some (.int .i64 0) := blk_cell e2 0
      have x1 : w1.cell? ⟨w.heap.size + 1 + 1, 1, none⟩ = some (.int .i64 0) := blk_cell e2 1
      have x2 : w1.cell? ⟨w.heap.size + 1 + 1, 2, none⟩ = some (.int .i64 0) := blk_cell e2 2
      have x3 : w1.cell? ⟨w.heap.size + 1 + 1, 3, none⟩ = some (.slice none 0 0) := blk_cell e2 3
      have x4 : w1.cell? ⟨w.heap.size + 1 + 1, 4, none⟩ = some (.slice none 0 0) := blk_cell e2 4
      have x5 : w1.cell? ⟨w.heap.size + 1 + 1, 5, none⟩ = some (.slice none 0 0) := blk_cell e2 5
      have x6 : w1.cell? ⟨w.heap.size + 1 + 1, 6, none⟩ = some (.int .i64 0) := blk_cell e2 6
      have f0 := blk_free e2 0
      have f1 := blk_free e2 1
      have f2 := blk_free e2 2
      have f3 := blk_free e2 3
      have f4 := blk_free e2 4
      have f5 := blk_free e2 5
      have f6 := blk_free e2 6
      have y0 : w1.cell? ⟨w.heap.size, 0, none⟩ = some (.int .i64 c) := hc1.cell (blk_cell (blk_alloc (blk_alloc (heap_alloc_new w (.cells #[.int .i64 c, .int .i64 t, .int .i64 f, .int .i64 r] 23)) _) _) 0) id
      have y1 : w.heap.size < w1.heap.size := by have := hc1.size; simp at this; omega
      have y2 : w.heap.size + 1 + 1 < w1.heap.size := blk_lt e2
      have y3 : ¬ w.heap.size + 1 + 1 = w1.heap.size := by omega
      have y4 : ¬ w.heap.size = w1.heap.size := by omega
      have C1 := Lib.hid (show Chg w w1 Nothing from ((((Chg.refl w Nothing).alloc _).alloc _).alloc _).trans hc1 (fun _ _ h => h))
      clear e2 hc1
      go_wp2_with fail
      exact bodyPost_ret (rrun_results rfl rfl (blk_alloc (seven_set E2.out rfl) _)) rfl ⟨rfl, (seven_chg C1.out (.inl (by omega))).alloc _⟩
  · have HC := Lib.hid hc
    clear hno hc
    go_enter Tryz.func41, Tryz.ntmps41
    go_wp2_with fail
    with_reducible refine (rplace_bad c t f r _ HC.out).mono ?_
    rintro e w1 ⟨⟨p0, p1, p2, p3, p4, p5, rfl⟩, hc1⟩
    have e2 : w1.heap[w.heap.size + 1 + 1]? = some (.cells zeroR 69 (0, 0)) := (hc1.block _ (by simp) id).trans three_blk
    have E2 := Lib.hid e2
    have x0 : w1.cell? ⟨w.heap.size + 1 + 1, 0, none⟩ = some (.int .i64 0) := blk_cell e2 0
    have x1 : w1.cell? ⟨w.heap.size + 1 + 1, 1, none⟩ = some (.int .i64 0) := blk_cell e2 1
    have x2 : w1.cell? ⟨w.heap.size + 1 + 1, 2, none⟩ = some (.int .i64 0) := blk_cell e2 2
    have x3 : w1.cell? ⟨w.heap.size + 1 + 1, 3, none⟩ = some (.slice none 0 0) := blk_cell e2 3
    have x4 : w1.cell? ⟨w.heap.size + 1 + 1, 4, none⟩ = some (.slice none 0 0) := blk_cell e2 4
    have x5 : w1.cell? ⟨w.heap.size + 1 + 1, 5, none⟩ = some (.slice none 0 0) := blk_cell e2 5
    have x6 : w1.cell? ⟨w.heap.size + 1 + 1, 6, none⟩ = some (.int .i64 0) := blk_cell e2 6
    have f0 := blk_free e2 0
    have f1 := blk_free e2 1
    have f2 := blk_free e2 2
    have f3 := blk_free e2 3
    have f4 := blk_free e2 4
    have f5 := blk_free e2 5
    have f6 := blk_free e2 6
    have y0 : w1.cell? ⟨w.heap.size, 0, none⟩ = some (.int .i64 c) := hc1.cell (blk_cell (blk_alloc (blk_alloc (heap_alloc_new w (.cells #[.int .i64 c, .int .i64 t, .int .i64 f, .int .i64 r] 23)) _) _) 0) id
    have y1 : w.heap.size < w1.heap.size := by have := hc1.size; simp at this; omega
    have y2 : w.heap.size + 1 + 1 < w1.heap.size := blk_lt e2
    have y3 : ¬ w.heap.size + 1 + 1 = w1.heap.size := by omega
    have y4 : ¬ w.heap.size = w1.heap.size := by omega
    have C1 := Lib.hid (show Chg w w1 Nothing from ((((Chg.refl w Nothing).alloc _).alloc _).alloc _).trans hc1 (fun _ _ h => h))
    clear e2 hc1
    go_wp2_with fail
    exact bodyPost_ret (rrun_results rfl rfl (blk_alloc (seven_set E2.out rfl) _)) rfl ⟨rfl, (seven_chg C1.out (.inl (by omega))).alloc _⟩
set_option maxHeartbeats 40000000 in
theorem rrun_good (c t f r tag : Int) (ac : Option Addr) (cc : Nat) (code : List Ins) (aa : Option Addr) (na : Nat) (args : List Nat) (C : Nat → Prop) (sg cs base : Nat) (fs : List Nat) (w : World) (hok : RunOk c t f r args.length fs.length)
    (hC : ∀ k, C k → k < w.heap.size ∧ k ≠ sg) (hcode : RRow w C (.slice ac code.length cc) code.length 3 (insV code)) (ha : Sees w aa (args.map fl)) (hx : ∀ i ∈ code, i.2.2 < 18446744073709551616) (hax : ∀ y ∈ args, y < 18446744073709551616) (hfx : ∀ y ∈ fs, y < 18446744073709551616)
    (hrow : w.ownsRow base 33 1 (.slice (some ⟨sg, 0, none⟩) fs.length cs) fs.length (fs.map fl)) :
    Calls Tryz.prog 41 #[.agg #[.int .i64 c, .int .i64 t, .int .i64 f, .int .i64 r], .agg #[.int .i64 tag, .slice ac code.length cc], .slice aa args.length na, .slice (some ⟨sg, 0, none⟩) fs.length cs] w fun e w' => ∃ s ao co ar cr aw cw, s = runP (mc0 c t f r tag code args) fs ∧
      e = .returned (.tuple #[.agg (resA s.how (ao, s.out.length, co) (ar, s.reads.length, cr) (aw, s.buf.length, cw) (s.used : Int)), .int .i64 0]) ∧
      SeesB w' (fun b => (C b ∨ w.heap.size ≤ b) ∧ b ≠ sg) ao (s.out.map fl) ∧ SeesB w' (fun b => (C b ∨ w.heap.size ≤ b) ∧ b ≠ sg) ar (tchV s.reads) ∧ SeesB w' (fun b => (C b ∨ w.heap.size ≤ b) ∧ b ≠ sg) aw (tchV s.buf) ∧
      w'.ownsRow base 33 1 (.slice (some ⟨sg, 0, none⟩) fs.length cs) fs.length ((afterL s fs).map fl) ∧ Chg w w' (fun k => k = sg) := by
  obtain ⟨hcfg, hcl, hal⟩ := hok
  have b1 : decide ((8 : Int) < (args.length : Int)) = false := decide_eq_false (by omega)
  have b2 : ((fs.length : Int) != c) = false := by rw [hcl]; simp
  have b3 : ((fs.length : Int) == c) = true := by rw [hcl]; simp
  have HCF := Lib.hid hcfg
  have HCL := Lib.hid hcl
  have HAL := Lib.hid hal
  have HC := Lib.hid hC
  have HCO := Lib.hid hcode
  have HA := Lib.hid ha
  have HX := Lib.hid hx
  have HAX := Lib.hid hax
  have HFX := Lib.hid hfx
  have HR := Lib.hid hrow
  have HSG := Lib.hid (hrow.lt sg rfl)
  clear hcfg hcl hal hC hcode ha hx hax hfx hrow
  go_enter Tryz.func41, Tryz.ntmps41
  go_wp2_with fail
  with_reducible refine (rplace_good c t f r _ HCF.out).mono ?_
  rintro e w1 ⟨⟨p0, p1, p2, p3, p4, p5, rfl⟩, hc1⟩
  have C1 := Lib.hid (hc1.alloc (.cells #[.int .i64 p0, .int .i64 p1, .int .i64 p2, .int .i64 p3, .int .i64 p4, .int .i64 p5] 94))
  obtain ⟨i0, i1, i2, i3, j0, j1, z0, z1⟩ := law_cells (run_boxes hc1).1
  have z2 := (run_boxes hc1).2.2
  have z3 : ¬ w.heap.size = w1.heap.size := by omega
  have z4 : ¬ w.heap.size + 1 = w1.heap.size := by omega
  clear hc1
  go_wp2_with fail
  have OW := Lib.hid (law_old (run_boxes C1.out).1)
  refine (rnew_good c t f r tag ac cc code aa na args C _ HCF.out HAL.out (fun k hk => Nat.lt_of_lt_of_le (HC.out k hk).1 OW.out.size) (HCO.out.move (fun b hb => ⟨hb, OW.out.block b (HC.out b hb).1 id⟩)) (HA.out.chg OW.out)).mono ?_
  rintro e w2 ⟨q, lb, rfl, hrm, hq, hlb, hc2⟩
  have R2 := Lib.hid (show RRuns (((w.alloc (cfgBx c t f r)).alloc (prgBx tag ac code.length cc)).alloc resBx) w2 C q lb _ (mc0 c t f r tag code args) fs (f.toNat + 1) (mc0 c t f r tag code args) from ⟨hrm, mc0_full HCF.out HX.out HAX.out, C1.out.trans hc2 (fun _ _ h => h), ⟨Nat.le_trans C1.out.size hq, Nat.le_trans C1.out.size hlb, fun k hk => hk.imp id (fun h => Nat.le_trans C1.out.size h.1)⟩, by intro p hp; exact absurd hp (by show ¬ p ∈ []; simp), rfl, .inl ⟨0, Goes.begin .., by show 0 + (f.toNat + 1) = f.toNat + 1; omega⟩⟩)
  have QN := Lib.hid (And.intro hq hlb)
  clear i0 i1 i2 i3 j0 j1 z0 z1 z2 z3 z4 hrm hq hlb hc2 C1 OW
  go_wp2_with fail
  go_loopg [] (f.toNat + 1) (fun k wr => ∃ s R, RRuns (((w.alloc (cfgBx c t f r)).alloc (prgBx tag ac code.length cc)).alloc resBx) wr C q lb R (mc0 c t f r tag code args) fs k s)
  case atStart => exact ⟨_, _, R2.out⟩
  case round =>
    obtain ⟨s, R, hR⟩ := hrel
    have RN := Lib.hid hR
    clear hR R2
    obtain ⟨-, -, -, -, -, -, c14⟩ := RN.out.rm.cellAt
    have hqw := RN.out.rm.qlt.1
    rcases RN.out.st with ⟨n, hg, hn⟩ | hov
    · have h0 := hows hg
      rw [h0] at c14
      have hk : ∃ k', gk = k' + 1 := ⟨f.toNat - n, by have := RN.out.full.fine.ok.used; rw [hg.used, hg.facts.2.2.1] at this; have h1 : (n : Int) ≤ f := this; have h2 : n + gk = f.toNat + 1 := hn; omega⟩
      have HG := Lib.hid hg
      have HN := Lib.hid (show n + gk = f.toNat + 1 from hn)
      have HK := Lib.hid hk
      clear h0 hk hg hn
      go_wp2_with fail
      refine (rstep_any q lb R s _ RN.out.rm RN.out.full.fine RN.out.full.rok).mono ?_
      rintro e w3 ⟨he, hS⟩
      obtain ⟨ak, acl, ax, afi, hsa⟩ : ∃ ak acl ax afi, (stepP s).2 = ⟨ak, acl, ax, afi⟩ := ⟨_, _, _, _, rfl⟩
      rw [hsa] at he
      obtain rfl : e = .returned (.agg #[.int .i64 ak, .int .i64 acl, fl ax, .bool afi]) := he
      have HSA := Lib.hid hsa
      have S3 := Lib.hid hS
      have C3 := Lib.hid (RN.out.moved hS.chg)
      have FS := Lib.hid (Full.step RN.out.full)
      have hz3 := hS.chg.size
      clear hS hsa c14
      by_cases h1 : ak = 1
      · subst h1
        have hcl2 := kind_cell HG.out RN.out.full.fine HSA.out
        rw [HG.out.facts.1] at hcl2
        have hcl3 : acl < c := hcl2.2
        obtain ⟨j, rfl⟩ := Int.eq_ofNat_of_zero_le hcl2.1
        have hjl : j < fs.length := by have := HCL.out; omega
        have hji : (j : Int) < (fs.length : Int) := by omega
        have hsgw : sg < w3.heap.size := by have := (law_old (run_boxes C3.out).1).size; have := HSG.out.2; omega
        have hsgn : ¬ sg = w3.heap.size := by omega
        have x0 : w3.cell? ⟨sg, j, none⟩ = some (fl (getV fs (j : Int))) := by
          have h2 := (row_chg HR.out (law_old (run_boxes C3.out).1) (fun _ _ h => h)).cells (g := sg) rfl j (fl (getV fs (j : Int))) (by
            have : getV fs (j : Int) = fs[j] := by
              unfold getV hasB
              rw [if_pos (by simp; omega), Int.toNat_natCast, List.getD_eq_getElem?_getD, List.getElem?_eq_getElem hjl]
              rfl
            rw [List.getElem?_map, List.getElem?_eq_getElem hjl, this]
            rfl)
          rwa [Addr.add_lit, Nat.zero_add] at h2
        clear hcl2 hcl3
        go_wp2_with fail
        refine (rgive_any q lb _ _ _ (getV fs (j : Int)) (S3.out.rm.quiet ((Chg.refl _ _).alloc _)) FS.out.fine FS.out.rok).mono ?_
        rintro e w4 ⟨rfl, hS4⟩
        have S4 := Lib.hid hS4
        clear hS4
        go_wp2_with fail
        go_roundg (gk - 1)
        case measure => obtain ⟨k', e⟩ := HK.out; omega
        case rel =>
          have hz4 := S4.out.chg.size
          refine ⟨_, _, RN.out.next HG.out HN.out HK.out (by unfold oneP; rw [HSA.out]; exact if_pos rfl) S4.out.rm (Full.give FS.out (getV_lt HFX.out _)) ((C3.out.alloc _).trans S4.out.chg (fun k hk e => by have := RN.out.new; have := C3.out.size; omega)) ?_⟩
          refine S4.out.news (S3.out.news RN.out.new.2.2 RN.out.chg.size) ?_
          exact Nat.le_trans C3.out.size (by simp)
      · have d1 : (ak == 1) = false := beq_eq_false_iff_ne.2 h1
        go_wp2_with fail
        go_roundg (gk - 1)
        case measure => obtain ⟨k', e⟩ := HK.out; omega
        case rel =>
          exact ⟨_, _, RN.out.next HG.out HN.out HK.out (by unfold oneP; rw [HSA.out]; exact if_neg h1) (S3.out.rm.quiet ((Chg.refl _ _).alloc _)) FS.out (C3.out.alloc _) (S3.out.news RN.out.new.2.2 RN.out.chg.size)⟩
    · have hne := overs hov
      have q0 : (s.how.1 == 0) = false := beq_eq_false_iff_ne.2 hne
      have HS' := Lib.hid (show s = runP (mc0 c t f r tag code args) fs by rw [← RN.out.eq, runN_over hne])
      have HO := Lib.hid hov
      have hho := hov.how
      have CX := Lib.hid (law_old (run_boxes RN.out.chg).1)
      have RW := Lib.hid (row_chg HR.out CX.out (fun _ _ h => h))
      have E2 := Lib.hid (run_boxes RN.out.chg).2.1
      have hrb := (run_boxes RN.out.chg).2.2
      obtain ⟨vc, vA, vS, vC, vT, vR, vB, cl, hM⟩ := RN.out.rm
      obtain ⟨aT, cT, rfl, -, hsT⟩ := hM.out.sees
      obtain ⟨aR, cR, rfl, -, hsR⟩ := hM.reads.sees
      obtain ⟨aB, cB, rfl, -, hsB⟩ := hM.buf.sees
      have HM := Lib.hid hM
      have RT := Lib.hid hM.out
      have RRD := Lib.hid hM.reads
      have RB := Lib.hid hM.buf
      have SB := Lib.hid hsB
      have k19 : wr.cell? ⟨q, 19, none⟩ = some (.slice aB s.buf.length cB) := blk_cell hM.blk 19
      have HNW := Lib.hid (show ∀ k, R k → k ≠ sg ∧ k ≠ w.heap.size + 1 + 1 from fun k hk => by
        rcases RN.out.new.2.2 k hk with h | h
        · have := HC.out k h; exact ⟨this.2, by omega⟩
        · simp at h; have := HSG.out.2; omega)
      have HNC := Lib.hid (show ∀ k, R k → C k ∨ w.heap.size ≤ k from fun k hk => (RN.out.new.2.2 k hk).imp id (fun h => by simp at h; omega))
      have hqsg : q ≠ sg ∧ q ≠ w.heap.size + 1 + 1 := by have := RN.out.new.1; simp at this; have := HSG.out.2; omega
      have hsgw : sg < wr.heap.size := by have := CX.out.size; have := HSG.out.2; omega
      clear hov hne hM hsT hsR hsB
      obtain ⟨wA, rfl⟩ : ∃ wA, wA = wr := ⟨_, rfl⟩
      by_cases hcm : s.how.1 = 1
      · have q1 : (s.how.1 == 1) = true := by rw [hcm]; rfl
        have AF := Lib.hid (show afterL s fs = putL fs s.buf from after_put hcm HO.out.inr (by rw [cells_fixd HO.out.fixd]; exact HCL.out.symm))
        clear hcm
        have IR := Lib.hid HO.out.inr
        have ND := Lib.hid RN.out.full.fine.ok.buf
        have LB := Lib.hid RN.out.full.rok.buf
        have CE0 := Lib.hid (cells_fixd HO.out.fixd)
        go_wp2_with fail
        go_loopg [69] s.buf.length (fun k i wr => ∃ n : Nat, n + k = s.buf.length ∧ i = .int .i64 ((n : Nat) : Int) ∧ wr.ownsRow base 33 1 (.slice (some ⟨sg, 0, none⟩) fs.length cs) fs.length ((putL fs (s.buf.take n)).map fl) ∧ Chg wA wr (fun k => k = sg))
        case atStart => exact ⟨0, by simp, rfl, RW.out, Chg.refl _ _⟩
        case round =>
          obtain ⟨n, hn, rfl, hrw, hc⟩ := hrel
          have RX := Lib.hid hrw
          have XC := Lib.hid hc
          have hbl := LB.out
          clear hrw hc
          by_cases hlt : n < s.buf.length
          · have hd : decide (n < s.buf.length) = true := by simpa using hlt
            obtain ⟨ci, x, hx⟩ : ∃ ci x, s.buf[n]? = some (ci, x) := ⟨_, _, List.getElem?_eq_getElem hlt⟩
            have hin := IR.out _ (List.mem_of_getElem? hx)
            rw [CE0.out] at hin
            have hin2 : ci < c := hin.2
            have hin1 : 0 ≤ ci := hin.1
            obtain ⟨j, rfl⟩ := Int.eq_ofNat_of_zero_le hin1
            have hjl : j < fs.length := by have := HCL.out; omega
            have hji : (j : Int) < (fs.length : Int) := by omega
            obtain ⟨g1, g2⟩ := tchV_at s.buf n _ hx
            have hbk : ∃ b o, aB = some ⟨b, o, none⟩ ∧ b ≠ sg ∧ wA.cell? ⟨b, o + n * 2, none⟩ = some (.int .i64 (j : Int)) ∧ wA.cell? ⟨b, o + (n * 2 + 1), none⟩ = some (fl x) := by
              obtain ⟨a', c', hv, _, _, h3⟩ := RB.out
              injection hv with e1 e2 e3
              rcases h3 with ⟨h4, _⟩ | ⟨b, o, rfl, hb, hcl⟩
              · omega
              · exact ⟨b, o, e1, (HNW.out b hb).1, hcl _ _ g1, hcl _ _ g2⟩
            obtain ⟨b, o, hab, hbs, y1, y2⟩ := hbk
            have x1 := XC.out.cell y1 hbs
            have x2 := XC.out.cell y2 hbs
            rw [← Nat.add_assoc] at x2
            have hlg : (putL fs (s.buf.take n)).length = fs.length := putL_len _ _
            obtain ⟨u3, hu3⟩ : ∃ u, ((putL fs (s.buf.take n)).map fl)[j]? = some u := ⟨_, by rw [List.getElem?_map, List.getElem?_eq_getElem (by omega)]; rfl⟩
            have x3 := RX.out.cells (g := sg) rfl j _ hu3
            rw [Addr.add_lit, Nat.zero_add] at x3
            have f3 : wr.frozen? ⟨sg, j, none⟩ = false := RX.out.frozenAt _
            have hzr : sg < wr.heap.size := (RX.out.lt sg rfl).2
            have hzn : ¬ sg = wr.heap.size := by omega
            have hfx : fixB x = x := (ND.out _ (List.mem_of_getElem? hx)).1
            have N1 := Lib.hid (show ((wr.setCell ⟨sg, j, none⟩ (fl x)).alloc (.cells #[.int .i64 (j : Int), fl x] 77)).ownsRow base 33 1 (.slice (some ⟨sg, 0, none⟩) fs.length cs) fs.length ((putL fs (s.buf.take (n + 1))).map fl) from by
              rw [List.take_add_one, hx]
              show ((wr.setCell ⟨sg, j, none⟩ (fl x)).alloc _).ownsRow base 33 1 _ fs.length ((putL fs (s.buf.take n ++ [((j : Int), x)])).map fl)
              rw [putL_snoc]
              exact row_chg (setL_own RX.out hlg hjl hfx) ((Chg.refl _ Nothing).alloc _) (fun _ _ h => h))
            have N2 := Lib.hid ((XC.out.setCell (a := ⟨sg, j, none⟩) (.inr rfl) (fl x)).alloc (.cells #[.int .i64 (j : Int), fl x] 77))
            clear hx hin hin1 hin2 g1 g2 y1 y2 hlg hfx hu3
            subst hab
            go_wp2_with fail
            go_roundg (gk - 1)
            case measure => omega
            case rel => exact ⟨n + 1, by omega, by go_num, N1.out, N2.out⟩
          · have hd : decide (n < s.buf.length) = false := by simpa using hlt
            obtain rfl : n = s.buf.length := by omega
            have RX2 := Lib.hid (show wr.ownsRow base 33 1 (.slice (some ⟨sg, 0, none⟩) fs.length cs) fs.length ((afterL s fs).map fl) from by have := RX.out; rw [List.take_length] at this; rw [AF.out]; exact this)
            clear hn hlt hbl
            go_wp2_with fail
            have e9 : wr.heap[w.heap.size + 1 + 1]? = some resBx := (XC.out.block _ hrb (by have := HSG.out.2; omega)).trans E2.out
            have x0 : wr.cell? ⟨w.heap.size + 1 + 1, 0, none⟩ = some (.int .i64 0) := blk_cell e9 0
            have x1 : wr.cell? ⟨w.heap.size + 1 + 1, 1, none⟩ = some (.int .i64 0) := blk_cell e9 1
            have x2 : wr.cell? ⟨w.heap.size + 1 + 1, 2, none⟩ = some (.int .i64 0) := blk_cell e9 2
            have x3 : wr.cell? ⟨w.heap.size + 1 + 1, 3, none⟩ = some (.slice none 0 0) := blk_cell e9 3
            have x4 : wr.cell? ⟨w.heap.size + 1 + 1, 4, none⟩ = some (.slice none 0 0) := blk_cell e9 4
            have x5 : wr.cell? ⟨w.heap.size + 1 + 1, 5, none⟩ = some (.slice none 0 0) := blk_cell e9 5
            have x6 : wr.cell? ⟨w.heap.size + 1 + 1, 6, none⟩ = some (.int .i64 0) := blk_cell e9 6
            have f0 := blk_free e9 0
            have f1 := blk_free e9 1
            have f2 := blk_free e9 2
            have f3 := blk_free e9 3
            have f4 := blk_free e9 4
            have f5 := blk_free e9 5
            have f6 := blk_free e9 6
            have E9 := Lib.hid e9
            have z9 := blk_lt e9
            have MB := Lib.hid ((XC.out.block q hqw hqsg.1).trans HM.out.blk)
            clear e9
            have CE := Lib.hid ((seven_chg (v0 := .int .i64 s.how.1) (v1 := .int .i64 s.how.2.1) (v2 := .int .i64 s.how.2.2) (v3 := .slice aT s.out.length cT) (v4 := .slice aR s.reads.length cR) (v5 := .slice aB s.buf.length cB) (v6 := .int .i64 (s.used : Int)) (Chg.refl wr (fun k => k = w.heap.size + 1 + 1)) (.inr rfl)).drew)
            have M14 := Lib.hid (show wr.cell? ⟨q, 14, none⟩ = some (.int .i64 s.how.1) from blk_cell MB.out 14)
            have M15 := Lib.hid (show wr.cell? ⟨q, 15, none⟩ = some (.int .i64 s.how.2.1) from blk_cell MB.out 15)
            have M16 := Lib.hid (show wr.cell? ⟨q, 16, none⟩ = some (.int .i64 s.how.2.2) from blk_cell MB.out 16)
            have M17 := Lib.hid (show wr.cell? ⟨q, 17, none⟩ = some (.slice aT s.out.length cT) from blk_cell MB.out 17)
            have M18 := Lib.hid (show wr.cell? ⟨q, 18, none⟩ = some (.slice aR s.reads.length cR) from blk_cell MB.out 18)
            have M19 := Lib.hid (show wr.cell? ⟨q, 19, none⟩ = some (.slice aB s.buf.length cB) from blk_cell MB.out 19)
            have M12 := Lib.hid (show wr.cell? ⟨q, 12, none⟩ = some (.int .i64 (s.used : Int)) from blk_cell MB.out 12)
            refine beginL (fun w' => w'.cell? ⟨q, 14, none⟩ = some (.int .i64 s.how.1) ∧ w'.cell? ⟨q, 15, none⟩ = some (.int .i64 s.how.2.1) ∧ w'.cell? ⟨q, 16, none⟩ = some (.int .i64 s.how.2.2) ∧ w'.cell? ⟨q, 17, none⟩ = some (.slice aT s.out.length cT) ∧ w'.cell? ⟨q, 18, none⟩ = some (.slice aR s.reads.length cR) ∧ w'.cell? ⟨q, 19, none⟩ = some (.slice aB s.buf.length cB) ∧ w'.cell? ⟨q, 12, none⟩ = some (.int .i64 (s.used : Int))) 23 (by kernel_rfl) ⟨M14.out, M15.out, M16.out, M17.out, M18.out, M19.out, M12.out⟩ (fun hHeld => ?_)
            refine takeL 0 2 (v := ?_) rfl (by kernel_rfl) (fun _ _ _ h => h) (by rfl) (by assumption) ?_ ?_
            rotate_left
            · (intro w hSw; (try dsimp only at hSw); go_simp; try with_reducible rfl)
            try simp only [Act.put, List.setIfInBounds_toArray, List.set_cons_zero, List.set_cons_succ]
            refine takeL 1 2 (v := ?_) rfl (by kernel_rfl) (fun _ _ _ h => h) (by rfl) (by assumption) ?_ ?_
            rotate_left
            · (intro w hSw; (try dsimp only at hSw); go_simp; try with_reducible rfl)
            try simp only [Act.put, List.setIfInBounds_toArray, List.set_cons_zero, List.set_cons_succ]
            refine takeL 2 2 (v := ?_) rfl (by kernel_rfl) (fun _ _ _ h => h) (by rfl) (by assumption) ?_ ?_
            rotate_left
            · (intro w hSw; (try dsimp only at hSw); go_simp; try with_reducible rfl)
            try simp only [Act.put, List.setIfInBounds_toArray, List.set_cons_zero, List.set_cons_succ]
            refine takeL 3 2 (v := ?_) rfl (by kernel_rfl) (fun _ _ _ h => h) (by rfl) (by assumption) ?_ ?_
            rotate_left
            · (intro w hSw; (try dsimp only at hSw); go_simp; try with_reducible rfl)
            try simp only [Act.put, List.setIfInBounds_toArray, List.set_cons_zero, List.set_cons_succ]
            refine takeL 4 2 (v := ?_) rfl (by kernel_rfl) (fun _ _ _ h => h) (by rfl) (by assumption) ?_ ?_
            rotate_left
            · (intro w hSw; (try dsimp only at hSw); go_simp; try with_reducible rfl)
            try simp only [Act.put, List.setIfInBounds_toArray, List.set_cons_zero, List.set_cons_succ]
            refine takeL 5 2 (v := ?_) rfl (by kernel_rfl) (fun _ _ _ h => h) (by rfl) (by assumption) ?_ ?_
            rotate_left
            · (intro w hSw; (try dsimp only at hSw); go_simp; try with_reducible rfl)
            try simp only [Act.put, List.setIfInBounds_toArray, List.set_cons_zero, List.set_cons_succ]
            refine takeL 6 2 (v := ?_) rfl (by kernel_rfl) (fun _ _ _ h => h) (by rfl) (by assumption) ?_ ?_
            rotate_left
            · (intro w hSw; (try dsimp only at hSw); go_simp; try with_reducible rfl)
            try simp only [Act.put, List.setIfInBounds_toArray, List.set_cons_zero, List.set_cons_succ]
            refine takeL 7 2 (v := ?_) rfl (by kernel_rfl) (fun _ _ _ h => h) (by rfl) (by assumption) ?_ ?_
            rotate_left
            · (intro w hSw; (try dsimp only at hSw); go_simp; try with_reducible rfl)
            try simp only [Act.put, List.setIfInBounds_toArray, List.set_cons_zero, List.set_cons_succ]
            refine takeL 8 2 (v := ?_) rfl (by kernel_rfl) (fun _ _ _ h => h) (by rfl) (by assumption) ?_ ?_
            rotate_left
            · (intro w hSw; (try dsimp only at hSw); go_simp; try with_reducible rfl)
            try simp only [Act.put, List.setIfInBounds_toArray, List.set_cons_zero, List.set_cons_succ]
            refine takeL 9 2 (v := ?_) rfl (by kernel_rfl) (fun _ _ _ h => h) (by rfl) (by assumption) ?_ ?_
            rotate_left
            · (intro w hSw; (try dsimp only at hSw); go_simp; try with_reducible rfl)
            try simp only [Act.put, List.setIfInBounds_toArray, List.set_cons_zero, List.set_cons_succ]
            refine takeL 10 2 (v := ?_) rfl (by kernel_rfl) (fun _ _ _ h => h) (by rfl) (by assumption) ?_ ?_
            rotate_left
            · (intro w hSw; (try dsimp only at hSw); go_simp; try with_reducible rfl)
            try simp only [Act.put, List.setIfInBounds_toArray, List.set_cons_zero, List.set_cons_succ]
            refine takeL 11 2 (v := ?_) rfl (by kernel_rfl) (fun _ _ _ h => h) (by rfl) (by assumption) ?_ ?_
            rotate_left
            · (intro w hSw; (try dsimp only at hSw); go_simp; try with_reducible rfl)
            try simp only [Act.put, List.setIfInBounds_toArray, List.set_cons_zero, List.set_cons_succ]
            refine takeL 12 2 (v := ?_) rfl (by kernel_rfl) (fun _ _ _ h => h) (by rfl) (by assumption) ?_ ?_
            rotate_left
            · (intro w hSw; (try dsimp only at hSw); go_simp; try with_reducible rfl)
            try simp only [Act.put, List.setIfInBounds_toArray, List.set_cons_zero, List.set_cons_succ]
            refine takeL 13 2 (v := ?_) rfl (by kernel_rfl) (fun _ _ _ h => h) (by rfl) (by assumption) ?_ ?_
            rotate_left
            · (intro w hSw; (try dsimp only at hSw); go_simp; try with_reducible rfl)
            try simp only [Act.put, List.setIfInBounds_toArray, List.set_cons_zero, List.set_cons_succ]
            refine takeL 14 2 (v := ?_) rfl (by kernel_rfl) (fun _ _ _ h => h) (by rfl) (by assumption) ?_ ?_
            rotate_left
            · (intro w hSw; (try dsimp only at hSw); go_simp; try with_reducible rfl)
            try simp only [Act.put, List.setIfInBounds_toArray, List.set_cons_zero, List.set_cons_succ]
            refine takeL 15 2 (v := ?_) rfl (by kernel_rfl) (fun _ _ _ h => h) (by rfl) (by assumption) ?_ ?_
            rotate_left
            · (intro w hSw; (try dsimp only at hSw); go_simp; try with_reducible rfl)
            try simp only [Act.put, List.setIfInBounds_toArray, List.set_cons_zero, List.set_cons_succ]
            refine takeL 16 2 (v := ?_) rfl (by kernel_rfl) (fun _ _ _ h => h) (by rfl) (by assumption) ?_ ?_
            rotate_left
            · (intro w hSw; (try dsimp only at hSw); go_simp; try with_reducible rfl)
            try simp only [Act.put, List.setIfInBounds_toArray, List.set_cons_zero, List.set_cons_succ]
            refine takeL 17 2 (v := ?_) rfl (by kernel_rfl) (fun _ _ _ h => h) (by rfl) (by assumption) ?_ ?_
            rotate_left
            · (intro w hSw; (try dsimp only at hSw); go_simp; try with_reducible rfl)
            try simp only [Act.put, List.setIfInBounds_toArray, List.set_cons_zero, List.set_cons_succ]
            refine takeL 18 2 (v := ?_) rfl (by kernel_rfl) (fun _ _ _ h => h) (by rfl) (by assumption) ?_ ?_
            rotate_left
            · (intro w hSw; (try dsimp only at hSw); go_simp; try with_reducible rfl)
            try simp only [Act.put, List.setIfInBounds_toArray, List.set_cons_zero, List.set_cons_succ]
            refine takeL 19 2 (v := ?_) rfl (by kernel_rfl) (fun _ _ _ h => h) (by rfl) (by assumption) ?_ ?_
            rotate_left
            · (intro w hSw; (try dsimp only at hSw); go_simp; try with_reducible rfl)
            try simp only [Act.put, List.setIfInBounds_toArray, List.set_cons_zero, List.set_cons_succ]
            refine takeL 20 2 (v := ?_) rfl (by kernel_rfl) (fun _ _ _ h => h) (by rfl) (by assumption) ?_ ?_
            rotate_left
            · (intro w hSw; (try dsimp only at hSw); go_simp; try with_reducible rfl)
            try simp only [Act.put, List.setIfInBounds_toArray, List.set_cons_zero, List.set_cons_succ]
            refine oneL 21 rfl (by kernel_rfl) (by rfl) (fun K hK => ?_)
            go_simp
            refine hK.out _ _ ⟨CE.out.cell M14.out hqsg.2, CE.out.cell M15.out hqsg.2, CE.out.cell M16.out hqsg.2, CE.out.cell M17.out hqsg.2, CE.out.cell M18.out hqsg.2, CE.out.cell M19.out hqsg.2, CE.out.cell M12.out hqsg.2⟩ (fun hHeld => ?_)
            clear hK K
            try simp only [Act.put, List.setIfInBounds_toArray, List.set_cons_zero, List.set_cons_succ]
            refine takeL 22 2 (v := ?_) rfl (by kernel_rfl) (fun _ _ _ h => h) (by rfl) (by assumption) ?_ ?_
            rotate_left
            · (intro w hSw; (try dsimp only at hSw); go_simp; try with_reducible rfl)
            try simp only [Act.put, List.setIfInBounds_toArray, List.set_cons_zero, List.set_cons_succ]
            refine doneL (by kernel_rfl) ?_ _
            go_wp2_with fail
            have SEE := Lib.hid (fun (n size : Nat) (a : Option Addr) (cc : Nat) (xs : List Value) (h : RRow wA R (.slice a n cc) n size xs) => rrow_sees (B := fun b => (C b ∨ w.heap.size ≤ b) ∧ b ≠ sg) XC.out CE.out h (fun k hk => ⟨⟨HNC.out k hk, (HNW.out k hk).1⟩, HNW.out k hk⟩))
            exact bodyPost_ret (rrun_results rfl rfl (drew_blk (seven_set E9.out rfl))) rfl ⟨s, aT, cT, aR, cR, aB, cB, HS'.out, rfl, SEE.out _ _ _ _ _ RT.out, SEE.out _ _ _ _ _ RRD.out, SEE.out _ _ _ _ _ RB.out, ownsRow_heap RX2.out (fun k hk => CE.out.block k (RX2.out.lt k hk).2 (by simp [Value.ownBlock] at hk; have := HSG.out.2; omega)), ((CX.out.mono (fun _ _ h => h.elim)).trans XC.out (fun k _ hk => hk)).trans CE.out (fun k hk e => by omega)⟩
      · have q1 : (s.how.1 == 1) = false := beq_eq_false_iff_ne.2 hcm
        have RX2 := Lib.hid (show wA.ownsRow base 33 1 (.slice (some ⟨sg, 0, none⟩) fs.length cs) fs.length ((afterL s fs).map fl) from by rw [after_same (.inl hcm)]; exact RW.out)
        have XC := Lib.hid (Chg.refl wA (fun k => k = sg))
        go_wp2_with fail
        have e9 : wA.heap[w.heap.size + 1 + 1]? = some resBx := (XC.out.block _ hrb (by have := HSG.out.2; omega)).trans E2.out
        have x0 : wA.cell? ⟨w.heap.size + 1 + 1, 0, none⟩ = some (.int .i64 0) := blk_cell e9 0
        have x1 : wA.cell? ⟨w.heap.size + 1 + 1, 1, none⟩ = some (.int .i64 0) := blk_cell e9 1
        have x2 : wA.cell? ⟨w.heap.size + 1 + 1, 2, none⟩ = some (.int .i64 0) := blk_cell e9 2
        have x3 : wA.cell? ⟨w.heap.size + 1 + 1, 3, none⟩ = some (.slice none 0 0) := blk_cell e9 3
        have x4 : wA.cell? ⟨w.heap.size + 1 + 1, 4, none⟩ = some (.slice none 0 0) := blk_cell e9 4
        have x5 : wA.cell? ⟨w.heap.size + 1 + 1, 5, none⟩ = some (.slice none 0 0) := blk_cell e9 5
        have x6 : wA.cell? ⟨w.heap.size + 1 + 1, 6, none⟩ = some (.int .i64 0) := blk_cell e9 6
        have f0 := blk_free e9 0
        have f1 := blk_free e9 1
        have f2 := blk_free e9 2
        have f3 := blk_free e9 3
        have f4 := blk_free e9 4
        have f5 := blk_free e9 5
        have f6 := blk_free e9 6
        have E9 := Lib.hid e9
        have z9 := blk_lt e9
        have MB := Lib.hid ((XC.out.block q hqw hqsg.1).trans HM.out.blk)
        clear e9
        have CE := Lib.hid ((seven_chg (v0 := .int .i64 s.how.1) (v1 := .int .i64 s.how.2.1) (v2 := .int .i64 s.how.2.2) (v3 := .slice aT s.out.length cT) (v4 := .slice aR s.reads.length cR) (v5 := .slice aB s.buf.length cB) (v6 := .int .i64 (s.used : Int)) (Chg.refl wA (fun k => k = w.heap.size + 1 + 1)) (.inr rfl)).drew)
        have M14 := Lib.hid (show wA.cell? ⟨q, 14, none⟩ = some (.int .i64 s.how.1) from blk_cell MB.out 14)
        have M15 := Lib.hid (show wA.cell? ⟨q, 15, none⟩ = some (.int .i64 s.how.2.1) from blk_cell MB.out 15)
        have M16 := Lib.hid (show wA.cell? ⟨q, 16, none⟩ = some (.int .i64 s.how.2.2) from blk_cell MB.out 16)
        have M17 := Lib.hid (show wA.cell? ⟨q, 17, none⟩ = some (.slice aT s.out.length cT) from blk_cell MB.out 17)
        have M18 := Lib.hid (show wA.cell? ⟨q, 18, none⟩ = some (.slice aR s.reads.length cR) from blk_cell MB.out 18)
        have M19 := Lib.hid (show wA.cell? ⟨q, 19, none⟩ = some (.slice aB s.buf.length cB) from blk_cell MB.out 19)
        have M12 := Lib.hid (show wA.cell? ⟨q, 12, none⟩ = some (.int .i64 (s.used : Int)) from blk_cell MB.out 12)
        refine beginL (fun w' => w'.cell? ⟨q, 14, none⟩ = some (.int .i64 s.how.1) ∧ w'.cell? ⟨q, 15, none⟩ = some (.int .i64 s.how.2.1) ∧ w'.cell? ⟨q, 16, none⟩ = some (.int .i64 s.how.2.2) ∧ w'.cell? ⟨q, 17, none⟩ = some (.slice aT s.out.length cT) ∧ w'.cell? ⟨q, 18, none⟩ = some (.slice aR s.reads.length cR) ∧ w'.cell? ⟨q, 19, none⟩ = some (.slice aB s.buf.length cB) ∧ w'.cell? ⟨q, 12, none⟩ = some (.int .i64 (s.used : Int))) 23 (by kernel_rfl) ⟨M14.out, M15.out, M16.out, M17.out, M18.out, M19.out, M12.out⟩ (fun hHeld => ?_)
        refine takeL 0 2 (v := ?_) rfl (by kernel_rfl) (fun _ _ _ h => h) (by rfl) (by assumption) ?_ ?_
        rotate_left
        · (intro w hSw; (try dsimp only at hSw); go_simp; try with_reducible rfl)
        try simp only [Act.put, List.setIfInBounds_toArray, List.set_cons_zero, List.set_cons_succ]
        refine takeL 1 2 (v := ?_) rfl (by kernel_rfl) (fun _ _ _ h => h) (by rfl) (by assumption) ?_ ?_
        rotate_left
        · (intro w hSw; (try dsimp only at hSw); go_simp; try with_reducible rfl)
        try simp only [Act.put, List.setIfInBounds_toArray, List.set_cons_zero, List.set_cons_succ]
        refine takeL 2 2 (v := ?_) rfl (by kernel_rfl) (fun _ _ _ h => h) (by rfl) (by assumption) ?_ ?_
        rotate_left
        · (intro w hSw; (try dsimp only at hSw); go_simp; try with_reducible rfl)
        try simp only [Act.put, List.setIfInBounds_toArray, List.set_cons_zero, List.set_cons_succ]
        refine takeL 3 2 (v := ?_) rfl (by kernel_rfl) (fun _ _ _ h => h) (by rfl) (by assumption) ?_ ?_
        rotate_left
        · (intro w hSw; (try dsimp only at hSw); go_simp; try with_reducible rfl)
        try simp only [Act.put, List.setIfInBounds_toArray, List.set_cons_zero, List.set_cons_succ]
        refine takeL 4 2 (v := ?_) rfl (by kernel_rfl) (fun _ _ _ h => h) (by rfl) (by assumption) ?_ ?_
        rotate_left
        · (intro w hSw; (try dsimp only at hSw); go_simp; try with_reducible rfl)
        try simp only [Act.put, List.setIfInBounds_toArray, List.set_cons_zero, List.set_cons_succ]
        refine takeL 5 2 (v := ?_) rfl (by kernel_rfl) (fun _ _ _ h => h) (by rfl) (by assumption) ?_ ?_
        rotate_left
        · (intro w hSw; (try dsimp only at hSw); go_simp; try with_reducible rfl)
        try simp only [Act.put, List.setIfInBounds_toArray, List.set_cons_zero, List.set_cons_succ]
        refine takeL 6 2 (v := ?_) rfl (by kernel_rfl) (fun _ _ _ h => h) (by rfl) (by assumption) ?_ ?_
        rotate_left
        · (intro w hSw; (try dsimp only at hSw); go_simp; try with_reducible rfl)
        try simp only [Act.put, List.setIfInBounds_toArray, List.set_cons_zero, List.set_cons_succ]
        refine takeL 7 2 (v := ?_) rfl (by kernel_rfl) (fun _ _ _ h => h) (by rfl) (by assumption) ?_ ?_
        rotate_left
        · (intro w hSw; (try dsimp only at hSw); go_simp; try with_reducible rfl)
        try simp only [Act.put, List.setIfInBounds_toArray, List.set_cons_zero, List.set_cons_succ]
        refine takeL 8 2 (v := ?_) rfl (by kernel_rfl) (fun _ _ _ h => h) (by rfl) (by assumption) ?_ ?_
        rotate_left
        · (intro w hSw; (try dsimp only at hSw); go_simp; try with_reducible rfl)
        try simp only [Act.put, List.setIfInBounds_toArray, List.set_cons_zero, List.set_cons_succ]
        refine takeL 9 2 (v := ?_) rfl (by kernel_rfl) (fun _ _ _ h => h) (by rfl) (by assumption) ?_ ?_
        rotate_left
        · (intro w hSw; (try dsimp only at hSw); go_simp; try with_reducible rfl)
        try simp only [Act.put, List.setIfInBounds_toArray, List.set_cons_zero, List.set_cons_succ]
        refine takeL 10 2 (v := ?_) rfl (by kernel_rfl) (fun _ _ _ h => h) (by rfl) (by assumption) ?_ ?_
        rotate_left
        · (intro w hSw; (try dsimp only at hSw); go_simp; try with_reducible rfl)
        try simp only [Act.put, List.setIfInBounds_toArray, List.set_cons_zero, List.set_cons_succ]
        refine takeL 11 2 (v := ?_) rfl (by kernel_rfl) (fun _ _ _ h => h) (by rfl) (by assumption) ?_ ?_
        rotate_left
        · (intro w hSw; (try dsimp only at hSw); go_simp; try with_reducible rfl)
        try simp only [Act.put, List.setIfInBounds_toArray, List.set_cons_zero, List.set_cons_succ]
        refine takeL 12 2 (v := ?_) rfl (by kernel_rfl) (fun _ _ _ h => h) (by rfl) (by assumption) ?_ ?_
        rotate_left
        · (intro w hSw; (try dsimp only at hSw); go_simp; try with_reducible rfl)
        try simp only [Act.put, List.setIfInBounds_toArray, List.set_cons_zero, List.set_cons_succ]
        refine takeL 13 2 (v := ?_) rfl (by kernel_rfl) (fun _ _ _ h => h) (by rfl) (by assumption) ?_ ?_
        rotate_left
        · (intro w hSw; (try dsimp only at hSw); go_simp; try with_reducible rfl)
        try simp only [Act.put, List.setIfInBounds_toArray, List.set_cons_zero, List.set_cons_succ]
        refine takeL 14 2 (v := ?_) rfl (by kernel_rfl) (fun _ _ _ h => h) (by rfl) (by assumption) ?_ ?_
        rotate_left
        · (intro w hSw; (try dsimp only at hSw); go_simp; try with_reducible rfl)
        try simp only [Act.put, List.setIfInBounds_toArray, List.set_cons_zero, List.set_cons_succ]
        refine takeL 15 2 (v := ?_) rfl (by kernel_rfl) (fun _ _ _ h => h) (by rfl) (by assumption) ?_ ?_
        rotate_left
        · (intro w hSw; (try dsimp only at hSw); go_simp; try with_reducible rfl)
        try simp only [Act.put, List.setIfInBounds_toArray, List.set_cons_zero, List.set_cons_succ]
        refine takeL 16 2 (v := ?_) rfl (by kernel_rfl) (fun _ _ _ h => h) (by rfl) (by assumption) ?_ ?_
        rotate_left
        · (intro w hSw; (try dsimp only at hSw); go_simp; try with_reducible rfl)
        try simp only [Act.put, List.setIfInBounds_toArray, List.set_cons_zero, List.set_cons_succ]
        refine takeL 17 2 (v := ?_) rfl (by kernel_rfl) (fun _ _ _ h => h) (by rfl) (by assumption) ?_ ?_
        rotate_left
        · (intro w hSw; (try dsimp only at hSw); go_simp; try with_reducible rfl)
        try simp only [Act.put, List.setIfInBounds_toArray, List.set_cons_zero, List.set_cons_succ]
        refine takeL 18 2 (v := ?_) rfl (by kernel_rfl) (fun _ _ _ h => h) (by rfl) (by assumption) ?_ ?_
        rotate_left
        · (intro w hSw; (try dsimp only at hSw); go_simp; try with_reducible rfl)
        try simp only [Act.put, List.setIfInBounds_toArray, List.set_cons_zero, List.set_cons_succ]
        refine takeL 19 2 (v := ?_) rfl (by kernel_rfl) (fun _ _ _ h => h) (by rfl) (by assumption) ?_ ?_
        rotate_left
        · (intro w hSw; (try dsimp only at hSw); go_simp; try with_reducible rfl)
        try simp only [Act.put, List.setIfInBounds_toArray, List.set_cons_zero, List.set_cons_succ]
        refine takeL 20 2 (v := ?_) rfl (by kernel_rfl) (fun _ _ _ h => h) (by rfl) (by assumption) ?_ ?_
        rotate_left
        · (intro w hSw; (try dsimp only at hSw); go_simp; try with_reducible rfl)
        try simp only [Act.put, List.setIfInBounds_toArray, List.set_cons_zero, List.set_cons_succ]
        refine oneL 21 rfl (by kernel_rfl) (by rfl) (fun K hK => ?_)
        go_simp
        refine hK.out _ _ ⟨CE.out.cell M14.out hqsg.2, CE.out.cell M15.out hqsg.2, CE.out.cell M16.out hqsg.2, CE.out.cell M17.out hqsg.2, CE.out.cell M18.out hqsg.2, CE.out.cell M19.out hqsg.2, CE.out.cell M12.out hqsg.2⟩ (fun hHeld => ?_)
        clear hK K
        try simp only [Act.put, List.setIfInBounds_toArray, List.set_cons_zero, List.set_cons_succ]
        refine takeL 22 2 (v := ?_) rfl (by kernel_rfl) (fun _ _ _ h => h) (by rfl) (by assumption) ?_ ?_
        rotate_left
        · (intro w hSw; (try dsimp only at hSw); go_simp; try with_reducible rfl)
        try simp only [Act.put, List.setIfInBounds_toArray, List.set_cons_zero, List.set_cons_succ]
        refine doneL (by kernel_rfl) ?_ _
        go_wp2_with fail
        have SEE := Lib.hid (fun (n size : Nat) (a : Option Addr) (cc : Nat) (xs : List Value) (h : RRow wA R (.slice a n cc) n size xs) => rrow_sees (B := fun b => (C b ∨ w.heap.size ≤ b) ∧ b ≠ sg) XC.out CE.out h (fun k hk => ⟨⟨HNC.out k hk, (HNW.out k hk).1⟩, HNW.out k hk⟩))
        exact bodyPost_ret (rrun_results rfl rfl (drew_blk (seven_set E9.out rfl))) rfl ⟨s, aT, cT, aR, cR, aB, cB, HS'.out, rfl, SEE.out _ _ _ _ _ RT.out, SEE.out _ _ _ _ _ RRD.out, SEE.out _ _ _ _ _ RB.out, ownsRow_heap RX2.out (fun k hk => CE.out.block k (RX2.out.lt k hk).2 (by simp [Value.ownBlock] at hk; have := HSG.out.2; omega)), ((CX.out.mono (fun _ _ h => h.elim)).trans XC.out (fun k _ hk => hk)).trans CE.out (fun k hk e => by omega)⟩
end Go.Proofs.YthgllaomafhdkaaGreat
