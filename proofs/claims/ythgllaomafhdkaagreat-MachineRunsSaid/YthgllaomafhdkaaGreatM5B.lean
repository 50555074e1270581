/- The program's machine beside the document's; begun. -/
import Derived.Test.YthgllaomafhdkaaGreatM5A
import Derived.Test.YthgllaomafhdkaaGreatSee
namespace Go.Proofs.YthgllaomafhdkaaGreat
open Go Go.RowKit
set_option maxRecDepth 100000
set_option maxHeartbeats 1000000
set_option linter.unusedVariables false
set_option linter.unusedSimpArgs false

/-- Both stand as s; pb: the pair's block. -/
structure Both (w0 w : World) (pb m q lb : Nat) (F R : Nat → Prop) (s : Mc) (g : Int) : Prop where
  pr : w.heap[pb]? = some (.cells #[.pointer (some ⟨m, 0, none⟩), .pointer (some ⟨q, 0, none⟩), .int .i64 g] 57 (0, 0))
  ma : Ma w m F s
  rm : Rm w q lb R s
  fine : s.Fine
  hok : s.Hok
  dF : ∀ k, F k → k ≠ pb ∧ k ≠ q ∧ k ≠ lb ∧ ¬ R k
  dp : pb ≠ q ∧ pb ≠ lb ∧ ¬ R pb
  new : w0.heap.size ≤ pb ∧ w0.heap.size ≤ q ∧ w0.heap.size ≤ lb ∧ ∀ k, F k → w0.heap.size ≤ k
  chg : Chg w0 w Nothing
section
variable {w0 w w' : World} {pb m q lb : Nat} {F R S : Nat → Prop} {s s' : Mc} {g : Int}
theorem Both.rok (h : Both w0 w pb m q lb F R s g) : s.Rok := .of h.ma.fits h.hok
theorem Both.still (h : Both w0 w pb m q lb F R s g) (hc : Chg w w' S) (hp : ¬ S pb) (hF : ∀ k, F k → ¬ S k) (hR : ∀ k, k = q ∨ k = lb ∨ R k → ¬ S k) (hS : ∀ k, S k → w0.heap.size ≤ k) : Both w0 w' pb m q lb F R s g :=
  ⟨(hc.block pb (blk_lt h.pr) hp).trans h.pr, h.ma.chg hc hF, h.rm.chg hc hR, h.fine, h.hok, h.dF, h.dp, h.new, h.chg.trans hc (fun k hk hs => by have := hS k hs; omega)⟩
theorem Both.quiet (h : Both w0 w pb m q lb F R s g) (hc : Chg w w' Nothing) : Both w0 w' pb m q lb F R s g := h.still hc id (fun _ _ h => h) (fun _ _ h => h) (fun _ h => h.elim)
/-- The program's machine has gone on. -/
theorem Both.one (h : Both w0 w pb m q lb F R s g) (hS : MaS w w' m F s') : w'.heap[pb]? = some (.cells #[.pointer (some ⟨m, 0, none⟩), .pointer (some ⟨q, 0, none⟩), .int .i64 g] 57 (0, 0)) ∧ Ma w' m (Grow F w w') s' ∧ Rm w' q lb R s ∧ (∀ k, Grow F w w' k → k ≠ pb ∧ k ≠ q ∧ k ≠ lb ∧ ¬ R k) ∧ (∀ k, Grow F w w' k → w0.heap.size ≤ k) ∧ Chg w0 w' Nothing := by
  have hp := blk_lt h.pr
  have hq := h.rm.qlt
  have hz := h.chg.size
  refine ⟨(hS.chg.block pb hp (fun hk => (h.dF pb hk).1 rfl)).trans h.pr, hS.ma, h.rm.chg hS.chg (fun k hk hF => ?_), fun k hk => ?_, fun k hk => ?_, h.chg.trans hS.chg (fun k hk hF => by have := h.new.2.2.2 k hF; omega)⟩
  · have := h.dF k hF
    rcases hk with rfl | rfl | hk
    · exact this.2.1 rfl
    · exact this.2.2.1 rfl
    · exact this.2.2.2 hk
  · rcases hk with hk | hk
    · exact h.dF k hk
    · exact ⟨by omega, by omega, by omega, fun hR => by have := (hq.2.2.2 k hR).1; omega⟩
  · rcases hk with hk | hk
    · exact h.new.2.2.2 k hk
    · omega
/-- Then the document's. -/
theorem Both.two {w1 : World} {F' : Nat → Prop} (h : Both w0 w pb m q lb F R s g) (hz : w.heap.size ≤ w1.heap.size) (p1 : w1.heap[pb]? = some (.cells #[.pointer (some ⟨m, 0, none⟩), .pointer (some ⟨q, 0, none⟩), .int .i64 g] 57 (0, 0))) (m1 : Ma w1 m F' s') (d1 : ∀ k, F' k → k ≠ pb ∧ k ≠ q ∧ k ≠ lb ∧ ¬ R k) (n1 : ∀ k, F' k → w0.heap.size ≤ k) (c1 : Chg w0 w1 Nothing)
    (hR : Rs w1 w' q lb R s') (hf : s'.Fine) (hk : s'.Hok) : Both w0 w' pb m q lb F' (Grow R w1 w') s' g := by
  have hp := blk_lt p1
  refine ⟨(hR.chg.block pb hp (fun e => by rcases e with e | e; exact h.dp.1 e; exact h.dp.2.1 e)).trans p1, m1.chg hR.chg (fun k hk e => by have := d1 k hk; omega), hR.rm, hf, hk, fun k hk => ?_, ?_, ⟨h.new.1, h.new.2.1, h.new.2.2.1, n1⟩, c1.trans hR.chg (fun k hk e => by have := h.new; omega)⟩
  · have := d1 k hk
    refine ⟨this.1, this.2.1, this.2.2.1, fun hG => ?_⟩
    rcases hG with hG | hG
    · exact this.2.2.2 hG
    · have := m1.lt k hk; omega
  · refine ⟨h.dp.1, h.dp.2.1, fun hG => ?_⟩
    rcases hG with hG | hG
    · exact h.dp.2.2 hG
    · omega
end
theorem row08_chg {W W' : World} {base : Nat} {e : TypeId} {size : Nat} {v : Value} {n : Nat} {xs : List Value} {S : Nat → Prop} (h : W.ownsRow base e size v n xs) (hc : Chg W W' S) (hS : ∀ k, base ≤ k → ¬ S k) : W'.ownsRow base e size v n xs :=
  ownsRow_heap h (fun k hk => hc.block k (h.lt k hk).2 (hS k (h.lt k hk).1))
theorem own_room {w : World} {base : Nat} {e : TypeId} {size : Nat} {v : Value} {n : Nat} {xs : List Value} (h : w.ownsRow base e size v n xs) (hn : 0 < n) : ∃ g c, v = .slice (some ⟨g, 0, none⟩) n c ∧ n ≤ c ∧ base ≤ g ∧ g < w.heap.size := by
  obtain ⟨g, c, rfl⟩ := (ownsRow_shape h).2 hn
  exact ⟨g, c, rfl, (own_cap h _ _ rfl).1, (h.lt g rfl).1, (h.lt g rfl).2⟩
theorem insV_snoc2 (l : List Ins) (a b : Ins) : insV l ++ [.int .i64 a.1, .int .i64 a.2.1, fl a.2.2, .int .i64 b.1, .int .i64 b.2.1, fl b.2.2] = insV (l ++ [a, b]) := by simp [insV]
theorem ins_one (l : List Ins) : ∀ u ∈ insV l, u.oneCell' = true := by
  intro u hu
  unfold insV at hu
  rw [List.mem_flatMap] at hu
  obtain ⟨t, _, ht⟩ := hu
  simp at ht
  rcases ht with rfl | rfl | rfl <;> rfl
/-- What is written over does not matter. -/
def Room (w : World) (g c size n : Nat) (e : TypeId) : Prop := ∃ base xs, w.ownsRow base e size (.slice (some ⟨g, 0, none⟩) n c) n xs
theorem begun_good (c t f r tag : Int) (ac : Option Addr) (cc : Nat) (code : List Ins) (aa : Option Addr) (na : Nat) (args : List Nat) (w : World)
    (hb : (code.length + 2) * 24 ≤ 140737488355328) (hab : (args.length + 2) * 8 ≤ 140737488355328) (hs : Sees w ac (insV code)) (hc : (∀ k, CodeB ac code k → k < w.heap.size) ∧ RRow w (CodeB ac code) (.slice ac code.length cc) code.length 3 (insV code)) (ha : Sees w aa (args.map fl)) (hac : ac = none → cc = 0) (haa : aa = none → na = 0) (hcl : code.length ≤ cc) (hal : args.length ≤ na)
    (hx : ∀ i ∈ code, i.2.2 < 18446744073709551616) (hax : ∀ y ∈ args, y < 18446744073709551616) (hcfg : CfgOk c t f r ∧ args.length ≤ 8) :
    Calls Tryz.prog 30 #[.agg #[.int .i64 c, .int .i64 t, .int .i64 f, .int .i64 r], .agg #[.int .i64 tag, .slice ac code.length cc], .slice aa args.length na] w fun e w' => ∃ pb m q lb F R, e = .returned (.tuple #[.pointer (some ⟨pb, 0, none⟩), .bool true]) ∧ Both w w' pb m q lb F R (mc0 c t f r tag code args) 0 := by
  obtain ⟨iF, jF, jF2, jF3, jF4⟩ := info_parts (show (Tryz.prog.info? 33).map (fun i => (i.zero, i.size, i.bytes)) = some (some (fl 0), 1, 8) by kernel_rfl)
  obtain ⟨iI, jI, jI2, jI3, jI4⟩ := info_parts (show (Tryz.prog.info? 92).map (fun i => (i.zero, i.size, i.bytes)) = some (some (.agg #[.int .i64 0, .int .i64 0, fl 0]), 3, 24) by kernel_rfl)
  have JF := Lib.hid (And.intro jF (And.intro jF2 (And.intro jF3 jF4)))
  have JI := Lib.hid (And.intro jI (And.intro jI2 (And.intro jI3 jI4)))
  clear jF jF2 jF3 jF4 jI jI2 jI3 jI4
  have hw1 : IntKind.i64.wrap ((args.length : Int) + 2) = ((args.length + 2 : Nat) : Int) := (IntWalk.i64_in ((args.length : Int) + 2) (by omega)).trans (by omega)
  have hw2 : IntKind.i64.wrap ((code.length : Int) + 2) = ((code.length + 2 : Nat) : Int) := (IntWalk.i64_in ((code.length : Int) + 2) (by omega)).trans (by omega)
  have HCF := Lib.hid hcfg
  have HB := Lib.hid hb
  have HAB := Lib.hid hab
  have HS := Lib.hid hs
  have HC := Lib.hid hc
  have HA := Lib.hid ha
  have HAC := Lib.hid hac
  have HAA := Lib.hid haa
  have HX := Lib.hid hx
  have HAX := Lib.hid hax
  have HCL := Lib.hid hcl
  have HAL := Lib.hid hal
  have C0 := Lib.hid (Chg.refl ((w.alloc (cfgBx c t f r)).alloc (prgBx tag ac code.length cc)) Nothing)
  have hz0 : ((w.alloc (cfgBx c t f r)).alloc (prgBx tag ac code.length cc)).heap.size = w.heap.size + 1 + 1 := by simp
  have HZ0 := Lib.hid hz0
  have HSW := Lib.hid (Sees.chg hs (((Chg.refl w Nothing).alloc (cfgBx c t f r)).alloc (prgBx tag ac code.length cc)))
  have HAW := Lib.hid (Sees.chg ha (((Chg.refl w Nothing).alloc (cfgBx c t f r)).alloc (prgBx tag ac code.length cc)))
  clear hcfg hb hab hs hc ha hac haa hx hax hcl hal hz0
  go_enter Tryz.func30, Tryz.ntmps30
  go_wp2_with (at_make; refine wpList_make_own _ rfl _ _ 27 rfl (w.heap.size + 1 + 1) 33 iF (fl 0) 1 Tryz.underlying27 JF.out.1 JF.out.2.1 JF.out.2.2.1 .i64 .i64 _ (args.length + 2) rfl rfl (by first | rfl | (push_cast; rfl)) (by rw [JF.out.2.2.2]; have := HAB.out; omega) (by have := HAB.out; unfold maxLen; omega) (by simp) ?c1)
  case c1 =>
    intro w1 o1 g1
    have C1 := Lib.hid (show Chg ((w.alloc (cfgBx c t f r)).alloc (prgBx tag ac code.length cc)) w1 Nothing from (Chg.refl _ Nothing).grown g1 (by simp))
    have O1 := Lib.hid o1
    clear o1 g1
    go_wp2_with (at_builtin; refine list_append_see rfl _ _ 27 rfl (w.heap.size + 1 + 1) 33 iF (fl 0) 1 8 Tryz.underlying27 JF.out.1 JF.out.2.1 JF.out.2.2.1 JF.out.2.2.2 rfl (by decide) _ 0 [] rfl O1.out aa args.length na rfl (args.map fl) (by simp) (HAW.out.chg C1.out) (fls_one args) (by have := HAB.out; unfold maxLen; omega) (by have := HAB.out; omega) (by have := C1.out.size; have := HZ0.out; omega) HAA.out ?c2)
    case c2 =>
      intro v1 w2 o2 g2
      have C2 := Lib.hid (C1.out.grown g2 (fun k hk => .inl (by have := (O1.out.lt k hk).1; have := HZ0.out; omega)))
      try simp only [Nat.zero_add, List.nil_append] at o2
      obtain ⟨⟨p1, d1, rfl⟩, -⟩ := ownsRow_shape o2
      have hpd := own_cap o2 _ _ rfl
      have O2 := Lib.hid o2
      clear o2 g2 C1 O1
      have HN2 := Lib.hid (World.news_of_block (cs := #[fl 4635118810238550016, fl 4635189178982727680]) (t := 33) (fr := (0, 0)) (w := w2.alloc (.cells #[fl 4635118810238550016, fl 4635189178982727680] 33)) (heap_alloc_new w2 _))
      have O2b := Lib.hid (row08_chg O2.out ((Chg.refl w2 Nothing).alloc (.cells #[fl 4635118810238550016, fl 4635189178982727680] 33)) (fun _ _ h => h))
      have C2b := Lib.hid (C2.out.alloc (.cells #[fl 4635118810238550016, fl 4635189178982727680] 33))
      have HB3 := Lib.hid (show w.heap.size + 1 + 1 ≤ (w2.alloc (.cells #[fl 4635118810238550016, fl 4635189178982727680] 33)).heap.size by have := C2b.out.size; have := HZ0.out; omega)
      go_wp2_with (at_builtin; refine list_append_see rfl _ _ 27 rfl (w.heap.size + 1 + 1) 33 iF (fl 0) 1 8 Tryz.underlying27 JF.out.1 JF.out.2.1 JF.out.2.2.1 JF.out.2.2.2 rfl (by decide) _ args.length (args.map fl) rfl O2b.out (some ⟨w2.heap.size, 0, none⟩) 2 2 rfl [fl 4635118810238550016, fl 4635189178982727680] rfl (.inr ⟨_, _, rfl, fun j u hu => by have := HN2.out j u hu; rwa [Addr.add_lit] at this⟩) (fls_one [4635118810238550016, 4635189178982727680]) (by have := HAB.out; unfold maxLen; omega) (by have := HAB.out; omega) HB3.out (fun h => by cases h) ?c3)
      case c3 =>
        intro v2 w3 o3 g3
        have C3 := Lib.hid (C2b.out.grown g3 (fun k hk => .inl (by have := (O2b.out.lt k hk).1; have := HZ0.out; omega)))
        obtain ⟨ga, ca, rfl, hca, hga, hga2⟩ := own_room o3 (by omega)
        have O3 := Lib.hid o3
        have HGA := Lib.hid (And.intro hca (And.intro hga hga2))
        clear o3 g3 C2 C2b O2 O2b HN2 hca hga hga2
        obtain ⟨i0, i1, i2, i3, j0, j1, z0, z1⟩ := law_cells C3.out
        have J1 := Lib.hid j1
        clear i0 i1 i2 i3 j0 z0 z1
        go_wp2_with fail
        refine beginL (fun w' => w'.cell? ⟨w.heap.size + 1, 1, none⟩ = some (.slice ac code.length cc)) 9 (by kernel_rfl) ((Chg.refl w3 Nothing).drew.cell J1.out id) (fun hHeld => ?_)
        refine takeL 0 2 (v := ?_) rfl (by kernel_rfl) (fun _ _ _ h => h) (by rfl) (by assumption) ?_ ?_
        rotate_left
        · (intro w hSw; (try dsimp only at hSw); go_simp; try with_reducible rfl)
        try simp only [Act.put, List.setIfInBounds_toArray, List.set_cons_zero, List.set_cons_succ]
        refine takeL 1 2 (v := ?_) rfl (by kernel_rfl) (fun _ _ _ h => h) (by rfl) (by assumption) ?_ ?_
        rotate_left
        · (intro w hSw; (try dsimp only at hSw); go_simp; try with_reducible rfl)
        try simp only [Act.put, List.setIfInBounds_toArray, List.set_cons_zero, List.set_cons_succ]
        refine takeL 2 2 (v := ?_) rfl (by kernel_rfl) (fun _ _ _ h => h) (by rfl) (by assumption) ?_ ?_
        rotate_left
        · (intro w hSw; (try dsimp only at hSw); go_simp; try with_reducible rfl)
        try simp only [Act.put, List.setIfInBounds_toArray, List.set_cons_zero, List.set_cons_succ]
        refine takeL 3 2 (v := ?_) rfl (by kernel_rfl) (fun _ _ _ h => h) (by rfl) (by assumption) ?_ ?_
        rotate_left
        · (intro w hSw; (try dsimp only at hSw); go_simp; try with_reducible rfl)
        try simp only [Act.put, List.setIfInBounds_toArray, List.set_cons_zero, List.set_cons_succ]
        refine takeL 5 2 (v := ?_) rfl (by kernel_rfl) (fun _ _ _ h => h) (by rfl) (by assumption) ?_ ?_
        rotate_left
        · (intro w hSw; (try dsimp only at hSw); go_simp; try with_reducible rfl)
        try simp only [Act.put, List.setIfInBounds_toArray, List.set_cons_zero, List.set_cons_succ]
        refine takeL 6 2 (v := ?_) rfl (by kernel_rfl) (fun _ _ _ h => h) (by rfl) (by assumption) ?_ ?_
        rotate_left
        · (intro w hSw; (try dsimp only at hSw); go_simp; try with_reducible rfl)
        try simp only [Act.put, List.setIfInBounds_toArray, List.set_cons_zero, List.set_cons_succ]
        refine oneL 4 rfl (by kernel_rfl) (by rfl) (fun K hK => ?_)
        refine step_make_room (by rfl) _ _ 24 (by rfl) w3.heap.size 92 iI (.agg #[.int .i64 0, .int .i64 0, fl 0]) 3 Tryz.underlying24 JI.out.1 JI.out.2.1 JI.out.2.2.1 .i64 .i64 _ (code.length + 2) (by rfl) (by rfl) (by first | rfl | (push_cast; rfl)) (by rw [JI.out.2.2.2]; have := HB.out; omega) (by have := HB.out; unfold maxLen; omega) (Nat.le_refl _) ?_
        intro w4 o4 g4
        have C4 := Lib.hid (show Chg w3 w4 Nothing from (Chg.refl w3 Nothing).drew.grown g4 (by simp))
        have O4 := Lib.hid o4
        clear o4 g4
        refine hK.out _ _ (C4.out.cell J1.out id) (fun hHeld => ?_)
        clear hK K
        try simp only [Act.put, List.setIfInBounds_toArray, List.set_cons_zero, List.set_cons_succ]
        refine oneL 7 rfl (by kernel_rfl) (by rfl) (fun K hK => ?_)
        refine step_append_see (by rfl) _ _ 24 (by rfl) w3.heap.size 92 iI (.agg #[.int .i64 0, .int .i64 0, fl 0]) 3 24 Tryz.underlying24 JI.out.1 JI.out.2.1 JI.out.2.2.1 JI.out.2.2.2 rfl (by decide) _ 0 [] (by rfl) O4.out ac code.length cc (by rfl) (insV code) (insV_len code) ((HSW.out.chg C3.out).chg C4.out) (ins_one code) (by have := HB.out; unfold maxLen; omega) (by have := HB.out; omega) C4.out.size HAC.out ?_
        intro v3 w5 o5 g5
        have D5 := Lib.hid (C4.out.grown g5 (fun k hk => .inl (O4.out.lt k hk).1))
        have C5 := Lib.hid (C3.out.trans D5.out (fun _ _ h => h))
        try simp only [Nat.zero_add, List.nil_append] at o5
        have O5 := Lib.hid o5
        clear o5 g5
        refine hK.out _ _ (law_cells C5.out).2.2.2.2.2.1 (fun hHeld => ?_)
        clear hK K
        try simp only [Act.put, List.setIfInBounds_toArray, List.set_cons_zero, List.set_cons_succ]
        refine takeL 8 2 (v := ?_) rfl (by kernel_rfl) (fun _ _ _ h => h) (by rfl) (by assumption) ?_ ?_
        rotate_left
        · (intro w hSw; (try dsimp only at hSw); go_simp; try with_reducible rfl)
        try simp only [Act.put, List.setIfInBounds_toArray, List.set_cons_zero, List.set_cons_succ]
        refine doneL (by kernel_rfl) ?_ _
        clear j1
        obtain ⟨gk0, ck0, hv3, hck⟩ : ∃ a c, v3 = .slice a code.length c ∧ code.length ≤ c := by obtain ⟨a, c, rfl⟩ := (ownsRow_shape O5.out).1; exact ⟨a, c, rfl, (own_cap O5.out _ _ rfl).1⟩
        subst hv3
        have HN4 := Lib.hid (World.news_of_block (cs := #[.int .i64 77, .int .i64 0, fl 0, .int .i64 78, .int .i64 0, fl 0]) (t := 92) (fr := (0, 0)) (w := w5.alloc (.cells #[.int .i64 77, .int .i64 0, fl 0, .int .i64 78, .int .i64 0, fl 0] 92)) (heap_alloc_new w5 _))
        have O5b := Lib.hid (row08_chg O5.out ((Chg.refl w5 Nothing).alloc (.cells #[.int .i64 77, .int .i64 0, fl 0, .int .i64 78, .int .i64 0, fl 0] 92)) (fun _ _ h => h))
        have D5b := Lib.hid (D5.out.alloc (.cells #[.int .i64 77, .int .i64 0, fl 0, .int .i64 78, .int .i64 0, fl 0] 92))
        have HB5 := Lib.hid (show w3.heap.size ≤ (w5.alloc (.cells #[.int .i64 77, .int .i64 0, fl 0, .int .i64 78, .int .i64 0, fl 0] 92)).heap.size from D5b.out.size)
        clear O4 C4 O5 C5
        go_wp2_with (at_builtin; refine list_append_see rfl _ _ 24 rfl w3.heap.size 92 iI (.agg #[.int .i64 0, .int .i64 0, fl 0]) 3 24 Tryz.underlying24 JI.out.1 JI.out.2.1 JI.out.2.2.1 JI.out.2.2.2 rfl (by decide) _ code.length (insV code) rfl O5b.out (some ⟨w5.heap.size, 0, none⟩) 2 2 rfl [.int .i64 77, .int .i64 0, fl 0, .int .i64 78, .int .i64 0, fl 0] rfl (.inr ⟨_, _, rfl, fun j u hu => by have := HN4.out j u hu; rwa [Addr.add_lit] at this⟩) (ins_one [(77, 0, 0), (78, 0, 0)]) (by have := HB.out; unfold maxLen; omega) (by have := HB.out; omega) HB5.out (fun h => by cases h) ?c4)
        case c4 =>
          intro v4 w6 o6 g6
          have D6 := Lib.hid (D5b.out.grown g6 (fun k hk => .inl (O5b.out.lt k hk).1))
          have C6 := Lib.hid (C3.out.trans D6.out (fun _ _ h => h))
          obtain ⟨gb, cb, rfl, hcb, hgb, hgb2⟩ := own_room o6 (by omega)
          have O6 := Lib.hid o6
          have O3c := Lib.hid (show w6.ownsRow (w.heap.size + 1 + 1) 33 1 (.slice (some ⟨ga, 0, none⟩) (args.length + 2) ca) (args.length + 2) _ from row08_chg O3.out D6.out (fun _ _ h => h))
          have S6 := Lib.hid (show Sees w6 (some ⟨gb, 0, none⟩) (insV code) from by have := (Sees.of_owns O6.out).take (insV code).length; rwa [List.take_left'] at this; rfl)
          have S3 := Lib.hid (show Sees w6 (some ⟨ga, 0, none⟩) (args.map fl) from by have := (Sees.of_owns O3c.out).take (args.map fl).length; rwa [List.take_left'] at this; rfl)
          have hcb1 : code.length ≤ cb := by omega
          have hcb2 : (code.length : Int) ≤ (cb : Int) := by omega
          have hca1 : args.length ≤ ca := by have := HGA.out.1; omega
          have hca2 : (args.length : Int) ≤ (ca : Int) := by omega
          have hq1 : args.length ≤ args.length + 2 := by omega
          have hgab : ga < w3.heap.size := HGA.out.2.2
          have HGB := Lib.hid (And.intro hcb (And.intro hgb hgb2))
          clear o6 g6 O5b D5b HN4 HB5 D5 O3 hcb hgb hgb2
          obtain ⟨i0, i1, i2, i3, j0, j1, z0, z1⟩ := law_cells C6.out
          have I6 := Lib.hid (And.intro i0 (And.intro i1 (And.intro i2 (And.intro i3 j0))))
          clear j1 z0 z1
          go_wp2_with fail
          refine beginL (fun w' => w'.cell? ⟨w.heap.size, 0, none⟩ = some (.int .i64 c) ∧ w'.cell? ⟨w.heap.size, 1, none⟩ = some (.int .i64 t) ∧ w'.cell? ⟨w.heap.size, 2, none⟩ = some (.int .i64 f) ∧ w'.cell? ⟨w.heap.size, 3, none⟩ = some (.int .i64 r) ∧ w'.cell? ⟨w.heap.size + 1, 0, none⟩ = some (.int .i64 tag)) 14 (by kernel_rfl) ⟨(Chg.refl w6 Nothing).drew.cell I6.out.1 id, (Chg.refl w6 Nothing).drew.cell I6.out.2.1 id, (Chg.refl w6 Nothing).drew.cell I6.out.2.2.1 id, (Chg.refl w6 Nothing).drew.cell I6.out.2.2.2.1 id, (Chg.refl w6 Nothing).drew.cell I6.out.2.2.2.2 id⟩ (fun hHeld => ?_)
          refine takeL 0 2 (v := ?_) rfl (by kernel_rfl) (fun _ _ _ h => h) (by rfl) (by assumption) ?_ ?_
          rotate_left
          · (intro w hSw; (try dsimp only at hSw); go_simp; try with_reducible rfl)
          try simp only [Act.put, List.setIfInBounds_toArray, List.set_cons_zero, List.set_cons_succ]
          refine takeL 1 2 (v := ?_) rfl (by kernel_rfl) (fun _ _ _ h => h) (by rfl) (by assumption) ?_ ?_
          rotate_left
          · (intro w hSw; (try dsimp only at hSw); go_simp; try with_reducible rfl)
          try simp only [Act.put, List.setIfInBounds_toArray, List.set_cons_zero, List.set_cons_succ]
          refine takeL 2 2 (v := ?_) rfl (by kernel_rfl) (fun _ _ _ h => h) (by rfl) (by assumption) ?_ ?_
          rotate_left
          · (intro w hSw; (try dsimp only at hSw); go_simp; try with_reducible rfl)
          try simp only [Act.put, List.setIfInBounds_toArray, List.set_cons_zero, List.set_cons_succ]
          refine takeL 3 2 (v := ?_) rfl (by kernel_rfl) (fun _ _ _ h => h) (by rfl) (by assumption) ?_ ?_
          rotate_left
          · (intro w hSw; (try dsimp only at hSw); go_simp; try with_reducible rfl)
          try simp only [Act.put, List.setIfInBounds_toArray, List.set_cons_zero, List.set_cons_succ]
          refine takeL 4 2 (v := ?_) rfl (by kernel_rfl) (fun _ _ _ h => h) (by rfl) (by assumption) ?_ ?_
          rotate_left
          · (intro w hSw; (try dsimp only at hSw); go_simp; try with_reducible rfl)
          try simp only [Act.put, List.setIfInBounds_toArray, List.set_cons_zero, List.set_cons_succ]
          refine takeL 5 2 (v := ?_) rfl (by kernel_rfl) (fun _ _ _ h => h) (by rfl) (by assumption) ?_ ?_
          rotate_left
          · (intro w hSw; (try dsimp only at hSw); go_simp; try with_reducible rfl)
          try simp only [Act.put, List.setIfInBounds_toArray, List.set_cons_zero, List.set_cons_succ]
          refine takeL 6 2 (v := ?_) rfl (by kernel_rfl) (fun _ _ _ h => h) (by rfl) (by assumption) ?_ ?_
          rotate_left
          · (intro w hSw; (try dsimp only at hSw); go_simp; try with_reducible rfl)
          try simp only [Act.put, List.setIfInBounds_toArray, List.set_cons_zero, List.set_cons_succ]
          refine takeL 7 2 (v := ?_) rfl (by kernel_rfl) (fun _ _ _ h => h) (by rfl) (by assumption) ?_ ?_
          rotate_left
          · (intro w hSw; (try dsimp only at hSw); go_simp; try with_reducible rfl)
          try simp only [Act.put, List.setIfInBounds_toArray, List.set_cons_zero, List.set_cons_succ]
          refine takeL 8 2 (v := ?_) rfl (by kernel_rfl) (fun _ _ _ h => h) (by rfl) (by assumption) ?_ ?_
          rotate_left
          · (intro w hSw; (try dsimp only at hSw); go_simp; try with_reducible rfl)
          try simp only [Act.put, List.setIfInBounds_toArray, List.set_cons_zero, List.set_cons_succ]
          refine takeL 9 2 (v := ?_) rfl (by kernel_rfl) (fun _ _ _ h => h) (by rfl) (by assumption) ?_ ?_
          rotate_left
          · (intro w hSw; (try dsimp only at hSw); go_simp; try with_reducible rfl)
          try simp only [Act.put, List.setIfInBounds_toArray, List.set_cons_zero, List.set_cons_succ]
          refine takeL 10 2 (v := ?_) rfl (by kernel_rfl) (fun _ _ _ h => h) (by rfl) (by assumption) ?_ ?_
          rotate_left
          · (intro w hSw; (try dsimp only at hSw); go_simp; try with_reducible rfl)
          try simp only [Act.put, List.setIfInBounds_toArray, List.set_cons_zero, List.set_cons_succ]
          refine takeL 11 2 (v := ?_) rfl (by kernel_rfl) (fun _ _ _ h => h) (by rfl) (by assumption) ?_ ?_
          rotate_left
          · (intro w hSw; (try dsimp only at hSw); go_simp; try with_reducible rfl)
          try simp only [Act.put, List.setIfInBounds_toArray, List.set_cons_zero, List.set_cons_succ]
          refine oneL 12 rfl (by kernel_rfl) (by rfl) (fun K hK => ?_)
          go_simp
          go_at_call 15
          refine (mnew_good c t f r tag (some ⟨gb, 0, none⟩) cb code (some ⟨ga, 0, none⟩) ca args _ HCF.out.1 HCF.out.2 (by have := HB.out; omega) (S6.out.chg (Chg.refl w6 Nothing).drew) (S3.out.chg (Chg.refl w6 Nothing).drew)).mono ?_
          rintro e w7 ⟨m, rfl, hm, hc7⟩
          have D7 := Lib.hid (show Chg w6 w7 Nothing from ((Chg.refl w6 Nothing).drew).trans hc7 (fun _ _ h => h))
          have M7 := Lib.hid (show Ma w7 m (fun k => w6.heap.size ≤ k ∧ k < w7.heap.size) (mc0 c t f r tag code args) from hm)
          clear hm hc7
          go_wp2_with fail
          refine hK.out _ _ ⟨D7.out.cell I6.out.1 id, D7.out.cell I6.out.2.1 id, D7.out.cell I6.out.2.2.1 id, D7.out.cell I6.out.2.2.2.1 id, D7.out.cell I6.out.2.2.2.2 id⟩ (fun hHeld => ?_)
          clear hK K
          try simp only [Act.put, List.setIfInBounds_toArray, List.set_cons_zero, List.set_cons_succ]
          refine takeL 13 2 (v := ?_) rfl (by kernel_rfl) (fun _ _ _ h => h) (by rfl) (by assumption) ?_ ?_
          rotate_left
          · (intro w hSw; (try dsimp only at hSw); go_simp; try with_reducible rfl)
          try simp only [Act.put, List.setIfInBounds_toArray, List.set_cons_zero, List.set_cons_succ]
          refine doneL (by kernel_rfl) ?_ _
          have C7 := Lib.hid (C6.out.trans D7.out (fun _ _ h => h))
          clear i0 i1 i2 i3 j0
          obtain ⟨i0, i1, i2, i3, j0, j1, z0, z1⟩ := law_cells C7.out
          have HCW := Lib.hid (law_old C7.out)
          go_wp2_with fail
          refine (rnew_good c t f r tag ac cc code aa na args (CodeB ac code) _ HCF.out.1 HCF.out.2 (fun k hk => Nat.lt_of_lt_of_le (HC.out.1 k hk) HCW.out.size) (HC.out.2.move (fun b hb => ⟨hb, HCW.out.block b (HC.out.1 b hb) id⟩)) (HA.out.chg HCW.out)).mono ?_
          rintro e w8 ⟨q, lb, rfl, hrm, hq, hlb, hc8⟩
          have D8 := Lib.hid hc8
          have R8 := Lib.hid hrm
          have Q8 := Lib.hid (And.intro hq hlb)
          have OB := Lib.hid (row08_chg (row08_chg O6.out D7.out (fun _ _ h => h)) D8.out (fun _ _ h => h))
          have OA := Lib.hid (row08_chg (row08_chg O3c.out D7.out (fun _ _ h => h)) D8.out (fun _ _ h => h))
          have SZ := Lib.hid (show w.heap.size ≤ w6.heap.size ∧ w6.heap.size ≤ w7.heap.size ∧ w7.heap.size ≤ w8.heap.size ∧ w3.heap.size ≤ w6.heap.size from ⟨(law_old C6.out).size, D7.out.size, D8.out.size, D6.out.size⟩)
          clear hc8 hrm hq hlb i0 i1 i2 i3 j0 j1 z0 z1 hHeld S6 S3 C6 O6 O3c
          go_wp2_with fail
          have hbd1 : code.length + 2 ≤ 9000000000000000 := by have := HB.out; omega
          have hbd2 : args.length + 2 ≤ 90000000000000000 := by have := HAB.out; omega
          go_loopg [69] (code.length + 2) (fun k i wr => ∃ n xs, n + k = code.length + 2 ∧ i = .int .i64 ((n : Nat) : Int) ∧ wr.ownsRow w3.heap.size 92 3 (.slice (some ⟨gb, 0, none⟩) (code.length + 2) cb) (code.length + 2) xs ∧ Chg w8 wr (fun k => k = gb))
          case atStart => exact ⟨0, _, by simp, rfl, OB.out, Chg.refl _ _⟩
          case round =>
            obtain ⟨n, xs, hn, rfl, hrow, hcr⟩ := hrel
            have RW := Lib.hid hrow
            have CR := Lib.hid hcr
            clear hrow hcr
            by_cases hlt : n < code.length + 2
            · have hd : decide (n < code.length + 2) = true := by simpa using hlt
              have hd2 : decide ((n : Int) < (code.length : Int) + 2) = true := decide_eq_true (by omega)
              have hlx : xs.length = (code.length + 2) * 3 := RW.out.1
              obtain ⟨u0, hu0⟩ : ∃ u, xs[n * 3]? = some u := ⟨_, List.getElem?_eq_getElem (by omega)⟩
              have x0 := RW.out.cells (g := gb) rfl _ _ hu0
              obtain ⟨u1, hu1⟩ : ∃ u, xs[n * 3 + 1]? = some u := ⟨_, List.getElem?_eq_getElem (by omega)⟩
              have x1 := RW.out.cells (g := gb) rfl _ _ hu1
              obtain ⟨u2, hu2⟩ : ∃ u, xs[n * 3 + 2]? = some u := ⟨_, List.getElem?_eq_getElem (by omega)⟩
              have x2 := RW.out.cells (g := gb) rfl _ _ hu2
              rw [Addr.add_lit, Nat.zero_add] at x0 x1 x2
              have f0 : wr.frozen? ⟨gb, n * 3, none⟩ = false := RW.out.frozenAt _
              have f1 : wr.frozen? ⟨gb, n * 3 + 1, none⟩ = false := RW.out.frozenAt _
              have f2 : wr.frozen? ⟨gb, n * 3 + 2, none⟩ = false := RW.out.frozenAt _
              have R1 := Lib.hid (((RW.out.stored (n * 3) (.int .i64 19)).1.stored (n * 3 + 1) (.int .i64 50)).1.stored (n * 3 + 2) (.float .f64 0)).1
              have C1 := Lib.hid (((CR.out.setCell (a := ⟨gb, n * 3, none⟩) (.inr rfl) (.int .i64 19)).setCell (a := ⟨gb, n * 3 + 1, none⟩) (.inr rfl) (.int .i64 50)).setCell (a := ⟨gb, n * 3 + 2, none⟩) (.inr rfl) (.float .f64 0))
              clear hlx hu0 hu1 hu2
              go_wp2_with fail
              go_roundg (gk - 1)
              case measure => omega
              case rel => exact ⟨n + 1, _, by omega, by go_num, R1.out, C1.out⟩
            · have hd : decide (n < code.length + 2) = false := by simpa using hlt
              have hd2 : decide ((n : Int) < (code.length : Int) + 2) = false := decide_eq_false (by omega)
              have OA1 := Lib.hid (ownsRow_heap OA.out (fun k hk => CR.out.block k (OA.out.lt k hk).2 (by simp [Value.ownBlock] at hk; have := HGB.out.2.1; have := HGA.out.2.2; omega)))
              have SR := Lib.hid CR.out.size
              clear hn hlt RW
              go_wp2_with fail
              obtain ⟨wA, rfl⟩ : ∃ wA, wA = wr := ⟨_, rfl⟩
              go_loopg [79] (args.length + 2) (fun k i wr => ∃ n xs, n + k = args.length + 2 ∧ i = .int .i64 ((n : Nat) : Int) ∧ wr.ownsRow (w.heap.size + 1 + 1) 33 1 (.slice (some ⟨ga, 0, none⟩) (args.length + 2) ca) (args.length + 2) xs ∧ Chg wA wr (fun k => k = ga))
              case atStart => exact ⟨0, _, by simp, rfl, OA1.out, Chg.refl _ _⟩
              case round =>
                obtain ⟨n, xs, hn, rfl, hrow, hcr⟩ := hrel
                have RW := Lib.hid hrow
                have CR2 := Lib.hid hcr
                clear hrow hcr
                by_cases hlt : n < args.length + 2
                · have hd : decide (n < args.length + 2) = true := by simpa using hlt
                  have hd2 : decide ((n : Int) < (args.length : Int) + 2) = true := decide_eq_true (by omega)
                  have hlx : xs.length = (args.length + 2) * 1 := RW.out.1
                  obtain ⟨u0, hu0⟩ : ∃ u, xs[n]? = some u := ⟨_, List.getElem?_eq_getElem (by omega)⟩
                  have x0 := RW.out.cells (g := ga) rfl _ _ hu0
                  rw [Addr.add_lit, Nat.zero_add] at x0
                  have f0 : wr.frozen? ⟨ga, n, none⟩ = false := RW.out.frozenAt _
                  have R1 := Lib.hid (RW.out.stored n (.float .f64 13858561215837503488)).1
                  have C1 := Lib.hid (CR2.out.setCell (a := ⟨ga, n, none⟩) (.inr rfl) (.float .f64 13858561215837503488))
                  clear hlx hu0
                  go_wp2_with fail
                  go_roundg (gk - 1)
                  case measure => omega
                  case rel => exact ⟨n + 1, _, by omega, by go_num, R1.out, C1.out⟩
                · have hd : decide (n < args.length + 2) = false := by simpa using hlt
                  have hd2 : decide ((n : Int) < (args.length : Int) + 2) = false := decide_eq_false (by omega)
                  have BO := Lib.hid (show Both w (wr.alloc (.cells #[.pointer (some ⟨m, 0, none⟩), .pointer (some ⟨q, 0, none⟩), .int .i64 0] 57)) wr.heap.size m q lb (fun k => w6.heap.size ≤ k ∧ k < w7.heap.size) (NewR (CodeB ac code) w7 w8 q lb) (mc0 c t f r tag code args) 0 from by
                    have z8 := SZ.out
                    have zr := SR.out
                    have zr2 := CR2.out.size
                    have hgb := HGB.out.2
                    have hga := HGA.out.2
                    have hq := R8.out.qlt
                    have hq8 := Q8.out
                    have hcb := HC.out.1
                    have hchg : Chg w8 wr (fun k => k = gb ∨ k = ga) := (CR.out.mono (fun k _ h => .inl h)).trans (CR2.out.mono (fun k _ h => .inr h)) (fun k _ h => h)
                    refine ⟨heap_alloc_new wr _, ((M7.out.quiet D8.out).chg hchg (fun k hk e => by omega)).quiet ((Chg.refl _ _).alloc _), (R8.out.chg hchg (fun k hk e => ?_)).quiet ((Chg.refl _ _).alloc _), mc0_fine HCF.out.1 HX.out HAX.out, mc0_hok .., fun k hk => ⟨by omega, by omega, by omega, fun hR => ?_⟩, ⟨by omega, by omega, fun hR => ?_⟩, ⟨by omega, by omega, by omega, fun k hk => by omega⟩, ?_⟩
                    · rcases hk with rfl | rfl | hk
                      · omega
                      · omega
                      · rcases hk with hk | hk
                        · have := hcb k hk; omega
                        · omega
                    · rcases hR with hR | hR
                      · have := hcb k hR; omega
                      · omega
                    · rcases hR with hR | hR
                      · have := hcb _ hR; omega
                      · omega
                    · exact ((HCW.out.trans D8.out (fun _ _ h => h)).trans hchg (fun k hk e => by omega)).alloc _)
                  clear hn hlt
                  go_wp2_with fail
                  go_ret2
                  exact ⟨_, _, _, _, _, _, rfl, BO.out⟩
theorem begun_bad (c t f r tag : Int) (ac : Option Addr) (cc : Nat) (code : List Ins) (aa : Option Addr) (na : Nat) (args : List Nat) (w : World)
    (hb : (code.length + 2) * 24 ≤ 140737488355328) (hab : (args.length + 2) * 8 ≤ 140737488355328) (hs : Sees w ac (insV code)) (hc : (∀ k, CodeB ac code k → k < w.heap.size) ∧ RRow w (CodeB ac code) (.slice ac code.length cc) code.length 3 (insV code)) (ha : Sees w aa (args.map fl)) (hac : ac = none → cc = 0) (haa : aa = none → na = 0) (hcl : code.length ≤ cc) (hal : args.length ≤ na)
    (hx : ∀ i ∈ code, i.2.2 < 18446744073709551616) (hax : ∀ y ∈ args, y < 18446744073709551616) (hcfg : ¬ (CfgOk c t f r ∧ args.length ≤ 8)) :
    Calls Tryz.prog 30 #[.agg #[.int .i64 c, .int .i64 t, .int .i64 f, .int .i64 r], .agg #[.int .i64 tag, .slice ac code.length cc], .slice aa args.length na] w fun e w' => e = .returned (.tuple #[.pointer none, .bool true]) ∧ Chg w w' Nothing := by
  obtain ⟨iF, jF, jF2, jF3, jF4⟩ := info_parts (show (Tryz.prog.info? 33).map (fun i => (i.zero, i.size, i.bytes)) = some (some (fl 0), 1, 8) by kernel_rfl)
  obtain ⟨iI, jI, jI2, jI3, jI4⟩ := info_parts (show (Tryz.prog.info? 92).map (fun i => (i.zero, i.size, i.bytes)) = some (some (.agg #[.int .i64 0, .int .i64 0, fl 0]), 3, 24) by kernel_rfl)
  have JF := Lib.hid (And.intro jF (And.intro jF2 (And.intro jF3 jF4)))
  have JI := Lib.hid (And.intro jI (And.intro jI2 (And.intro jI3 jI4)))
  clear jF jF2 jF3 jF4 jI jI2 jI3 jI4
  have hw1 : IntKind.i64.wrap ((args.length : Int) + 2) = ((args.length + 2 : Nat) : Int) := (IntWalk.i64_in ((args.length : Int) + 2) (by omega)).trans (by omega)
  have hw2 : IntKind.i64.wrap ((code.length : Int) + 2) = ((code.length + 2 : Nat) : Int) := (IntWalk.i64_in ((code.length : Int) + 2) (by omega)).trans (by omega)
  have HCF := Lib.hid hcfg
  have HB := Lib.hid hb
  have HAB := Lib.hid hab
  have HS := Lib.hid hs
  have HC := Lib.hid hc
  have HA := Lib.hid ha
  have HAC := Lib.hid hac
  have HAA := Lib.hid haa
  have HX := Lib.hid hx
  have HAX := Lib.hid hax
  have HCL := Lib.hid hcl
  have HAL := Lib.hid hal
  have C0 := Lib.hid (Chg.refl ((w.alloc (cfgBx c t f r)).alloc (prgBx tag ac code.length cc)) Nothing)
  have hz0 : ((w.alloc (cfgBx c t f r)).alloc (prgBx tag ac code.length cc)).heap.size = w.heap.size + 1 + 1 := by simp
  have HZ0 := Lib.hid hz0
  have HSW := Lib.hid (Sees.chg hs (((Chg.refl w Nothing).alloc (cfgBx c t f r)).alloc (prgBx tag ac code.length cc)))
  have HAW := Lib.hid (Sees.chg ha (((Chg.refl w Nothing).alloc (cfgBx c t f r)).alloc (prgBx tag ac code.length cc)))
  clear hcfg hb hab hs hc ha hac haa hx hax hcl hal hz0
  go_enter Tryz.func30, Tryz.ntmps30
  go_wp2_with (at_make; refine wpList_make_own _ rfl _ _ 27 rfl (w.heap.size + 1 + 1) 33 iF (fl 0) 1 Tryz.underlying27 JF.out.1 JF.out.2.1 JF.out.2.2.1 .i64 .i64 _ (args.length + 2) rfl rfl (by first | rfl | (push_cast; rfl)) (by rw [JF.out.2.2.2]; have := HAB.out; omega) (by have := HAB.out; unfold maxLen; omega) (by simp) ?c1)
  case c1 =>
    intro w1 o1 g1
    have C1 := Lib.hid (show Chg ((w.alloc (cfgBx c t f r)).alloc (prgBx tag ac code.length cc)) w1 Nothing from (Chg.refl _ Nothing).grown g1 (by simp))
    have O1 := Lib.hid o1
    clear o1 g1
    go_wp2_with (at_builtin; refine list_append_see rfl _ _ 27 rfl (w.heap.size + 1 + 1) 33 iF (fl 0) 1 8 Tryz.underlying27 JF.out.1 JF.out.2.1 JF.out.2.2.1 JF.out.2.2.2 rfl (by decide) _ 0 [] rfl O1.out aa args.length na rfl (args.map fl) (by simp) (HAW.out.chg C1.out) (fls_one args) (by have := HAB.out; unfold maxLen; omega) (by have := HAB.out; omega) (by have := C1.out.size; have := HZ0.out; omega) HAA.out ?c2)
    case c2 =>
      intro v1 w2 o2 g2
      have C2 := Lib.hid (C1.out.grown g2 (fun k hk => .inl (by have := (O1.out.lt k hk).1; have := HZ0.out; omega)))
      try simp only [Nat.zero_add, List.nil_append] at o2
      obtain ⟨⟨p1, d1, rfl⟩, -⟩ := ownsRow_shape o2
      have hpd := own_cap o2 _ _ rfl
      have O2 := Lib.hid o2
      clear o2 g2 C1 O1
      have HN2 := Lib.hid (World.news_of_block (cs := #[fl 4635118810238550016, fl 4635189178982727680]) (t := 33) (fr := (0, 0)) (w := w2.alloc (.cells #[fl 4635118810238550016, fl 4635189178982727680] 33)) (heap_alloc_new w2 _))
      have O2b := Lib.hid (row08_chg O2.out ((Chg.refl w2 Nothing).alloc (.cells #[fl 4635118810238550016, fl 4635189178982727680] 33)) (fun _ _ h => h))
      have C2b := Lib.hid (C2.out.alloc (.cells #[fl 4635118810238550016, fl 4635189178982727680] 33))
      have HB3 := Lib.hid (show w.heap.size + 1 + 1 ≤ (w2.alloc (.cells #[fl 4635118810238550016, fl 4635189178982727680] 33)).heap.size by have := C2b.out.size; have := HZ0.out; omega)
      go_wp2_with (at_builtin; refine list_append_see rfl _ _ 27 rfl (w.heap.size + 1 + 1) 33 iF (fl 0) 1 8 Tryz.underlying27 JF.out.1 JF.out.2.1 JF.out.2.2.1 JF.out.2.2.2 rfl (by decide) _ args.length (args.map fl) rfl O2b.out (some ⟨w2.heap.size, 0, none⟩) 2 2 rfl [fl 4635118810238550016, fl 4635189178982727680] rfl (.inr ⟨_, _, rfl, fun j u hu => by have := HN2.out j u hu; rwa [Addr.add_lit] at this⟩) (fls_one [4635118810238550016, 4635189178982727680]) (by have := HAB.out; unfold maxLen; omega) (by have := HAB.out; omega) HB3.out (fun h => by cases h) ?c3)
      case c3 =>
        intro v2 w3 o3 g3
        have C3 := Lib.hid (C2b.out.grown g3 (fun k hk => .inl (by have := (O2b.out.lt k hk).1; have := HZ0.out; omega)))
        obtain ⟨ga, ca, rfl, hca, hga, hga2⟩ := own_room o3 (by omega)
        have O3 := Lib.hid o3
        have HGA := Lib.hid (And.intro hca (And.intro hga hga2))
        clear o3 g3 C2 C2b O2 O2b HN2 hca hga hga2
        obtain ⟨i0, i1, i2, i3, j0, j1, z0, z1⟩ := law_cells C3.out
        have J1 := Lib.hid j1
        clear i0 i1 i2 i3 j0 z0 z1
        go_wp2_with fail
        refine beginL (fun w' => w'.cell? ⟨w.heap.size + 1, 1, none⟩ = some (.slice ac code.length cc)) 9 (by kernel_rfl) ((Chg.refl w3 Nothing).drew.cell J1.out id) (fun hHeld => ?_)
        refine takeL 0 2 (v := ?_) rfl (by kernel_rfl) (fun _ _ _ h => h) (by rfl) (by assumption) ?_ ?_
        rotate_left
        · (intro w hSw; (try dsimp only at hSw); go_simp; try with_reducible rfl)
        try simp only [Act.put, List.setIfInBounds_toArray, List.set_cons_zero, List.set_cons_succ]
        refine takeL 1 2 (v := ?_) rfl (by kernel_rfl) (fun _ _ _ h => h) (by rfl) (by assumption) ?_ ?_
        rotate_left
        · (intro w hSw; (try dsimp only at hSw); go_simp; try with_reducible rfl)
        try simp only [Act.put, List.setIfInBounds_toArray, List.set_cons_zero, List.set_cons_succ]
        refine takeL 2 2 (v := ?_) rfl (by kernel_rfl) (fun _ _ _ h => h) (by rfl) (by assumption) ?_ ?_
        rotate_left
        · (intro w hSw; (try dsimp only at hSw); go_simp; try with_reducible rfl)
        try simp only [Act.put, List.setIfInBounds_toArray, List.set_cons_zero, List.set_cons_succ]
        refine takeL 3 2 (v := ?_) rfl (by kernel_rfl) (fun _ _ _ h => h) (by rfl) (by assumption) ?_ ?_
        rotate_left
        · (intro w hSw; (try dsimp only at hSw); go_simp; try with_reducible rfl)
        try simp only [Act.put, List.setIfInBounds_toArray, List.set_cons_zero, List.set_cons_succ]
        refine takeL 5 2 (v := ?_) rfl (by kernel_rfl) (fun _ _ _ h => h) (by rfl) (by assumption) ?_ ?_
        rotate_left
        · (intro w hSw; (try dsimp only at hSw); go_simp; try with_reducible rfl)
        try simp only [Act.put, List.setIfInBounds_toArray, List.set_cons_zero, List.set_cons_succ]
        refine takeL 6 2 (v := ?_) rfl (by kernel_rfl) (fun _ _ _ h => h) (by rfl) (by assumption) ?_ ?_
        rotate_left
        · (intro w hSw; (try dsimp only at hSw); go_simp; try with_reducible rfl)
        try simp only [Act.put, List.setIfInBounds_toArray, List.set_cons_zero, List.set_cons_succ]
        refine oneL 4 rfl (by kernel_rfl) (by rfl) (fun K hK => ?_)
        refine step_make_room (by rfl) _ _ 24 (by rfl) w3.heap.size 92 iI (.agg #[.int .i64 0, .int .i64 0, fl 0]) 3 Tryz.underlying24 JI.out.1 JI.out.2.1 JI.out.2.2.1 .i64 .i64 _ (code.length + 2) (by rfl) (by rfl) (by first | rfl | (push_cast; rfl)) (by rw [JI.out.2.2.2]; have := HB.out; omega) (by have := HB.out; unfold maxLen; omega) (Nat.le_refl _) ?_
        intro w4 o4 g4
        have C4 := Lib.hid (show Chg w3 w4 Nothing from (Chg.refl w3 Nothing).drew.grown g4 (by simp))
        have O4 := Lib.hid o4
        clear o4 g4
        refine hK.out _ _ (C4.out.cell J1.out id) (fun hHeld => ?_)
        clear hK K
        try simp only [Act.put, List.setIfInBounds_toArray, List.set_cons_zero, List.set_cons_succ]
        refine oneL 7 rfl (by kernel_rfl) (by rfl) (fun K hK => ?_)
        refine step_append_see (by rfl) _ _ 24 (by rfl) w3.heap.size 92 iI (.agg #[.int .i64 0, .int .i64 0, fl 0]) 3 24 Tryz.underlying24 JI.out.1 JI.out.2.1 JI.out.2.2.1 JI.out.2.2.2 rfl (by decide) _ 0 [] (by rfl) O4.out ac code.length cc (by rfl) (insV code) (insV_len code) ((HSW.out.chg C3.out).chg C4.out) (ins_one code) (by have := HB.out; unfold maxLen; omega) (by have := HB.out; omega) C4.out.size HAC.out ?_
        intro v3 w5 o5 g5
        have D5 := Lib.hid (C4.out.grown g5 (fun k hk => .inl (O4.out.lt k hk).1))
        have C5 := Lib.hid (C3.out.trans D5.out (fun _ _ h => h))
        try simp only [Nat.zero_add, List.nil_append] at o5
        have O5 := Lib.hid o5
        clear o5 g5
        refine hK.out _ _ (law_cells C5.out).2.2.2.2.2.1 (fun hHeld => ?_)
        clear hK K
        try simp only [Act.put, List.setIfInBounds_toArray, List.set_cons_zero, List.set_cons_succ]
        refine takeL 8 2 (v := ?_) rfl (by kernel_rfl) (fun _ _ _ h => h) (by rfl) (by assumption) ?_ ?_
        rotate_left
        · (intro w hSw; (try dsimp only at hSw); go_simp; try with_reducible rfl)
        try simp only [Act.put, List.setIfInBounds_toArray, List.set_cons_zero, List.set_cons_succ]
        refine doneL (by kernel_rfl) ?_ _
        clear j1
        obtain ⟨gk0, ck0, hv3, hck⟩ : ∃ a c, v3 = .slice a code.length c ∧ code.length ≤ c := by obtain ⟨a, c, rfl⟩ := (ownsRow_shape O5.out).1; exact ⟨a, c, rfl, (own_cap O5.out _ _ rfl).1⟩
        subst hv3
        have HN4 := Lib.hid (World.news_of_block (cs := #[.int .i64 77, .int .i64 0, fl 0, .int .i64 78, .int .i64 0, fl 0]) (t := 92) (fr := (0, 0)) (w := w5.alloc (.cells #[.int .i64 77, .int .i64 0, fl 0, .int .i64 78, .int .i64 0, fl 0] 92)) (heap_alloc_new w5 _))
        have O5b := Lib.hid (row08_chg O5.out ((Chg.refl w5 Nothing).alloc (.cells #[.int .i64 77, .int .i64 0, fl 0, .int .i64 78, .int .i64 0, fl 0] 92)) (fun _ _ h => h))
        have D5b := Lib.hid (D5.out.alloc (.cells #[.int .i64 77, .int .i64 0, fl 0, .int .i64 78, .int .i64 0, fl 0] 92))
        have HB5 := Lib.hid (show w3.heap.size ≤ (w5.alloc (.cells #[.int .i64 77, .int .i64 0, fl 0, .int .i64 78, .int .i64 0, fl 0] 92)).heap.size from D5b.out.size)
        clear O4 C4 O5 C5
        go_wp2_with (at_builtin; refine list_append_see rfl _ _ 24 rfl w3.heap.size 92 iI (.agg #[.int .i64 0, .int .i64 0, fl 0]) 3 24 Tryz.underlying24 JI.out.1 JI.out.2.1 JI.out.2.2.1 JI.out.2.2.2 rfl (by decide) _ code.length (insV code) rfl O5b.out (some ⟨w5.heap.size, 0, none⟩) 2 2 rfl [.int .i64 77, .int .i64 0, fl 0, .int .i64 78, .int .i64 0, fl 0] rfl (.inr ⟨_, _, rfl, fun j u hu => by have := HN4.out j u hu; rwa [Addr.add_lit] at this⟩) (ins_one [(77, 0, 0), (78, 0, 0)]) (by have := HB.out; unfold maxLen; omega) (by have := HB.out; omega) HB5.out (fun h => by cases h) ?c4)
        case c4 =>
          intro v4 w6 o6 g6
          have D6 := Lib.hid (D5b.out.grown g6 (fun k hk => .inl (O5b.out.lt k hk).1))
          have C6 := Lib.hid (C3.out.trans D6.out (fun _ _ h => h))
          obtain ⟨gb, cb, rfl, hcb, hgb, hgb2⟩ := own_room o6 (by omega)
          have O6 := Lib.hid o6
          have O3c := Lib.hid (show w6.ownsRow (w.heap.size + 1 + 1) 33 1 (.slice (some ⟨ga, 0, none⟩) (args.length + 2) ca) (args.length + 2) _ from row08_chg O3.out D6.out (fun _ _ h => h))
          have S6 := Lib.hid (show Sees w6 (some ⟨gb, 0, none⟩) (insV code) from by have := (Sees.of_owns O6.out).take (insV code).length; rwa [List.take_left'] at this; rfl)
          have S3 := Lib.hid (show Sees w6 (some ⟨ga, 0, none⟩) (args.map fl) from by have := (Sees.of_owns O3c.out).take (args.map fl).length; rwa [List.take_left'] at this; rfl)
          have hcb1 : code.length ≤ cb := by omega
          have hcb2 : (code.length : Int) ≤ (cb : Int) := by omega
          have hca1 : args.length ≤ ca := by have := HGA.out.1; omega
          have hca2 : (args.length : Int) ≤ (ca : Int) := by omega
          have hq1 : args.length ≤ args.length + 2 := by omega
          have hgab : ga < w3.heap.size := HGA.out.2.2
          have HGB := Lib.hid (And.intro hcb (And.intro hgb hgb2))
          clear o6 g6 O5b D5b HN4 HB5 D5 O3 hcb hgb hgb2
          obtain ⟨i0, i1, i2, i3, j0, j1, z0, z1⟩ := law_cells C6.out
          have I6 := Lib.hid (And.intro i0 (And.intro i1 (And.intro i2 (And.intro i3 j0))))
          clear j1 z0 z1
          go_wp2_with fail
          refine beginL (fun w' => w'.cell? ⟨w.heap.size, 0, none⟩ = some (.int .i64 c) ∧ w'.cell? ⟨w.heap.size, 1, none⟩ = some (.int .i64 t) ∧ w'.cell? ⟨w.heap.size, 2, none⟩ = some (.int .i64 f) ∧ w'.cell? ⟨w.heap.size, 3, none⟩ = some (.int .i64 r) ∧ w'.cell? ⟨w.heap.size + 1, 0, none⟩ = some (.int .i64 tag)) 14 (by kernel_rfl) ⟨(Chg.refl w6 Nothing).drew.cell I6.out.1 id, (Chg.refl w6 Nothing).drew.cell I6.out.2.1 id, (Chg.refl w6 Nothing).drew.cell I6.out.2.2.1 id, (Chg.refl w6 Nothing).drew.cell I6.out.2.2.2.1 id, (Chg.refl w6 Nothing).drew.cell I6.out.2.2.2.2 id⟩ (fun hHeld => ?_)
          refine takeL 0 2 (v := ?_) rfl (by kernel_rfl) (fun _ _ _ h => h) (by rfl) (by assumption) ?_ ?_
          rotate_left
          · (intro w hSw; (try dsimp only at hSw); go_simp; try with_reducible rfl)
          try simp only [Act.put, List.setIfInBounds_toArray, List.set_cons_zero, List.set_cons_succ]
          refine takeL 1 2 (v := ?_) rfl (by kernel_rfl) (fun _ _ _ h => h) (by rfl) (by assumption) ?_ ?_
          rotate_left
          · (intro w hSw; (try dsimp only at hSw); go_simp; try with_reducible rfl)
          try simp only [Act.put, List.setIfInBounds_toArray, List.set_cons_zero, List.set_cons_succ]
          refine takeL 2 2 (v := ?_) rfl (by kernel_rfl) (fun _ _ _ h => h) (by rfl) (by assumption) ?_ ?_
          rotate_left
          · (intro w hSw; (try dsimp only at hSw); go_simp; try with_reducible rfl)
          try simp only [Act.put, List.setIfInBounds_toArray, List.set_cons_zero, List.set_cons_succ]
          refine takeL 3 2 (v := ?_) rfl (by kernel_rfl) (fun _ _ _ h => h) (by rfl) (by assumption) ?_ ?_
          rotate_left
          · (intro w hSw; (try dsimp only at hSw); go_simp; try with_reducible rfl)
          try simp only [Act.put, List.setIfInBounds_toArray, List.set_cons_zero, List.set_cons_succ]
          refine takeL 4 2 (v := ?_) rfl (by kernel_rfl) (fun _ _ _ h => h) (by rfl) (by assumption) ?_ ?_
          rotate_left
          · (intro w hSw; (try dsimp only at hSw); go_simp; try with_reducible rfl)
          try simp only [Act.put, List.setIfInBounds_toArray, List.set_cons_zero, List.set_cons_succ]
          refine takeL 5 2 (v := ?_) rfl (by kernel_rfl) (fun _ _ _ h => h) (by rfl) (by assumption) ?_ ?_
          rotate_left
          · (intro w hSw; (try dsimp only at hSw); go_simp; try with_reducible rfl)
          try simp only [Act.put, List.setIfInBounds_toArray, List.set_cons_zero, List.set_cons_succ]
          refine takeL 6 2 (v := ?_) rfl (by kernel_rfl) (fun _ _ _ h => h) (by rfl) (by assumption) ?_ ?_
          rotate_left
          · (intro w hSw; (try dsimp only at hSw); go_simp; try with_reducible rfl)
          try simp only [Act.put, List.setIfInBounds_toArray, List.set_cons_zero, List.set_cons_succ]
          refine takeL 7 2 (v := ?_) rfl (by kernel_rfl) (fun _ _ _ h => h) (by rfl) (by assumption) ?_ ?_
          rotate_left
          · (intro w hSw; (try dsimp only at hSw); go_simp; try with_reducible rfl)
          try simp only [Act.put, List.setIfInBounds_toArray, List.set_cons_zero, List.set_cons_succ]
          refine takeL 8 2 (v := ?_) rfl (by kernel_rfl) (fun _ _ _ h => h) (by rfl) (by assumption) ?_ ?_
          rotate_left
          · (intro w hSw; (try dsimp only at hSw); go_simp; try with_reducible rfl)
          try simp only [Act.put, List.setIfInBounds_toArray, List.set_cons_zero, List.set_cons_succ]
          refine takeL 9 2 (v := ?_) rfl (by kernel_rfl) (fun _ _ _ h => h) (by rfl) (by assumption) ?_ ?_
          rotate_left
          · (intro w hSw; (try dsimp only at hSw); go_simp; try with_reducible rfl)
          try simp only [Act.put, List.setIfInBounds_toArray, List.set_cons_zero, List.set_cons_succ]
          refine takeL 10 2 (v := ?_) rfl (by kernel_rfl) (fun _ _ _ h => h) (by rfl) (by assumption) ?_ ?_
          rotate_left
          · (intro w hSw; (try dsimp only at hSw); go_simp; try with_reducible rfl)
          try simp only [Act.put, List.setIfInBounds_toArray, List.set_cons_zero, List.set_cons_succ]
          refine takeL 11 2 (v := ?_) rfl (by kernel_rfl) (fun _ _ _ h => h) (by rfl) (by assumption) ?_ ?_
          rotate_left
          · (intro w hSw; (try dsimp only at hSw); go_simp; try with_reducible rfl)
          try simp only [Act.put, List.setIfInBounds_toArray, List.set_cons_zero, List.set_cons_succ]
          refine oneL 12 rfl (by kernel_rfl) (by rfl) (fun K hK => ?_)
          go_simp
          go_at_call 15
          refine (mnew_bad c t f r tag (some ⟨gb, 0, none⟩) code.length cb (some ⟨ga, 0, none⟩) args.length ca _ HCF.out).mono ?_
          rintro e w7 ⟨rfl, hc7⟩
          have D7 := Lib.hid (show Chg w6 w7 Nothing from ((Chg.refl w6 Nothing).drew).trans hc7 (fun _ _ h => h))
          clear hc7
          go_wp2_with fail
          refine hK.out _ _ ⟨D7.out.cell I6.out.1 id, D7.out.cell I6.out.2.1 id, D7.out.cell I6.out.2.2.1 id, D7.out.cell I6.out.2.2.2.1 id, D7.out.cell I6.out.2.2.2.2 id⟩ (fun hHeld => ?_)
          clear hK K
          try simp only [Act.put, List.setIfInBounds_toArray, List.set_cons_zero, List.set_cons_succ]
          refine takeL 13 2 (v := ?_) rfl (by kernel_rfl) (fun _ _ _ h => h) (by rfl) (by assumption) ?_ ?_
          rotate_left
          · (intro w hSw; (try dsimp only at hSw); go_simp; try with_reducible rfl)
          try simp only [Act.put, List.setIfInBounds_toArray, List.set_cons_zero, List.set_cons_succ]
          refine doneL (by kernel_rfl) ?_ _
          have C7 := Lib.hid (C6.out.trans D7.out (fun _ _ h => h))
          clear i0 i1 i2 i3 j0
          obtain ⟨i0, i1, i2, i3, j0, j1, z0, z1⟩ := law_cells C7.out
          have HCW := Lib.hid (law_old C7.out)
          go_wp2_with fail
          refine (rnew_bad c t f r tag ac code.length cc aa args.length na _ HCF.out).mono ?_
          rintro e w8 ⟨rfl, hc8⟩
          have CC := Lib.hid (HCW.out.trans hc8 (fun _ _ h => h))
          clear hc8
          go_wp2_with fail
          go_ret2
          exact ⟨rfl, CC.out⟩
end Go.Proofs.YthgllaomafhdkaaGreat
