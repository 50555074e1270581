/- A state of cells behind a pointer, and the contracts of its methods. -/
import Derived.Test.YtpigcmedkljonabNum
namespace Go.Proofs.Ytpigcmedkljonab
open Go Go.RowKit
set_option linter.unusedVariables false
set_option linter.unusedSimpArgs false

/-- A struct of one slice at block p. -/
def St (T E : TypeId) (w : World) (p : Nat) (F : Nat → Prop) (xs : List Value) : Prop :=
  ∃ a c, w.heap[p]? = some (.cells #[.slice a xs.length c] T (0, 0)) ∧ w.ownsRow 0 E 1 (.slice a xs.length c) xs.length xs ∧ F p ∧ (∀ k, (Value.slice a xs.length c).ownBlock = some k → F k ∧ k ≠ p) ∧ (∀ k, F k → k < w.heap.size)

abbrev fl : Nat → Value := Value.float .f64
theorem fls_one (l : List Nat) : ∀ u ∈ l.map fl, u.oneCell' = true := by
  intro u hu; obtain ⟨z, _, rfl⟩ := List.mem_map.1 hu; rfl

section
variable {T E : TypeId} {w w' : World} {p : Nat} {F S : Nat → Prop} {xs : List Value}

theorem ownsRow_heap {base : Nat} {e : TypeId} {size : Nat} {v : Value} {n : Nat} {xs : List Value} (h : w.ownsRow base e size v n xs) (hb : ∀ k, v.ownBlock = some k → w'.heap[k]? = w.heap[k]?) : w'.ownsRow base e size v n xs := by
  refine ⟨h.1, ?_⟩
  rcases h.2 with h | ⟨g, cap, cur, rfl, hg, hh, hr⟩
  · exact .inl h
  · exact .inr ⟨g, cap, cur, rfl, hg, (hb g rfl).trans hh, hr⟩

theorem St.lt (h : St T E w p F xs) : ∀ k, F k → k < w.heap.size := by obtain ⟨a, c, h1, h2, h3, h4, h5⟩ := h; exact h5
theorem St.has (h : St T E w p F xs) : F p := by obtain ⟨a, c, h1, h2, h3, h4, h5⟩ := h; exact h3
theorem St.frame (h : St T E w p F xs) (hs : w.heap.size ≤ w'.heap.size) (hb : ∀ k, F k → w'.heap[k]? = w.heap[k]?) : St T E w' p F xs := by
  obtain ⟨a, c, h1, h2, h3, h4, h5⟩ := h
  exact ⟨a, c, (hb p h3).trans h1, ownsRow_heap h2 (fun k hk => hb k (h4 k hk).1), h3, h4, fun k hk => Nat.lt_of_lt_of_le (h5 k hk) hs⟩
theorem St.chg (h : St T E w p F xs) (hc : Chg w w' S) (hd : ∀ k, F k → ¬ S k) : St T E w' p F xs := h.frame hc.size fun k hk => hc.block k (h.lt k hk) (hd k hk)
theorem St.drewN (h : St T E w p F xs) (n : Nat) : St T E (w.drewN n) p F xs := h.frame (Nat.le_refl _) (fun _ _ => rfl)
theorem St.wider {F' : Nat → Prop} (h : St T E w p F xs) (hF : ∀ k, F k → F' k) (hlt : ∀ k, F' k → k < w.heap.size) : St T E w p F' xs := by
  obtain ⟨a, c, h1, h2, h3, h4, h5⟩ := h
  exact ⟨a, c, h1, h2, hF _ h3, fun k hk => ⟨hF _ (h4 k hk).1, (h4 k hk).2⟩, hlt⟩
theorem St.cells (h : St T E w p F xs) : ∃ a c, w.cell? ⟨p, 0, none⟩ = some (.slice a xs.length c) ∧ w.ownsRow 0 E 1 (.slice a xs.length c) xs.length xs := by
  obtain ⟨a, c, h1, h2, _⟩ := h
  exact ⟨a, c, blk_cell h1 0, h2⟩
theorem St.free (h : St T E w p F xs) (o : Nat) : w.frozen? ⟨p, o, none⟩ = false := by
  obtain ⟨a, c, h1, h2⟩ := h
  exact blk_free h1 o
/-- Where there is an element the slice shows its head. -/
theorem St.at (h : St T E w p F xs) {j : Nat} {x : Value} (hj : xs[j]? = some x) : ∃ g c, w.cell? ⟨p, 0, none⟩ = some (.slice (some ⟨g, 0, none⟩) xs.length c) ∧ w.cell? ⟨g, j, none⟩ = some x ∧ w.frozen? ⟨g, j, none⟩ = false ∧ g ≠ p ∧ F g := by
  obtain ⟨a, c, h1, h2, h3, h4, h5⟩ := h
  have hlt := (List.getElem?_eq_some_iff.1 hj).1
  obtain ⟨g, cc, he⟩ := (ownsRow_shape h2).2 (by omega)
  injection he with he _ hk
  subst he hk
  refine ⟨g, c, blk_cell h1 0, ?_, h2.frozenAt j, (h4 g rfl).2, (h4 g rfl).1⟩
  rw [h2.cellAt j (by omega), hj]
/-- A store into it. -/
theorem St.set (h : St T E w p F xs) {g j c : Nat} (c0 : w.cell? ⟨p, 0, none⟩ = some (.slice (some ⟨g, 0, none⟩) xs.length c)) (hj : j < xs.length) (u : Value) :
    St T E (w.setCell ⟨g, j, none⟩ u) p F (xs.set j u) ∧ Chg w (w.setCell ⟨g, j, none⟩ u) F := by
  obtain ⟨a, c', h1, h2, h3, h4, h5⟩ := h
  have := (blk_cell h1 0).symm.trans c0
  simp at this
  obtain ⟨rfl, rfl⟩ := this
  have hb := h4 g rfl
  refine ⟨⟨some ⟨g, 0, none⟩, c', ?_, ?_, h3, ?_, fun k hk => by simpa [World.setCell] using h5 k hk⟩, (Chg.refl _ _).setCell (.inr hb.1) _⟩
  · rw [List.length_set]; exact blk_set_other h1 (fun e => hb.2 e.symm) _
  · rw [List.length_set]; exact (h2.stored j u).1
  · rw [List.length_set]; exact h4
/-- Its row was written as a whole. -/
theorem St.rowed {ys : List Value} {a : Option Addr} {n c : Nat} (h : St T E w p F xs) (c0 : w.cell? ⟨p, 0, none⟩ = some (.slice a n c)) (hy : ys.length = n) (hown : w'.ownsRow 0 E 1 (.slice a n c) n ys) (hg : w.grownBy w' (Value.slice a n c).ownBlock) :
    St T E w' p F ys ∧ Chg w w' F := by
  obtain ⟨a', c', h1, h2, h3, h4, h5⟩ := h
  have := (blk_cell h1 0).symm.trans c0
  simp at this
  obtain ⟨rfl, rfl, rfl⟩ := this
  rw [← hy] at h1 hown hg h4
  have hp : p < w.heap.size := h5 p h3
  refine ⟨⟨a', c', ?_, hown, h3, ?_, fun k hk => Nat.lt_of_lt_of_le (h5 k hk) hg.size⟩, (Chg.refl _ _).grown hg (fun k hk => .inr (h4 k hk).1)⟩
  · rw [hg.block p hp (fun e => (h4 p e.symm).2 rfl), h1]
  · intro k hk
    exact h4 k hk
theorem St.pushed {w1 w2 : World} {v : Value} {g cap : Nat} {x : Value} (h : St T E w p F xs) (c0 : w.cell? ⟨p, 0, none⟩ = some v) (h1 : Chg w w1 Nothing) (hg : w1.grownBy w2 v.ownBlock)
    (hown : w2.ownsRow 0 E 1 (.slice (some ⟨g, 0, none⟩) (xs.length + 1) cap) (xs.length + 1) (xs ++ [x])) (hgg : v.ownBlock = some g ∨ w1.heap.size ≤ g) :
    St T E (w2.setCell ⟨p, 0, none⟩ (.slice (some ⟨g, 0, none⟩) (xs.length + 1) cap)) p (Grow F w (w2.setCell ⟨p, 0, none⟩ (.slice (some ⟨g, 0, none⟩) (xs.length + 1) cap))) (xs ++ [x]) ∧
      Chg w (w2.setCell ⟨p, 0, none⟩ (.slice (some ⟨g, 0, none⟩) (xs.length + 1) cap)) F ∧ w2.cell? ⟨p, 0, none⟩ = some v ∧ w2.frozen? ⟨p, 0, none⟩ = false := by
  obtain ⟨a, c, k1, k2, k3, k4, k5⟩ := h
  obtain rfl : v = .slice a xs.length c := by have := (blk_cell k1 0).symm.trans c0; simpa using this.symm
  have hp : p < w.heap.size := k5 p k3
  have hs2 : (w2.setCell ⟨p, 0, none⟩ (.slice (some ⟨g, 0, none⟩) (xs.length + 1) cap)).heap.size = w2.heap.size := by simp [World.setCell]
  have hsz : w.heap.size ≤ w2.heap.size := Nat.le_trans h1.size hg.size
  have hpb : w2.heap[p]? = some (.cells #[.slice a xs.length c] T (0, 0)) := by
    rw [hg.block p (Nat.lt_of_lt_of_le hp h1.size) (by intro e; exact (k4 p e.symm).2 rfl), h1.block p hp (fun h => h), k1]
  have hgp : g ≠ p := by rcases hgg with hgg | hgg; exact (k4 g hgg).2; have := h1.size; omega
  have hg2 := (hown.lt g rfl).2
  have hl : (xs ++ [x]).length = xs.length + 1 := by simp
  refine ⟨⟨some ⟨g, 0, none⟩, cap, ?_, ?_, .inl k3, ?_, ?_⟩, ?_, by rw [blk_cell hpb]; rfl, blk_free hpb 0⟩
  · rw [hl]; simpa using blk_set hpb 0 (.slice (some ⟨g, 0, none⟩) (xs.length + 1) cap)
  · rw [hl]
    exact ownsRow_heap hown (fun k hk => by simp [Value.ownBlock] at hk; subst hk; exact Below.heap_setCell _ _ _ _ hgp)
  · intro k hk
    simp [Value.ownBlock] at hk
    subst hk
    refine ⟨?_, hgp⟩
    rcases hgg with hgg | hgg
    · exact .inl (k4 g hgg).1
    · exact .inr ⟨Nat.le_trans h1.size hgg, by rw [hs2]; exact hg2⟩
  · intro k hk
    rw [hs2]
    rcases hk with hk | hk
    · exact Nat.lt_of_lt_of_le (k5 k hk) hsz
    · rw [hs2] at hk; exact hk.2
  · refine Chg.setCell (Chg.grown (h1.mono (fun k _ hk => hk.elim)) hg ?_) (.inr k3) _
    intro k hk
    exact .inr (k4 k hk).1
/-- A new one. -/
theorem St.made {a : Option Addr} {c : Nat} (hown : w'.ownsRow w.heap.size E 1 (.slice a xs.length c) xs.length xs) (hchg : Chg w w' Nothing) :
    w.heap.size ≤ w'.heap.size ∧ St T E (w'.alloc (.cells #[.slice a xs.length c] T)) w'.heap.size (Grow Nothing w (w'.alloc (.cells #[.slice a xs.length c] T))) xs ∧ Chg w (w'.alloc (.cells #[.slice a xs.length c] T)) Nothing := by
  have hsz := hchg.size
  refine ⟨hsz, ⟨a, c, heap_alloc_new w' _, ownsRow_base (hown.alloc _) (Nat.zero_le _), .inr ⟨hsz, by simp⟩, ?_, ?_⟩, hchg.alloc _⟩
  · intro k hk
    have := hown.lt k hk
    exact ⟨.inr ⟨this.1, by simp; omega⟩, by omega⟩
  · intro k hk
    rcases hk with hk | hk
    · exact hk.elim
    · exact hk.2
end

/-- The first n are fixed. -/
def mix (n : Nat) (fs : List Nat) : List Nat := (fs.take n).map fixB ++ fs.drop n
theorem mix_len (n : Nat) (fs : List Nat) : (mix n fs).length = fs.length := by simp [mix]; omega
theorem mix_zero (fs : List Nat) : mix 0 fs = fs := by simp [mix]
theorem mix_all (fs : List Nat) : mix fs.length fs = fs.map fixB := by simp [mix]
theorem mix_at {n : Nat} {fs : List Nat} (h : n < fs.length) : (mix n fs)[n]? = some fs[n] := by
  unfold mix
  rw [List.getElem?_append_right (by simp; omega)]
  simp [List.length_take, Nat.min_eq_left (Nat.le_of_lt h), h]
theorem mix_set {n : Nat} {fs : List Nat} (h : n < fs.length) : (mix n fs).set n (fixB fs[n]) = mix (n + 1) fs := by
  unfold mix
  have hl : ((fs.take n).map fixB).length = n := by simp; omega
  rw [List.set_append_right _ _ (by rw [hl]; exact Nat.le_refl _), hl, Nat.sub_self, List.drop_eq_getElem_cons h, List.set_cons_zero, List.take_succ_eq_append_getElem h, List.map_append]
  simp

/-- Is there such a cell? -/
def hasB (c : Int) (n : Nat) : Bool := decide (0 ≤ c ∧ c < n)

/-- The same numbers, one by one. -/
def sameL (fs gs : List Nat) : Bool := fs.map fixB == gs.map fixB
theorem sameL_comm (fs gs : List Nat) : sameL fs gs = sameL gs fs := by unfold sameL; rw [Bool.eq_iff_iff, beq_iff_eq, beq_iff_eq]; exact eq_comm
theorem sameL_len {fs gs : List Nat} (h : fs.length ≠ gs.length) : sameL fs gs = false := by
  unfold sameL
  rw [beq_eq_false_iff_ne]
  intro e
  exact h (by simpa using congrArg List.length e)
/-- The first n are the same. -/
def AgreeTo (fs gs : List Nat) (n : Nat) : Prop := ∀ i, i < n → fs[i]?.map fixB = gs[i]?.map fixB
theorem AgreeTo.succ {fs gs : List Nat} {n : Nat} (h : AgreeTo fs gs n) (h1 : n < fs.length) (h2 : n < gs.length) (he : fixB fs[n] = fixB gs[n]) : AgreeTo fs gs (n + 1) := by
  intro i hi
  by_cases e : i = n
  · subst e; rw [List.getElem?_eq_getElem h1, List.getElem?_eq_getElem h2]; simp [he]
  · exact h i (by omega)
theorem AgreeTo.all {fs gs : List Nat} (h : AgreeTo fs gs fs.length) (hl : fs.length = gs.length) : sameL fs gs = true := by
  unfold sameL
  rw [beq_iff_eq]
  refine List.ext_getElem? fun i => ?_
  rw [List.getElem?_map, List.getElem?_map]
  by_cases e : i < fs.length
  · exact h i e
  · rw [List.getElem?_eq_none (by omega), List.getElem?_eq_none (by omega)]
theorem sameL_ne {fs gs : List Nat} {n : Nat} (h1 : n < fs.length) (h2 : n < gs.length) (he : fixB fs[n] ≠ fixB gs[n]) : sameL fs gs = false := by
  unfold sameL
  rw [beq_eq_false_iff_ne]
  intro e
  have := congrArg (fun l => l[n]?) e
  simp [h1, h2] at this
  exact he this

/-- Cells and numbers in memory. -/
def Tch (w : World) (a : Option Addr) (ts : List (Int × Nat)) : Prop := ∀ i x, ts[i]? = some x → ∃ b o, a = some ⟨b, o, none⟩ ∧ w.cell? ⟨b, o + i * 2, none⟩ = some (.int .i64 x.1) ∧ w.cell? ⟨b, o + i * 2 + 1, none⟩ = some (fl x.2)
theorem Tch.chg {w w' : World} {a : Option Addr} {ts : List (Int × Nat)} {S : Nat → Prop} (h : Tch w a ts) (hc : Chg w w' S) (hS : ∀ b o, a = some ⟨b, o, none⟩ → ¬ S b) : Tch w' a ts := by
  intro i x hx
  obtain ⟨b, o, ha, h1, h2⟩ := h i x hx
  exact ⟨b, o, ha, hc.cell h1 (hS b o ha), hc.cell h2 (hS b o ha)⟩

/-- What Apply makes of the numbers. -/
def setL (fs : List Nat) (c : Int) (x : Nat) : List Nat := if hasB c fs.length then fs.set c.toNat (fixB x) else fs
def setE (fs : List Nat) (c : Int) : Int := if hasB c fs.length then 0 else 60
def getV (fs : List Nat) (c : Int) : Nat := if hasB c fs.length then fs.getD c.toNat 0 else 0
def okL (n : Nat) (ts : List (Int × Nat)) : Bool := ts.all fun t => hasB t.1 n
def putL (fs : List Nat) (ts : List (Int × Nat)) : List Nat := ts.foldl (fun fs t => setL fs t.1 t.2) fs
def applyL (fs : List Nat) (ts : List (Int × Nat)) : List Nat := if okL fs.length ts then putL fs ts else fs
def applyE (fs : List Nat) (ts : List (Int × Nat)) : Int := if okL fs.length ts then 0 else 60
theorem setL_len (fs : List Nat) (c : Int) (x : Nat) : (setL fs c x).length = fs.length := by unfold setL; split <;> simp
theorem putL_len (ts : List (Int × Nat)) : ∀ (fs : List Nat), (putL fs ts).length = fs.length := by
  induction ts with
  | nil => intro fs; rfl
  | cons t ts ih => intro fs; exact (ih _).trans (setL_len fs t.1 t.2)
theorem applyL_len (fs : List Nat) (ts : List (Int × Nat)) : (applyL fs ts).length = fs.length := by unfold applyL; split; exact putL_len _ _; rfl
theorem putL_snoc (fs : List Nat) (ts : List (Int × Nat)) (t : Int × Nat) : putL fs (ts ++ [t]) = setL (putL fs ts) t.1 t.2 := by simp [putL]
theorem hasB_iff {c : Int} {n : Nat} : hasB c n = true ↔ 0 ≤ c ∧ c < n := by simp [hasB]

theorem snew_bad (n : Int) (w : World) (h : n < 1 ∨ 256 < n) : Calls Try.prog 8 #[.int .i64 n] w fun e w' => e = .returned (.tuple #[.pointer none, .int .i64 1]) ∧ w = w' := by
  by_cases h1 : n < 1
  · have b1 : decide (n < 1) = true := by simpa using h1
    clear h
    go_enter Try.func8, Try.ntmps8
    go_wp2
    go_ret2
    exact ⟨rfl, rfl⟩
  · have b1 : decide (n < 1) = false := by simpa using h1
    have b2 : decide (256 < n) = true := by simp; omega
    clear h h1
    go_enter Try.func8, Try.ntmps8
    go_wp2
    go_ret2
    exact ⟨rfl, rfl⟩

theorem snew_good (n : Nat) (w : World) (h1 : 1 ≤ n) (h2 : n ≤ 256) : Calls Try.prog 8 #[.int .i64 n] w fun e w' => ∃ p, e = .returned (.tuple #[.pointer (some ⟨p, 0, none⟩), .int .i64 0]) ∧ w.heap.size ≤ p ∧
    St 53 36 w' p (Grow Nothing w w') (List.replicate n (fl 0)) ∧ Chg w w' Nothing := by
  have b1 : decide ((n : Int) < 1) = false := by simp; omega
  have b2 : decide ((256 : Int) < n) = false := by simp; omega
  go_enter Try.func8, Try.ntmps8
  go_wp2_with (at_make; refine make_row rfl _ _ 29 36 rfl (fl 0) 8 Try.underlying29 (by kernel_rfl) rfl .i64 .i64 _ _ n rfl rfl rfl rfl (by omega) (by unfold maxLen; omega) ?c1)
  case c1 =>
    intro w1 hown hg
    have R := Lib.hid (St.made (T := 53) (w := w) (w' := w1) (xs := List.replicate n (fl 0)) (by rw [List.length_replicate]; exact hown) ((Chg.refl w Nothing).grown hg (by simp)))
    clear hown hg
    simp only [List.length_replicate] at R
    go_wp2
    go_ret2
    exact ⟨_, rfl, R.out⟩
end Go.Proofs.Ytpigcmedkljonab
