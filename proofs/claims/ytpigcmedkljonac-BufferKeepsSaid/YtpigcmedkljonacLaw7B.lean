/- stir and step of layer 7's statements. -/
import Derived.Test.YtpigcmedkljonacLaw7A
namespace Go.Proofs.Ytpigcmedkljonac
open Go Go.RowKit
set_option linter.unusedVariables false
set_option linter.unusedSimpArgs false

theorem stir_any (p : Nat) (F : Nat → Prop) (l : List (Int × Nat)) (most : Int) (w : World) (h : Bf w p F l most) :
    Calls Try.prog 20 #[.pointer (some ⟨p, 0, none⟩)] w fun e w' => e = .returned (.tuple #[]) ∧ Chg w w' F := by
  have H := Lib.hid h
  have HL := Lib.hid (show l.length ≤ 32 from by have := h.fits; omega)
  clear h
  go_enter Try.func20, Try.ntmps20
  go_wp2_with fail
  refine (all_any p F l most w H.out).mono ?_
  rintro e w1 ⟨a, c, rfl, o1, c1⟩
  have LW := Lib.hid (ownsRow_low o1)
  have S1 := Lib.hid (Sees.of_owns o1)
  have H1 := Lib.hid (H.out.chg c1 (fun _ _ h => h))
  have C1 := Lib.hid c1
  clear o1 c1
  go_wp2
  go_loopg [3] l.length (fun k i wr => ∃ n : Nat, ∃ F' l', n + k = l.length ∧ i = .int .i64 n ∧ Bf wr p F' l' most ∧ (∀ k, F' k → F k ∨ w1.heap.size ≤ k) ∧ Chg w1 wr F)
  case atStart => exact ⟨0, F, l, by simp, rfl, H1.out, fun k hk => .inl hk, Chg.refl _ _⟩
  case round =>
    obtain ⟨n, F', l', hn, rfl, hst, hF, hchg⟩ := hrel
    have HS := Lib.hid hst
    have HC := Lib.hid hchg
    have HF := Lib.hid hF
    clear hst hchg hF H1
    by_cases hlt : n < l.length
    · have hd : decide (n < l.length) = true := by simpa using hlt
      obtain ⟨k, y, hy⟩ : ∃ k y, l[n]? = some (k, y) := ⟨_, _, List.getElem?_eq_getElem hlt⟩
      obtain ⟨b1, o1, rfl, x1, y1⟩ := tch_cells (LW.out wr (fun j hj => HC.out.block j hj.2 (fun h => by have := H.out.lt j h; omega))) hy
      have hb32 := HL.out
      clear hy
      go_wp2_with fail
      refine (put_any p F' l' most k _ wr HS.out).mono ?_
      rintro e w2 ⟨rfl, s2, c2⟩
      have S2 := Lib.hid s2
      have C2 := Lib.hid (HC.out.trans c2 (fun j hj h => by rcases HF.out j h with h | h; exact h; omega))
      have F2 := Lib.hid (show ∀ j, Grow F' wr w2 j → F j ∨ w1.heap.size ≤ j from fun j hj => by
        have := HC.out.size
        rcases hj with hj | hj
        · exact HF.out j hj
        · exact .inr (by omega))
      clear s2 c2 x1 y1
      go_wp2_with fail
      go_roundg (gk - 1)
      case measure => omega
      case rel => exact ⟨n + 1, _, _, by omega, by go_num, S2.out, F2.out, C2.out⟩
    · have hd : decide (n < l.length) = false := by simpa using hlt
      go_wp2_with fail
      refine (put_any p F' l' most _ _ wr HS.out).mono ?_
      rintro e w2 ⟨rfl, s2, c2⟩
      have S2 := Lib.hid s2
      have C2 := Lib.hid c2
      clear s2 c2
      go_wp2_with fail
      refine (clear_any p _ _ most w2 S2.out).mono ?_
      rintro e w3 ⟨rfl, s3, c3⟩
      have S3 := Lib.hid s3
      have C3 := Lib.hid c3
      clear s3 c3
      go_wp2_with fail
      refine (put_any p _ _ most _ _ w3 S3.out).mono ?_
      rintro e w4 ⟨rfl, s4, c4⟩
      have R := Lib.hid (show Chg w w4 F from by
        have z1 := C1.out.size; have z2 := HC.out.size; have z3 := C2.out.size
        have k1 : Chg w1 w2 F := HC.out.trans C2.out (fun j hj h => by rcases HF.out j h with h | h; exact h; omega)
        have k2 : Chg w1 w3 F := k1.trans C3.out (fun j hj h => by
          rcases h with h | h
          · rcases HF.out j h with h | h; exact h; omega
          · omega)
        have k3 : Chg w1 w4 F := k2.trans c4 (fun j hj h => by
          rcases h with h | h
          · rcases HF.out j h with h | h; exact h; omega
          · omega)
        exact (C1.out.mono (fun _ _ h => h.elim)).trans k3 (fun _ _ h => h))
      clear s4 c4
      go_wp2_with fail
      go_end0
      exact ⟨rfl, R.out⟩

/-- A buffer of the code's and one of the document's hold the same, apart from one another. -/
structure Two (w : World) (p r : Nat) (F G : Nat → Prop) (l : List (Int × Nat)) (most : Int) : Prop where
  s : Bf w p F l most
  r : Rf w r G l most
  d : ∀ k, F k → ¬ G k

/-- What a step leaves: both again, whose blocks are of before, or new. -/
def After (w w' : World) (p r : Nat) (F G : Nat → Prop) (most : Int) : Prop :=
  ∃ F' G' l, Two w' p r F' G' l most ∧ Chg w w' (fun k => F k ∨ G k) ∧ (∀ k, F' k → F k ∨ w.heap.size ≤ k) ∧ (∀ k, G' k → G k ∨ w.heap.size ≤ k)

section
variable {w w1 w2 w' : World} {p r : Nat} {F G : Nat → Prop} {l l' : List (Int × Nat)} {most : Int}
theorem Two.chg (h : Two w p r F G l most) (hc : Chg w w1 Nothing) : Two w1 p r F G l most := ⟨h.s.chg hc (fun _ _ h => h), h.r.chg hc (fun _ _ h => h), h.d⟩
theorem Two.boxed (h : Two w p r F G l most) (o : Obj) : Two (w.alloc o) p r F G l most := h.chg ((Chg.refl _ _).alloc _)
theorem Two.drewN (h : Two w p r F G l most) (n : Nat) : Two (w.drewN n) p r F G l most := h.chg ((Chg.refl _ _).drewN _)
theorem Two.len (h : Two w p r F G l most) : l.length ≤ 32 ∧ (l.length : Int) ≤ most ∧ most ≤ 32 := by have := h.s.fits; omega
theorem After.boxed {o : Obj} (h : After (w.alloc o) w' p r F G most) : After w w' p r F G most := by
  obtain ⟨F', G', zs, h1, h2, h3, h4⟩ := h
  have hs : (w.alloc o).heap.size = w.heap.size + 1 := by simp
  exact ⟨F', G', zs, h1, ((Chg.refl _ _).alloc o).trans h2 (fun _ _ h => h), fun k hk => (h3 k hk).imp id (by omega), fun k hk => (h4 k hk).imp id (by omega)⟩
theorem Two.after (h : Two w p r F G l most) (s1 : Bf w1 p (Grow F w w1) l' most) (c1 : Chg w w1 F) (r2 : Rf w2 r (Grow G w1 w2) l' most) (c2 : Chg w1 w2 G) : After w w2 p r F G most := by
  have e1 := c1.size
  have e2 := h.r.lt
  have e3 := h.s.lt
  refine ⟨Grow F w w1, Grow G w1 w2, l', ⟨s1.chg c2 ?_, r2, ?_⟩, ?_, ?_, ?_⟩
  · intro k hk hg; rcases hk with hk | hk; exact h.d k hk hg; have := e2 k hg; omega
  · intro k hk hg
    rcases hk with hk | hk <;> rcases hg with hg | hg
    · exact h.d k hk hg
    · have := e3 k hk; omega
    · have := e2 k hg; omega
    · omega
  · exact (c1.mono (fun k _ h => .inl h)).trans c2 (fun k _ h => .inr h)
  · intro k hk; exact hk.imp id (fun h => h.1)
  · intro k hk; exact hk.imp id (fun h => by omega)
theorem Two.push (h : Two w p r F G l most) (c1 : Chg w w1 F) : Rf w1 r G l most := h.r.chg c1 (fun k hk hf => h.d k hf hk)
theorem After.same (h : Two w p r F G l most) (hc : Chg w w1 Nothing) : After w w1 p r F G most :=
  ⟨F, G, l, h.chg hc, hc.mono (fun _ _ h => h.elim), fun _ h => .inl h, fun _ h => .inl h⟩
end
theorem box_cell {w w1 : World} {F : Nat → Prop} {cs : Array Value} {T : TypeId} {v : Value} (j : Nat) (c1 : Chg (w.alloc (.cells cs T)) w1 F) (hF : ∀ k, F k → k < w.heap.size) (hv : cs[j]? = some v) : w1.cell? ⟨w.heap.size, j, none⟩ = some v :=
  c1.cell ((blk_cell (heap_alloc_new w _) j).trans hv) (fun h => Nat.lt_irrefl _ (hF _ h))

set_option maxHeartbeats 3000000 in
theorem step_put (p r : Nat) (F G : Nat → Prop) (l : List (Int × Nat)) (most n x : Int) (w : World) (h : Two w p r F G l most) :
    Calls Try.prog 21 #[.pointer (some ⟨p, 0, none⟩), .pointer (some ⟨r, 0, none⟩), .agg #[.int .i64 1, .int .i64 n, .int .u64 x]] w fun e w' => e = .returned (.bool true) ∧ After w w' p r F G most := by
  have H := Lib.hid h
  clear h
  go_enter Try.func21, Try.ntmps21
  go_wp2_with fail
  go_region_law (first | (go_simp; go_at_call 12; refine (raw_any _ _).mono ?_; rintro e w' ⟨rfl, rfl⟩) | (go_simp; go_at_call 11; refine (put_any p F l most n x.toNat _ ((H.out.boxed _).s.drewN 1)).mono ?_; rintro e w1 ⟨rfl, s1, c1⟩))
  all_goals
    have C1 := Lib.hid (show Chg (w.alloc (.cells #[.int .i64 1, .int .i64 n, .int .u64 x] 31)) w1 F from ⟨c1.os, c1.tape, c1.output, c1.size, c1.block⟩)
    have S1 := Lib.hid (show Bf w1 p (Grow F (w.alloc (.cells #[.int .i64 1, .int .i64 n, .int .u64 x] 31)) w1) (putL l most n (fixB x.toNat)) most from s1)
    clear s1 c1
    have d1 := box_cell 1 C1.out H.out.s.lt rfl
    have d2 := box_cell 2 C1.out H.out.s.lt rfl
    go_wp2_with fail
    go_region_law (first | (go_simp; go_at_call 12; refine (raw_any _ _).mono ?_; rintro e w' ⟨rfl, rfl⟩) | (go_simp; go_at_call 16; refine (R7.put_any r G l most n x.toNat _ (((H.out.boxed _).push C1.out).drewN 1) H.out.len.2.1 H.out.len.2.2).mono ?_; rintro e w2 ⟨rfl, s2, c2⟩))
    all_goals
      have hq : (putE l most n == putE l most n) = true := by simp
      have hb : (putN l most n == putN l most n) = true := by simp
      have C2 : Chg w1 w2 G := ⟨c2.os, c2.tape, c2.output, c2.size, c2.block⟩
      have R := Lib.hid ((H.out.boxed _).after S1.out C1.out (show Rf w2 r (Grow G w1 w2) _ most from s2) C2).boxed
      clear s2 c2 C2 d1 d2
      go_wp2_with fail
      go_ret
      exact ⟨rfl, R.out⟩

theorem step_get (p r : Nat) (F G : Nat → Prop) (l : List (Int × Nat)) (most n x : Int) (w : World) (h : Two w p r F G l most) :
    Calls Try.prog 21 #[.pointer (some ⟨p, 0, none⟩), .pointer (some ⟨r, 0, none⟩), .agg #[.int .i64 2, .int .i64 n, .int .u64 x]] w fun e w' => e = .returned (.bool true) ∧ After w w' p r F G most := by
  have H := Lib.hid h
  clear h
  go_enter Try.func21, Try.ntmps21
  go_wp2_with fail
  refine (get_any p F l most n _ (H.out.boxed _).s).mono ?_
  rintro e w1 ⟨rfl, rfl⟩
  go_wp2_with fail
  refine (R7.get_any r G l most n _ (H.out.boxed _).r H.out.len.1).mono ?_
  rintro e w1 ⟨rfl, rfl⟩
  have hq : (getB l n == getB l n) = true := by simp
  have hv : ((getX l n : Int) == (getX l n : Int)) = true := by simp
  go_wp2_with fail
  go_ret
  exact ⟨rfl, After.same H.out ((Chg.refl _ _).alloc _)⟩

theorem step_all (p r : Nat) (F G : Nat → Prop) (l : List (Int × Nat)) (most n x : Int) (w : World) (h : Two w p r F G l most) :
    Calls Try.prog 21 #[.pointer (some ⟨p, 0, none⟩), .pointer (some ⟨r, 0, none⟩), .agg #[.int .i64 3, .int .i64 n, .int .u64 x]] w fun e w' => e = .returned (.bool true) ∧ After w w' p r F G most := by
  have H := Lib.hid h
  clear h
  have hq : ((l.length : Int) == (l.length : Int)) = true := by simp
  go_enter Try.func21, Try.ntmps21
  go_wp2_with fail
  refine (R7.all_any r G l most _ (H.out.boxed _).r H.out.len.1).mono ?_
  rintro e w1 ⟨a1, k1, rfl, o1, c1⟩
  have H1 := Lib.hid ((H.out.boxed _).chg c1)
  have S1 := Lib.hid (Sees.of_owns o1)
  have C1 := Lib.hid (((Chg.refl w Nothing).alloc _).trans c1 (fun _ _ h => h))
  clear o1 c1
  go_wp2_with fail
  refine (len_any p F l most w1 H1.out.s).mono ?_
  rintro e w2 ⟨rfl, rfl⟩
  go_wp2_with fail
  refine (R7.len_any r G l most w1 H1.out.r).mono ?_
  rintro e w2 ⟨rfl, rfl⟩
  go_wp2_with fail
  refine (all_any p F l most w1 H1.out.s).mono ?_
  rintro e w2 ⟨a2, k2, rfl, o2, c2⟩
  have S2 := Lib.hid (Sees.of_owns o2)
  have S3 := Lib.hid (S1.out.chg c2)
  have C2 := Lib.hid (C1.out.trans c2 (fun _ _ h => h))
  clear o2 c2
  go_wp2_with fail
  refine (exact_true a2 a1 k2 k1 l w2 S2.out S3.out (by have := H.out.len; omega)).mono ?_
  rintro e w3 ⟨rfl, m, rfl⟩
  go_wp2_with fail
  go_ret
  exact ⟨rfl, After.same H.out (C2.out.drewN m)⟩

theorem step_clear (p r : Nat) (F G : Nat → Prop) (l : List (Int × Nat)) (most n x : Int) (w : World) (h : Two w p r F G l most) :
    Calls Try.prog 21 #[.pointer (some ⟨p, 0, none⟩), .pointer (some ⟨r, 0, none⟩), .agg #[.int .i64 4, .int .i64 n, .int .u64 x]] w fun e w' => e = .returned (.bool true) ∧ After w w' p r F G most := by
  have H := Lib.hid h
  clear h
  go_enter Try.func21, Try.ntmps21
  go_wp2_with fail
  refine (clear_any p F l most _ (H.out.boxed _).s).mono ?_
  rintro e w1 ⟨rfl, s1, c1⟩
  go_wp2_with fail
  refine (R7.clear_any r G l most _ ((H.out.boxed _).push c1)).mono ?_
  rintro e w2 ⟨rfl, s2, c2⟩
  have R := Lib.hid ((H.out.boxed _).after s1.grow c1 s2.grow c2).boxed
  clear s1 c1 s2 c2
  go_wp2_with fail
  go_ret
  exact ⟨rfl, R.out⟩

theorem step_other (p r : Nat) (F G : Nat → Prop) (l : List (Int × Nat)) (most k n x : Int) (w : World) (h : Two w p r F G l most) (h1 : k ≠ 1) (h2 : k ≠ 2) (h3 : k ≠ 3) (h4 : k ≠ 4) :
    Calls Try.prog 21 #[.pointer (some ⟨p, 0, none⟩), .pointer (some ⟨r, 0, none⟩), .agg #[.int .i64 k, .int .i64 n, .int .u64 x]] w fun e w' => e = .returned (.bool true) ∧ After w w' p r F G most := by
  have H := Lib.hid h
  clear h
  have b1 : (k == 1) = false := by simpa using h1
  have b2 : (k == 2) = false := by simpa using h2
  have b3 : (k == 3) = false := by simpa using h3
  have b4 : (k == 4) = false := by simpa using h4
  clear h1 h2 h3 h4
  go_enter Try.func21, Try.ntmps21
  go_wp2_with fail
  go_ret
  exact ⟨rfl, After.same H.out ((Chg.refl _ _).alloc _)⟩

theorem step_any (p r : Nat) (F G : Nat → Prop) (l : List (Int × Nat)) (most k n x : Int) (w : World) (h : Two w p r F G l most) :
    Calls Try.prog 21 #[.pointer (some ⟨p, 0, none⟩), .pointer (some ⟨r, 0, none⟩), .agg #[.int .i64 k, .int .i64 n, .int .u64 x]] w fun e w' => e = .returned (.bool true) ∧ After w w' p r F G most := by
  by_cases h1 : k = 1
  · subst h1; exact step_put p r F G l most n x w h
  by_cases h2 : k = 2
  · subst h2; exact step_get p r F G l most n x w h
  by_cases h3 : k = 3
  · subst h3; exact step_all p r F G l most n x w h
  by_cases h4 : k = 4
  · subst h4; exact step_clear p r F G l most n x w h
  exact step_other p r F G l most k n x w h h1 h2 h3 h4

end Go.Proofs.Ytpigcmedkljonac
