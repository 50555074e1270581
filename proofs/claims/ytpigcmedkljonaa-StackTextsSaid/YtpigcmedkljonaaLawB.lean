/- stir and step of layer 4's statements. -/
import Derived.Test.YtpigcmedkljonaaLawA
namespace Go.Proofs.Ytpigcmedkljonaa
open Go Go.RowKit
set_option linter.unusedVariables false
set_option linter.unusedSimpArgs false

theorem stir_any (p : Nat) (F : Nat → Prop) (zs : List Int) (room : Int) (w : World) (h : Stk 57 3 w p F (zs.map (Value.int .i64)) room) :
    Calls Try.prog 21 #[.pointer (some ⟨p, 0, none⟩)] w fun e w' => e = .returned (.tuple #[]) ∧ Chg w w' F := by
  go_enter Try.func21, Try.ntmps21
  go_wp2_with fail
  refine (SI.pop_any _ _ _ _ _ h).mono ?_
  rintro e w1 ⟨rfl, s1, c1⟩
  go_wp2_with fail
  refine (SI.pop_any _ _ _ _ _ s1).mono ?_
  rintro e w2 ⟨rfl, s2, c2⟩
  go_wp2_with fail
  refine (SI.push_any _ _ _ _ _ _ s2).mono ?_
  rintro e w3 ⟨rfl, s3, c3⟩
  go_wp2_with fail
  refine (SI.push_any _ _ _ _ _ _ s3).mono ?_
  rintro e w4 ⟨rfl, s4, c4⟩
  go_wp2_with fail
  refine (SI.push_any _ _ _ _ _ _ s4).mono ?_
  rintro e w5 ⟨rfl, s5, c5⟩
  go_wp2_with fail
  go_end0
  have a1 := c1.size
  have a2 := c2.size
  have a3 := c3.size
  refine ⟨rfl, (((c1.trans c2 (fun k _ h => h)).trans c3 (fun k _ h => h)).trans c4 ?_).trans c5 ?_⟩
  · intro k hk h; rcases h with h | h; exact h; omega
  · intro k hk h; rcases h with (h | h) | h; exact h; omega; omega

/-- A stack of the code's and one of the document's hold the same, apart from one another. -/
structure Two (w : World) (p r : Nat) (F G : Nat → Prop) (zs : List Int) (room : Int) : Prop where
  s : Stk 57 3 w p F (zs.map (Value.int .i64)) room
  r : Stk 60 3 w r G (zs.map (Value.int .i64)) room
  d : ∀ k, F k → ¬ G k

/-- What a step leaves: both again, whose blocks are of before, or new. -/
def After (w w' : World) (p r : Nat) (F G : Nat → Prop) (room : Int) : Prop :=
  ∃ F' G' zs, Two w' p r F' G' zs room ∧ Chg w w' (fun k => F k ∨ G k) ∧ (∀ k, F' k → F k ∨ w.heap.size ≤ k) ∧ (∀ k, G' k → G k ∨ w.heap.size ≤ k)

theorem Two.boxed {w : World} {p r : Nat} {F G : Nat → Prop} {zs : List Int} {room : Int} (h : Two w p r F G zs room) (o : Obj) : Two (w.alloc o) p r F G zs room :=
  ⟨h.s.chg (S := Nothing) ((Chg.refl _ _).alloc _) (fun _ _ h => h), h.r.chg (S := Nothing) ((Chg.refl _ _).alloc _) (fun _ _ h => h), h.d⟩

theorem After.boxed {w w' : World} {p r : Nat} {F G : Nat → Prop} {room : Int} {o : Obj} (h : After (w.alloc o) w' p r F G room) : After w w' p r F G room := by
  obtain ⟨F', G', zs, h1, h2, h3, h4⟩ := h
  have hs : (w.alloc o).heap.size = w.heap.size + 1 := by simp
  exact ⟨F', G', zs, h1, ((Chg.refl _ _).alloc o).trans h2 (fun _ _ h => h), fun k hk => (h3 k hk).imp id (by omega), fun k hk => (h4 k hk).imp id (by omega)⟩

theorem Two.after {w w1 w2 : World} {p r : Nat} {F G : Nat → Prop} {zs zs' : List Int} {room : Int} (h : Two w p r F G zs room) (s1 : Stk 57 3 w1 p (Grow F w w1) (zs'.map (Value.int .i64)) room) (c1 : Chg w w1 F)
    (r2 : Stk 60 3 w2 r (Grow G w1 w2) (zs'.map (Value.int .i64)) room) (c2 : Chg w1 w2 G) : After w w2 p r F G room := by
  have e1 := c1.size
  have e2 := h.r.lt
  have e3 := h.s.lt
  refine ⟨Grow F w w1, Grow G w1 w2, zs', ⟨s1.chg c2 ?_, r2, ?_⟩, ?_, ?_, ?_⟩
  · intro k hk hg; rcases hk with hk | hk; exact h.d k hk hg; have := e2 k hg; omega
  · intro k hk hg
    rcases hk with hk | hk <;> rcases hg with hg | hg
    · exact h.d k hk hg
    · have := e3 k hk; omega
    · have := e2 k hg; omega
    · omega
  · exact (c1.mono (fun k _ h => .inl h)).trans c2 (fun k _ h => .inr h)
  · intro k hk; exact hk.imp id (fun h => h.1)
  · intro k hk; exact hk.imp id (fun h => by omega)

theorem Two.push {w w1 : World} {p r : Nat} {F G : Nat → Prop} {zs : List Int} {room : Int} (h : Two w p r F G zs room) (c1 : Chg w w1 F) : Stk 60 3 w1 r G (zs.map (Value.int .i64)) room :=
  h.r.chg c1 (fun k hk hf => h.d k hf hk)

/-- The struct that was boxed is still there. -/
theorem box_cell {w w1 : World} {F : Nat → Prop} {cs : Array Value} {T : TypeId} {v : Value} (j : Nat) (c1 : Chg (w.alloc (.cells cs T)) w1 F) (hF : ∀ k, F k → k < w.heap.size) (hv : cs[j]? = some v) : w1.cell? ⟨w.heap.size, j, none⟩ = some v :=
  c1.cell ((blk_cell (heap_alloc_new w _) j).trans hv) (fun h => Nat.lt_irrefl _ (hF _ h))

theorem step_push (p r : Nat) (F G : Nat → Prop) (zs : List Int) (room n : Int) (s : ByteArray) (w : World) (h : Two w p r F G zs room) :
    Calls Try.prog 22 #[.pointer (some ⟨p, 0, none⟩), .pointer (some ⟨r, 0, none⟩), .agg #[.int .i64 1, .int .i64 n, .string s]] w fun e w' => e = .returned (.bool true) ∧ After w w' p r F G room := by
  have H := Lib.hid h
  clear h
  go_enter Try.func22, Try.ntmps22
  go_wp2_with fail
  refine (SI.push_any p F zs room _ _ (H.out.boxed _).s).mono ?_
  rintro e w1 ⟨rfl, s1, c1⟩
  have b1 := box_cell 1 c1 H.out.s.lt rfl
  go_wp2_with fail
  refine (SR.push_any r G zs room _ _ ((H.out.boxed _).push c1)).mono ?_
  rintro e w2 ⟨rfl, s2, c2⟩
  have hq : (pushE zs room == pushE zs room) = true := by simp
  have R := Lib.hid ((H.out.boxed _).after s1 c1 s2 c2).boxed
  clear s1 c1 s2 c2 b1
  go_wp2_with fail
  go_ret
  exact ⟨rfl, R.out⟩

theorem After.same {w w1 : World} {p r : Nat} {F G : Nat → Prop} {zs : List Int} {room : Int} (h : Two w p r F G zs room) (hc : Chg w w1 Nothing) : After w w1 p r F G room :=
  ⟨F, G, zs, ⟨h.s.chg hc (fun _ _ h => h), h.r.chg hc (fun _ _ h => h), h.d⟩, hc.mono (fun _ _ h => h.elim), fun _ h => .inl h, fun _ h => .inl h⟩

theorem Two.chg {w w1 : World} {p r : Nat} {F G : Nat → Prop} {zs : List Int} {room : Int} (h : Two w p r F G zs room) (hc : Chg w w1 Nothing) : Two w1 p r F G zs room :=
  ⟨h.s.chg hc (fun _ _ h => h), h.r.chg hc (fun _ _ h => h), h.d⟩

theorem step_pop (p r : Nat) (F G : Nat → Prop) (zs : List Int) (room n : Int) (s : ByteArray) (w : World) (h : Two w p r F G zs room) :
    Calls Try.prog 22 #[.pointer (some ⟨p, 0, none⟩), .pointer (some ⟨r, 0, none⟩), .agg #[.int .i64 2, .int .i64 n, .string s]] w fun e w' => e = .returned (.bool true) ∧ After w w' p r F G room := by
  have H := Lib.hid h
  clear h
  go_enter Try.func22, Try.ntmps22
  go_wp2_with fail
  refine (SI.pop_any p F zs room _ (H.out.boxed _).s).mono ?_
  rintro e w1 ⟨rfl, s1, c1⟩
  go_wp2_with fail
  refine (SR.pop_any r G zs room _ ((H.out.boxed _).push c1)).mono ?_
  rintro e w2 ⟨rfl, s2, c2⟩
  have hq : (popE zs == popE zs) = true := by simp
  have R := Lib.hid ((H.out.boxed _).after s1.grow c1 s2.grow c2).boxed
  clear s1 c1 s2 c2
  go_wp2_with fail
  go_ret
  exact ⟨rfl, R.out⟩

theorem step_pick (p r : Nat) (F G : Nat → Prop) (zs : List Int) (room n : Int) (s : ByteArray) (w : World) (h : Two w p r F G zs room) :
    Calls Try.prog 22 #[.pointer (some ⟨p, 0, none⟩), .pointer (some ⟨r, 0, none⟩), .agg #[.int .i64 3, .int .i64 n, .string s]] w fun e w' => e = .returned (.bool true) ∧ After w w' p r F G room := by
  have H := Lib.hid h
  clear h
  go_enter Try.func22, Try.ntmps22
  go_wp2_with fail
  refine (SI.pick_any p F zs room _ _ (H.out.boxed _).s).mono ?_
  rintro e w1 ⟨rfl, m1, rfl⟩
  go_wp2_with fail
  refine (SR.pick_any r G zs room _ _ ((H.out.boxed _).r.drewN m1)).mono ?_
  rintro e w2 ⟨rfl, m2, rfl⟩
  have hq : (pickE zs n == pickE zs n) = true := by simp
  go_wp2_with fail
  go_ret
  exact ⟨rfl, After.same H.out (((Chg.refl _ _).alloc _).drewN _)⟩

theorem step_all (p r : Nat) (F G : Nat → Prop) (zs : List Int) (room n : Int) (s : ByteArray) (w : World) (h : Two w p r F G zs room) :
    Calls Try.prog 22 #[.pointer (some ⟨p, 0, none⟩), .pointer (some ⟨r, 0, none⟩), .agg #[.int .i64 4, .int .i64 n, .string s]] w fun e w' => e = .returned (.bool true) ∧ After w w' p r F G room := by
  have H := Lib.hid h
  have hl := Lib.hid h.s.fits
  clear h
  go_enter Try.func22, Try.ntmps22
  go_wp2_with fail
  refine (SR.all_any r G _ room _ (H.out.boxed _).r (by intro u hu; obtain ⟨z, _, rfl⟩ := List.mem_map.1 hu; exact ⟨z, rfl⟩)).mono ?_
  rintro e w1 ⟨a1, k1, rfl, o1, c1⟩
  have T1 := Lib.hid ((H.out.boxed _).chg c1)
  go_wp2_with fail
  refine (SI.len_any p F _ room _ T1.out.s).mono ?_
  rintro e w2 ⟨rfl, rfl⟩
  go_wp2_with fail
  refine (SR.len_any r G _ room _ T1.out.r).mono ?_
  rintro e w2 ⟨rfl, rfl⟩
  go_wp2_with fail
  refine (SI.room_any p F _ room _ T1.out.s).mono ?_
  rintro e w2 ⟨rfl, rfl⟩
  go_wp2_with fail
  refine (SR.room_any r G _ room _ T1.out.r).mono ?_
  rintro e w2 ⟨rfl, rfl⟩
  have hq : (room == room) = true := by simp
  go_wp2_with fail
  refine (SI.all_any p F _ room _ T1.out.s (ints_one zs)).mono ?_
  rintro e w2 ⟨a2, k2, rfl, o2, c2⟩
  have S1 := Lib.hid ((Sees.of_owns o1).chg c2)
  have S2 := Lib.hid (Sees.of_owns o2)
  have R := Lib.hid (show Chg w w2 Nothing from (((Chg.refl _ _).alloc _).trans c1 (fun _ _ h => h)).trans c2 (fun _ _ h => h))
  clear o1 o2 c1 c2
  go_wp2_with fail
  refine (same_true a2 a1 k2 k1 zs w2 S2.out S1.out (by have := hl.out; simp at this; omega)).mono ?_
  rintro e w3 ⟨rfl, m, rfl⟩
  go_wp2_with fail
  go_ret
  exact ⟨rfl, After.same H.out (R.out.drewN m)⟩

theorem step_clear (p r : Nat) (F G : Nat → Prop) (zs : List Int) (room n : Int) (s : ByteArray) (w : World) (h : Two w p r F G zs room) :
    Calls Try.prog 22 #[.pointer (some ⟨p, 0, none⟩), .pointer (some ⟨r, 0, none⟩), .agg #[.int .i64 5, .int .i64 n, .string s]] w fun e w' => e = .returned (.bool true) ∧ After w w' p r F G room := by
  have H := Lib.hid h
  clear h
  go_enter Try.func22, Try.ntmps22
  go_wp2_with fail
  refine (SI.clear_any p F _ room _ (H.out.boxed _).s).mono ?_
  rintro e w1 ⟨rfl, s1, c1⟩
  go_wp2_with fail
  refine (SR.clear_any r G _ room _ ((H.out.boxed _).push c1)).mono ?_
  rintro e w2 ⟨rfl, s2, c2⟩
  have R := Lib.hid ((H.out.boxed _).after (zs' := []) s1.grow c1 s2.grow c2).boxed
  clear s1 c1 s2 c2
  go_wp2_with fail
  go_ret
  exact ⟨rfl, R.out⟩

theorem step_other (p r : Nat) (F G : Nat → Prop) (zs : List Int) (room k n : Int) (s : ByteArray) (w : World) (h : Two w p r F G zs room) (h1 : k ≠ 1) (h2 : k ≠ 2) (h3 : k ≠ 3) (h4 : k ≠ 4) (h5 : k ≠ 5) :
    Calls Try.prog 22 #[.pointer (some ⟨p, 0, none⟩), .pointer (some ⟨r, 0, none⟩), .agg #[.int .i64 k, .int .i64 n, .string s]] w fun e w' => e = .returned (.bool true) ∧ After w w' p r F G room := by
  have H := Lib.hid h
  clear h
  have b1 : (k == 1) = false := by simpa using h1
  have b2 : (k == 2) = false := by simpa using h2
  have b3 : (k == 3) = false := by simpa using h3
  have b4 : (k == 4) = false := by simpa using h4
  have b5 : (k == 5) = false := by simpa using h5
  clear h1 h2 h3 h4 h5
  go_enter Try.func22, Try.ntmps22
  go_wp2_with fail
  go_ret
  exact ⟨rfl, After.same H.out ((Chg.refl _ _).alloc _)⟩

end Go.Proofs.Ytpigcmedkljonaa
