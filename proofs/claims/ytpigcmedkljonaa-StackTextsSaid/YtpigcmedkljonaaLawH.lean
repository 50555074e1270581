/- text: the steps. -/
import Derived.Test.YtpigcmedkljonaaLawG
namespace Go.Proofs.Ytpigcmedkljonaa
open Go Go.RowKit
set_option linter.unusedVariables false
set_option linter.unusedSimpArgs false

theorem text_push (p r : Nat) (F G : Nat → Prop) (zs : List Int) (ns : List ByteArray) (room n : Int) (s : ByteArray) (a : Option Addr) (c : Nat) (w : World) (h : TwoT w p r F G zs ns room) (hs : Sees w a (ns.map Value.string)) (hl : ns.length ≤ 140737488355328) (hN : ∀ b o, a = some ⟨b, o, none⟩ → ¬ F b ∧ ¬ G b) (hx : s = nm ns ((ns.length : Int) - 1)) :
    Calls Try.prog 29 #[.pointer (some ⟨p, 0, none⟩), .pointer (some ⟨r, 0, none⟩), .agg #[.int .i64 1, .int .i64 n, .string s], .slice a ns.length c] w fun e w' => e = .returned (.bool true) ∧ AfterT w w' p r F G ns room := by
  have H := Lib.hid h
  have HS := Lib.hid hs
  have HN := Lib.hid hN
  clear h hs hN
  have HX := Lib.hid hx
  clear hx
  have h1 := H.out.n1
  go_enter Try.func29, Try.ntmps29
  go_wp2_with fail
  refine ((H.out.boxed _).push_s ((ns.length : Int) - 1) _ HX.out).mono ?_
  rintro e w1 ⟨rfl, s1, c1⟩
  go_wp2_with fail
  refine (SR.push_any r G zs room _ _ ((H.out.boxed _).push c1)).mono ?_
  rintro e w2 ⟨rfl, s2, c2⟩
  have hq : (pushE zs room == pushE zs room) = true := by simp
  have R := Lib.hid ((H.out.boxed _).after s1 c1 s2 c2 (pushL_mem _ _ _ H.out.v (by omega))).boxed
  clear s1 c1 s2 c2
  go_wp2_with fail
  go_ret
  exact ⟨rfl, R.out⟩

theorem text_pop (p r : Nat) (F G : Nat → Prop) (zs : List Int) (ns : List ByteArray) (room n : Int) (s : ByteArray) (a : Option Addr) (c : Nat) (w : World) (h : TwoT w p r F G zs ns room) (hs : Sees w a (ns.map Value.string)) (hl : ns.length ≤ 140737488355328) (hN : ∀ b o, a = some ⟨b, o, none⟩ → ¬ F b ∧ ¬ G b) :
    Calls Try.prog 29 #[.pointer (some ⟨p, 0, none⟩), .pointer (some ⟨r, 0, none⟩), .agg #[.int .i64 2, .int .i64 n, .string s], .slice a ns.length c] w fun e w' => e = .returned (.bool true) ∧ AfterT w w' p r F G ns room := by
  have H := Lib.hid h
  have HS := Lib.hid hs
  have HN := Lib.hid hN
  clear h hs hN
  go_enter Try.func29, Try.ntmps29
  go_wp2_with fail
  refine ((H.out.boxed _).pop_s).mono ?_
  rintro e w1 ⟨rfl, s1, c1⟩
  go_wp2_with fail
  refine (SR.pop_any r G zs room _ ((H.out.boxed _).push c1)).mono ?_
  rintro e w2 ⟨rfl, s2, c2⟩
  have hq : (popE zs == popE zs) = true := by simp
  have R := Lib.hid ((H.out.boxed _).after s1.grow c1 s2.grow c2 (fun z hz => H.out.v z (List.dropLast_subset _ hz))).boxed
  have V := popV_mem (P := fun z => 0 ≤ z ∧ z < ns.length) zs H.out.v ⟨by omega, by have := H.out.n1; omega⟩
  have K := Lib.hid (show ∃ b o, a = some ⟨b, o, none⟩ ∧ w2.cell? ⟨b, o + (popV 0 zs).toNat, none⟩ = some (.string (nm ns (popV 0 zs))) from by
    rcases HS.out with h | ⟨b, o, rfl, g⟩
    · simp at h; subst h; simp at V; omega
    · have hk := nm_cell g V.1 V.2
      exact ⟨b, o, rfl, c2.cell (c1.cell (cell_alloc hk _) (HN.out b o rfl).1) (HN.out b o rfl).2⟩)
  clear s1 c1 s2 c2
  obtain ⟨b, o, rfl, hk⟩ := K.out
  generalize popV 0 zs = z at hk V ⊢
  generalize nm ns z = x at hk ⊢
  obtain ⟨v0, v1⟩ := V
  go_wp2_with fail
  go_ret
  exact ⟨rfl, R.out⟩

theorem text_pick (p r : Nat) (F G : Nat → Prop) (zs : List Int) (ns : List ByteArray) (room n : Int) (s : ByteArray) (a : Option Addr) (c : Nat) (w : World) (h : TwoT w p r F G zs ns room) (hs : Sees w a (ns.map Value.string)) (hl : ns.length ≤ 140737488355328) (hN : ∀ b o, a = some ⟨b, o, none⟩ → ¬ F b ∧ ¬ G b) :
    Calls Try.prog 29 #[.pointer (some ⟨p, 0, none⟩), .pointer (some ⟨r, 0, none⟩), .agg #[.int .i64 3, .int .i64 n, .string s], .slice a ns.length c] w fun e w' => e = .returned (.bool true) ∧ AfterT w w' p r F G ns room := by
  have H := Lib.hid h
  have HS := Lib.hid hs
  have HN := Lib.hid hN
  clear h hs hN
  go_enter Try.func29, Try.ntmps29
  go_wp2_with fail
  refine ((H.out.boxed _).pick_s n).mono ?_
  rintro e w1 ⟨rfl, m1, rfl⟩
  go_wp2_with fail
  refine (SR.pick_any r G zs room _ _ ((H.out.boxed _).r.drewN m1)).mono ?_
  rintro e w2 ⟨rfl, m2, rfl⟩
  have hq : (pickE zs n == pickE zs n) = true := by simp
  have V := pickV_mem (P := fun z => 0 ≤ z ∧ z < ns.length) zs n H.out.v ⟨by omega, by have := H.out.n1; omega⟩
  have K := Lib.hid (show ∃ b o, a = some ⟨b, o, none⟩ ∧ w.cell? ⟨b, o + (pickV 0 zs n).toNat, none⟩ = some (.string (nm ns (pickV 0 zs n))) ∧ b < w.heap.size from by
    rcases HS.out with h | ⟨b, o, rfl, g⟩
    · simp at h; subst h; simp at V; omega
    · have hk := nm_cell g V.1 V.2
      exact ⟨b, o, rfl, hk, cell_lt hk⟩)
  obtain ⟨b, o, rfl, hk, hb⟩ := K.out
  generalize pickV 0 zs n = z at hk V ⊢
  generalize nm ns z = x at hk ⊢
  obtain ⟨v0, v1⟩ := V
  go_wp2_with fail
  go_ret
  exact ⟨rfl, AfterT.same H.out (((Chg.refl _ _).alloc _).drewN _)⟩

theorem text_all (p r : Nat) (F G : Nat → Prop) (zs : List Int) (ns : List ByteArray) (room n : Int) (s : ByteArray) (a : Option Addr) (c : Nat) (w : World) (h : TwoT w p r F G zs ns room) (hs : Sees w a (ns.map Value.string)) (hl : ns.length ≤ 140737488355328) (hN : ∀ b o, a = some ⟨b, o, none⟩ → ¬ F b ∧ ¬ G b) :
    Calls Try.prog 29 #[.pointer (some ⟨p, 0, none⟩), .pointer (some ⟨r, 0, none⟩), .agg #[.int .i64 4, .int .i64 n, .string s], .slice a ns.length c] w fun e w' => e = .returned (.bool true) ∧ AfterT w w' p r F G ns room := by
  have H := Lib.hid h
  have HS := Lib.hid hs
  have HN := Lib.hid hN
  clear h hs hN
  have hfit := Lib.hid H.out.s.fits
  go_enter Try.func29, Try.ntmps29
  go_wp2_with fail
  refine (SR.all_any r G _ room _ (H.out.boxed _).r (by intro u hu; obtain ⟨z, _, rfl⟩ := List.mem_map.1 hu; exact ⟨z, rfl⟩)).mono ?_
  rintro e w1 ⟨a1, k1, rfl, o1, c1⟩
  have T1 := Lib.hid ((H.out.boxed _).chg c1)
  go_wp2_with fail
  refine (SS.len_any p F _ room _ T1.out.s).mono ?_
  rintro e w2 ⟨rfl, rfl⟩
  go_wp2_with fail
  refine (SR.len_any r G _ room _ T1.out.r).mono ?_
  rintro e w2 ⟨rfl, rfl⟩
  go_wp2_with fail
  refine (SS.room_any p F _ room _ T1.out.s).mono ?_
  rintro e w2 ⟨rfl, rfl⟩
  go_wp2_with fail
  refine (SR.room_any r G _ room _ T1.out.r).mono ?_
  rintro e w2 ⟨rfl, rfl⟩
  have hq : (room == room) = true := by simp
  go_wp2_with fail
  refine (SS.all_any p F _ room _ T1.out.s (texts_one _)).mono ?_
  rintro e w2 ⟨a2, k2, rfl, o2, c2⟩
  have S1 := Lib.hid ((Sees.of_owns o1).chg c2)
  have S2 := Lib.hid (Sees.of_owns o2)
  have R := Lib.hid (show Chg w w2 Nothing from (((Chg.refl _ _).alloc _).trans c1 (fun _ _ h => h)).trans c2 (fun _ _ h => h))
  have S3 := Lib.hid (HS.out.chg R.out)
  clear o1 o2 c1 c2
  go_wp2_with fail
  refine (named_true a2 a1 a k2 k1 c zs ns w2 S2.out S1.out S3.out H.out.v (by have := hfit.out; simp at this; omega)).mono ?_
  rintro e w3 ⟨rfl, m, rfl⟩
  go_wp2_with fail
  go_ret
  exact ⟨rfl, AfterT.same H.out (R.out.drewN m)⟩

theorem text_clear (p r : Nat) (F G : Nat → Prop) (zs : List Int) (ns : List ByteArray) (room n : Int) (s : ByteArray) (a : Option Addr) (c : Nat) (w : World) (h : TwoT w p r F G zs ns room) (hs : Sees w a (ns.map Value.string)) (hl : ns.length ≤ 140737488355328) (hN : ∀ b o, a = some ⟨b, o, none⟩ → ¬ F b ∧ ¬ G b) :
    Calls Try.prog 29 #[.pointer (some ⟨p, 0, none⟩), .pointer (some ⟨r, 0, none⟩), .agg #[.int .i64 5, .int .i64 n, .string s], .slice a ns.length c] w fun e w' => e = .returned (.bool true) ∧ AfterT w w' p r F G ns room := by
  have H := Lib.hid h
  have HS := Lib.hid hs
  have HN := Lib.hid hN
  clear h hs hN
  go_enter Try.func29, Try.ntmps29
  go_wp2_with fail
  refine (SS.clear_any p F _ room _ (H.out.boxed _).s).mono ?_
  rintro e w1 ⟨rfl, s1, c1⟩
  go_wp2_with fail
  refine (SR.clear_any r G _ room _ ((H.out.boxed _).push c1)).mono ?_
  rintro e w2 ⟨rfl, s2, c2⟩
  have R := Lib.hid ((H.out.boxed _).after (zs' := []) s1.grow c1 s2.grow c2 (by simp)).boxed
  clear s1 c1 s2 c2
  go_wp2_with fail
  go_ret
  exact ⟨rfl, R.out⟩

theorem text_other (p r : Nat) (F G : Nat → Prop) (zs : List Int) (ns : List ByteArray) (room n : Int) (s : ByteArray) (a : Option Addr) (c : Nat) (w : World) (h : TwoT w p r F G zs ns room) (hs : Sees w a (ns.map Value.string)) (hl : ns.length ≤ 140737488355328) (hN : ∀ b o, a = some ⟨b, o, none⟩ → ¬ F b ∧ ¬ G b) (k : Int) (h1 : k ≠ 1) (h2 : k ≠ 2) (h3 : k ≠ 3) (h4 : k ≠ 4) (h5 : k ≠ 5) :
    Calls Try.prog 29 #[.pointer (some ⟨p, 0, none⟩), .pointer (some ⟨r, 0, none⟩), .agg #[.int .i64 k, .int .i64 n, .string s], .slice a ns.length c] w fun e w' => e = .returned (.bool true) ∧ AfterT w w' p r F G ns room := by
  have H := Lib.hid h
  have HS := Lib.hid hs
  have HN := Lib.hid hN
  clear h hs hN
  have b1 : (k == 1) = false := by simpa using h1
  have b2 : (k == 2) = false := by simpa using h2
  have b3 : (k == 3) = false := by simpa using h3
  have b4 : (k == 4) = false := by simpa using h4
  have b5 : (k == 5) = false := by simpa using h5
  clear h1 h2 h3 h4 h5
  go_enter Try.func29, Try.ntmps29
  go_wp2_with fail
  go_ret
  exact ⟨rfl, AfterT.same H.out ((Chg.refl _ _).alloc _)⟩

theorem text_any (p r : Nat) (F G : Nat → Prop) (zs : List Int) (ns : List ByteArray) (room k n : Int) (s : ByteArray) (a : Option Addr) (c : Nat) (w : World) (h : TwoT w p r F G zs ns room) (hs : Sees w a (ns.map Value.string)) (hl : ns.length ≤ 140737488355328) (hN : ∀ b o, a = some ⟨b, o, none⟩ → ¬ F b ∧ ¬ G b) (hx : s = nm ns ((ns.length : Int) - 1)) (len : Nat) (hlen : ns.length = len) :
    Calls Try.prog 29 #[.pointer (some ⟨p, 0, none⟩), .pointer (some ⟨r, 0, none⟩), .agg #[.int .i64 k, .int .i64 n, .string s], .slice a len c] w fun e w' => e = .returned (.bool true) ∧ AfterT w w' p r F G ns room := by
  subst hlen
  by_cases h1 : k = 1
  · subst h1; exact text_push p r F G zs ns room n s a c w h hs hl hN hx
  by_cases h2 : k = 2
  · subst h2; exact text_pop p r F G zs ns room n s a c w h hs hl hN
  by_cases h3 : k = 3
  · subst h3; exact text_pick p r F G zs ns room n s a c w h hs hl hN
  by_cases h4 : k = 4
  · subst h4; exact text_all p r F G zs ns room n s a c w h hs hl hN
  by_cases h5 : k = 5
  · subst h5; exact text_clear p r F G zs ns room n s a c w h hs hl hN
  exact text_other p r F G zs ns room n s a c w h hs hl hN k h1 h2 h3 h4 h5

end Go.Proofs.Ytpigcmedkljonaa
