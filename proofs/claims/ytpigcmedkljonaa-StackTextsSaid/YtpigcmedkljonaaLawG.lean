/- text of layer 4's statements: a stack of texts beside the document's. -/
import Derived.Test.YtpigcmedkljonaaSS
import Derived.Test.YtpigcmedkljonaaLawA
namespace Go.Proofs.Ytpigcmedkljonaa
open Go Go.RowKit
set_option linter.unusedVariables false
set_option linter.unusedSimpArgs false

/-- The text with a number. -/
def nm (ns : List ByteArray) (z : Int) : ByteArray := ns.getD z.toNat ByteArray.empty

theorem texts_one (l : List ByteArray) : ∀ u ∈ l.map Value.string, u.oneCell' = true := by
  intro u hu; obtain ⟨z, _, rfl⟩ := List.mem_map.1 hu; rfl

theorem nm_cell {w : World} {b o : Nat} {ns : List ByteArray} {z : Int} (g : ∀ j u, (ns.map Value.string)[j]? = some u → w.cell? ⟨b, o + j, none⟩ = some u) (h0 : 0 ≤ z) (h1 : z < ns.length) :
    w.cell? ⟨b, o + z.toNat, none⟩ = some (.string (nm ns z)) := by
  refine g z.toNat _ ?_
  have : z.toNat < ns.length := by omega
  simp [nm, this]

/-- A stack of texts and one of their numbers hold the same, apart from one another. -/
structure TwoT (w : World) (p r : Nat) (F G : Nat → Prop) (zs : List Int) (ns : List ByteArray) (room : Int) : Prop where
  s : Stk 55 9 w p F ((zs.map (nm ns)).map Value.string) room
  r : Stk 60 3 w r G (zs.map (Value.int .i64)) room
  d : ∀ k, F k → ¬ G k
  v : ∀ z ∈ zs, 0 ≤ z ∧ z < ns.length
  n0 : nm ns 0 = ByteArray.empty
  n1 : 0 < ns.length

def AfterT (w w' : World) (p r : Nat) (F G : Nat → Prop) (ns : List ByteArray) (room : Int) : Prop :=
  ∃ F' G' zs, TwoT w' p r F' G' zs ns room ∧ Chg w w' (fun k => F k ∨ G k) ∧ (∀ k, F' k → F k ∨ w.heap.size ≤ k) ∧ (∀ k, G' k → G k ∨ w.heap.size ≤ k)

theorem named_true (a b n : Option Addr) (c1 c2 c3 : Nat) (zs : List Int) (ns : List ByteArray) (w : World) (h1 : Sees w a ((zs.map (nm ns)).map Value.string)) (h2 : Sees w b (zs.map (Value.int .i64))) (h3 : Sees w n (ns.map Value.string))
    (hv : ∀ z ∈ zs, 0 ≤ z ∧ z < ns.length) (hl : zs.length ≤ 140737488355328) :
    Calls Try.prog 31 #[.slice a zs.length c1, .slice b zs.length c2, .slice n ns.length c3] w fun e w' => e = .returned (.bool true) ∧ ∃ m, w' = w.drewN m := by
  have H1 := Lib.hid h1
  have H2 := Lib.hid h2
  have H3 := Lib.hid h3
  have HV := Lib.hid hv
  clear h1 h2 h3 hv
  have hb : ((zs.length : Int) != (zs.length : Int)) = false := by simp
  go_enter Try.func31, Try.ntmps31
  go_wp2
  go_loopg [7] zs.length (fun k i wr => ∃ n : Nat, n + k = zs.length ∧ i = .int .i64 n ∧ ∃ m, wr = w.drewN m)
  case atStart => exact ⟨0, by simp, rfl, 0, rfl⟩
  case round =>
    obtain ⟨i, hi, rfl, m, rfl⟩ := hrel
    by_cases hlt : i < zs.length
    · have hd : decide (i < zs.length) = true := by simpa using hlt
      rcases H1.out with h | ⟨b1, o1, rfl, g1⟩
      · simp at h; subst h; simp at hlt
      rcases H2.out with h | ⟨b2, o2, rfl, g2⟩
      · simp at h; subst h; simp at hlt
      obtain ⟨v0, v1⟩ := HV.out zs[i] (List.getElem_mem _)
      rcases H3.out with h | ⟨b3, o3, rfl, g3⟩
      · simp at h; subst h; simp at v1; omega
      have k1 := g1 i (.string (nm ns zs[i])) (by simp [hlt])
      have k2 := g2 i (.int .i64 zs[i]) (by simp [hlt])
      have k3 := nm_cell g3 v0 v1
      clear g1 g2 g3
      generalize nm ns zs[i] = s at k1 k3
      generalize zs[i] = z at k2 k3 v0 v1
      go_wp2
      go_quiet (fail)
      go_wp2
      go_roundg (gk - 1)
      case measure => omega
      case rel => exact ⟨i + 1, by omega, by go_num, _, rfl⟩
    · have hd : decide (i < zs.length) = false := by simpa using hlt
      go_wp2
      go_ret
      exact ⟨rfl, _, rfl⟩

section
variable {w w1 w2 : World} {p r : Nat} {F G : Nat → Prop} {zs zs' : List Int} {ns : List ByteArray} {room : Int}

theorem TwoT.chg (h : TwoT w p r F G zs ns room) (hc : Chg w w1 Nothing) : TwoT w1 p r F G zs ns room :=
  ⟨h.s.chg hc (fun _ _ h => h), h.r.chg hc (fun _ _ h => h), h.d, h.v, h.n0, h.n1⟩
theorem TwoT.boxed (h : TwoT w p r F G zs ns room) (o : Obj) : TwoT (w.alloc o) p r F G zs ns room := h.chg ((Chg.refl _ _).alloc _)
theorem AfterT.boxed {o : Obj} (h : AfterT (w.alloc o) w1 p r F G ns room) : AfterT w w1 p r F G ns room := by
  obtain ⟨F', G', zs, h1, h2, h3, h4⟩ := h
  have hs : (w.alloc o).heap.size = w.heap.size + 1 := by simp
  exact ⟨F', G', zs, h1, ((Chg.refl _ _).alloc o).trans h2 (fun _ _ h => h), fun k hk => (h3 k hk).imp id (by omega), fun k hk => (h4 k hk).imp id (by omega)⟩
theorem TwoT.after (h : TwoT w p r F G zs ns room) (s1 : Stk 55 9 w1 p (Grow F w w1) ((zs'.map (nm ns)).map Value.string) room) (c1 : Chg w w1 F)
    (r2 : Stk 60 3 w2 r (Grow G w1 w2) (zs'.map (Value.int .i64)) room) (c2 : Chg w1 w2 G) (hv : ∀ z ∈ zs', 0 ≤ z ∧ z < ns.length) : AfterT w w2 p r F G ns room := by
  have e1 := c1.size
  have e2 := h.r.lt
  have e3 := h.s.lt
  refine ⟨Grow F w w1, Grow G w1 w2, zs', ⟨s1.chg c2 ?_, r2, ?_, hv, h.n0, h.n1⟩, ?_, ?_, ?_⟩
  · intro k hk hg; rcases hk with hk | hk; exact h.d k hk hg; have := e2 k hg; omega
  · intro k hk hg
    rcases hk with hk | hk <;> rcases hg with hg | hg
    · exact h.d k hk hg
    · have := e3 k hk; omega
    · have := e2 k hg; omega
    · omega
  · exact (c1.mono (fun k _ h => .inl h)).trans c2 (fun k _ h => .inr h)
  · intro k hk; exact hk.imp id (fun h => h.1)
  · intro k hk; exact hk.imp id (fun h => by omega)
theorem TwoT.push (h : TwoT w p r F G zs ns room) (c1 : Chg w w1 F) : Stk 60 3 w1 r G (zs.map (Value.int .i64)) room :=
  h.r.chg c1 (fun k hk hf => h.d k hf hk)
theorem AfterT.same (h : TwoT w p r F G zs ns room) (hc : Chg w w1 Nothing) : AfterT w w1 p r F G ns room :=
  ⟨F, G, zs, h.chg hc, hc.mono (fun _ _ h => h.elim), fun _ h => .inl h, fun _ h => .inl h⟩

theorem popV_map {α β : Type} (f : α → β) (l : List α) (d : α) : popV (f d) (l.map f) = f (popV d l) := by
  rcases List.eq_nil_or_concat l with rfl | ⟨ys, y, rfl⟩ <;> simp [popV]
theorem pickV_map {α β : Type} (f : α → β) (l : List α) (d : α) (n : Int) : pickV (f d) (l.map f) n = f (pickV d l n) := by
  unfold pickV
  rw [List.length_map]
  split
  · rename_i h
    rw [List.getD_eq_getElem?_getD, List.getD_eq_getElem?_getD, List.getElem?_map]
    cases l[l.length - 1 - n.toNat]? <;> rfl
  · rfl
theorem pickE_map {α β : Type} (f : α → β) (l : List α) (n : Int) : pickE (l.map f) n = pickE l n := by unfold pickE; rw [List.length_map]
theorem popE_map {α β : Type} (f : α → β) (l : List α) : popE (l.map f) = popE l := by unfold popE; simp
theorem pushE_map {α β : Type} (f : α → β) (l : List α) (n : Int) : pushE (l.map f) n = pushE l n := by unfold pushE; rw [List.length_map]
theorem pushL_map {α β : Type} (f : α → β) (l : List α) (n : Int) (x : α) : pushL (l.map f) n (f x) = (pushL l n x).map f := by unfold pushL; rw [List.length_map]; split <;> simp
theorem pickV_mem {P : Int → Prop} (l : List Int) (n : Int) (h : ∀ z ∈ l, P z) (h0 : P 0) : P (pickV 0 l n) := by
  unfold pickV
  split
  · rw [List.getD_eq_getElem?_getD]
    cases hx : l[l.length - 1 - n.toNat]? with
    | none => exact h0
    | some z => exact h z (List.mem_of_getElem? hx)
  · exact h0
theorem popV_mem {P : Int → Prop} (l : List Int) (h : ∀ z ∈ l, P z) (h0 : P 0) : P (popV 0 l) := by
  rcases List.eq_nil_or_concat l with rfl | ⟨ys, y, rfl⟩
  · exact h0
  · simp [popV]; exact h y (by simp)
theorem pushL_mem {P : Int → Prop} (l : List Int) (n x : Int) (h : ∀ z ∈ l, P z) (hx : P x) : ∀ z ∈ pushL l n x, P z := by
  unfold pushL
  split
  · intro z hz; simp at hz; rcases hz with hz | rfl; exact h z hz; exact hx
  · exact h

/-- The texts' methods, told by numbers. -/
theorem TwoT.pop_s (h : TwoT w p r F G zs ns room) :
    Calls Try.prog 27 #[.pointer (some ⟨p, 0, none⟩)] w fun e w' => e = .returned (.tuple #[.string (nm ns (popV 0 zs)), .int .i64 (popE zs)]) ∧
      Stk 55 9 w' p F ((zs.dropLast.map (nm ns)).map Value.string) room ∧ Chg w w' F := by
  refine (SS.pop_any p F _ room w h.s).mono fun e w' ⟨he, hs, hc⟩ => ⟨?_, ?_, hc⟩
  · rw [he, popE_map, ← popV_map (nm ns), h.n0]
  · rwa [List.map_dropLast]
theorem TwoT.pick_s (h : TwoT w p r F G zs ns room) (n : Int) :
    Calls Try.prog 39 #[.pointer (some ⟨p, 0, none⟩), .int .i64 n] w fun e w' => e = .returned (.tuple #[.string (nm ns (pickV 0 zs n)), .int .i64 (pickE zs n)]) ∧ ∃ m, w' = w.drewN m := by
  refine (SS.pick_any p F _ room n w h.s).mono fun e w' ⟨he, hs⟩ => ⟨?_, hs⟩
  rw [he, pickE_map, ← pickV_map (nm ns), h.n0]
theorem TwoT.push_s (h : TwoT w p r F G zs ns room) (z : Int) (x : ByteArray) (hx : x = nm ns z) :
    Calls Try.prog 28 #[.pointer (some ⟨p, 0, none⟩), .string x] w fun e w' => e = .returned (.int .i64 (pushE zs room)) ∧
      Stk 55 9 w' p (Grow F w w') (((pushL zs room z).map (nm ns)).map Value.string) room ∧ Chg w w' F := by
  subst hx
  refine (SS.push_any p F _ room _ w h.s).mono fun e w' ⟨he, hs, hc⟩ => ⟨?_, ?_, hc⟩
  · rw [he, pushE_map]
  · rwa [pushL_map] at hs
end

end Go.Proofs.Ytpigcmedkljonaa
