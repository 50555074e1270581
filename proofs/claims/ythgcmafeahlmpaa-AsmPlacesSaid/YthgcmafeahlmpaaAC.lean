/- live, AsmBuilds and AsmTwo: their walks. -/
import Derived.Test.YthgcmafeahlmpaaAB
namespace Go.Proofs.Ythgcmafeahlmpaa
open Go Go.RowKit
set_option linter.unusedVariables false
set_option linter.unusedSimpArgs false

def liveS : Asm := ⟨1, [(15, 0, 0), (11, 0, 0)], [none, some 0], 1, [(0, 0)]⟩
theorem live_fill : fillAll liveS.marks liveS.code liveS.tos = some [(15, 0, 0), (11, 0, 0)] := by rfl
theorem live_progE : progE liveS = 0 := by
  rw [progE_some (l := [(15, 0, 0), (11, 0, 0)]) ⟨by simp [liveS], by simp [liveS]⟩ live_fill]
  exact if_pos ⟨.inl rfl, by simp, by simp, by decide +kernel⟩

set_option maxRecDepth 100000 in
set_option maxHeartbeats 4000000 in
theorem live_any (w : World) : Calls Try.prog 6 #[] w fun e w' => e = .returned (.bool true) ∧ Chg w w' Nothing := by
  have heq : ∀ w, (Op.equalIn 9999 28 (Value.float .f64 0) (Value.float .f64 0)).run Try.prog w = .ok true w := fun w => by rfl
  go_enter Try.func6, Try.ntmps6
  go_wp2_with fail
  refine (new_any 1 w).mono ?_
  rintro e w1 ⟨p, rfl, hp, b1, c1⟩
  go_wp2_with fail
  refine (label_more p _ _ w1 b1 (by decide)).mono ?_
  rintro e w2 ⟨he, b2, c2⟩
  obtain rfl : e = .returned (.int .i64 0) := he
  go_wp2_with fail
  refine (mark_any p _ _ 0 w2 b2 (by decide)).mono ?_
  rintro e w3 ⟨rfl, b3, c3⟩
  go_wp2_with fail
  refine (add_any p _ _ 15 0 w3 b3 (by decide)).mono ?_
  rintro e w4 ⟨rfl, b4, c4⟩
  go_wp2_with fail
  refine (to_any p _ _ 11 0 w4 b4 (by decide)).mono ?_
  rintro e w5 ⟨rfl, b5, c5⟩
  have hz1 := c1.size
  have hz2 := c2.size
  have hz3 := c3.size
  have hz4 := c4.size
  have C5 := Lib.hid (show Chg w w5 Nothing from by
    have k2 : Chg w w2 Nothing := c1.trans c2 (fun k hk h => by rcases h with h | h; exact h.elim; omega)
    have k3 : Chg w w3 Nothing := k2.trans c3 (fun k hk h => by rcases h with (h | h) | h; exact h.elim; omega; omega)
    have k4 : Chg w w4 Nothing := k3.trans c4 (fun k hk h => by rcases h with ((h | h) | h) | h; exact h.elim; omega; omega; omega)
    exact k4.trans c5 (fun k hk h => by rcases h with (((h | h) | h) | h) | h; exact h.elim; omega; omega; omega; omega))
  obtain ⟨F, hF⟩ : ∃ F, Bd w5 p F liveS := ⟨_, b5⟩
  have B5 := Lib.hid hF
  clear b1 b2 b3 b4 b5 c1 c2 c3 c4 c5 hz1 hz2 hz3 hz4 hF
  go_wp2_with fail
  refine (program_any p F liveS w5 B5.out (by decide)).mono ?_
  rintro e w6 ⟨v, rfl, hc6, hP⟩
  rw [live_progE]
  obtain ⟨gc, rfl, hown⟩ : ∃ gc, v = .agg #[.int .i64 1, .slice (some ⟨gc, 0, none⟩) 2 2] ∧ w6.ownsRow w5.heap.size 42 3 (.slice (some ⟨gc, 0, none⟩) 2 2) 2 (insV [(15, 0, 0), (11, 0, 0)]) := by
    rcases hP with ⟨h, _⟩ | ⟨_, out, gc, h1, h2, rfl, h3⟩
    · rw [live_progE] at h; exact absurd rfl h
    · rw [live_fill] at h1
      cases h1
      exact ⟨gc, rfl, h3⟩
  have k0 : w6.cell? ⟨gc, 0, none⟩ = some (.int .i64 15) := hown.cellAt 0 (by decide)
  have k3 : w6.cell? ⟨gc, 3, none⟩ = some (.int .i64 11) := hown.cellAt 3 (by decide)
  have k4 : w6.cell? ⟨gc, 4, none⟩ = some (.int .i64 0) := hown.cellAt 4 (by decide)
  have k5 : w6.cell? ⟨gc, 5, none⟩ = some (fl 0) := hown.cellAt 5 (by decide)
  have hg := (hown.lt gc rfl).2
  have hgn : ¬ gc = w6.heap.size := by omega
  have C6 := Lib.hid (C5.out.trans hc6 (fun _ _ h => h))
  have B6 := Lib.hid (B5.out.chg hc6 (fun _ _ h => h))
  have hlen : ((liveS.code.length : Int)) = 2 := rfl
  clear hP hc6 hown
  go_wp2_with fail
  refine (len_any p F liveS _ (B6.out.chg ((Chg.refl _ _).alloc _) (fun _ _ h => h))).mono ?_
  rintro e w7 ⟨he, rfl⟩
  obtain rfl : e = .returned (.int .i64 2) := he
  go_wp2_with fail
  go_ret
  exact ⟨rfl, C6.out.alloc _⟩

/-- A list of moves that lies in memory. -/
def Script (w : World) (a : Option Addr) (l : List (Int × Int × Int × Nat)) : Prop :=
  ∀ i x, l[i]? = some x → ∃ b o, a = some ⟨b, o, none⟩ ∧ w.cell? ⟨b, o + i * 4, none⟩ = some (.int .i64 x.1) ∧ w.cell? ⟨b, o + i * 4 + 1, none⟩ = some (.int .i64 x.2.1) ∧ w.cell? ⟨b, o + i * 4 + 2, none⟩ = some (.int .i64 x.2.2.1) ∧ w.cell? ⟨b, o + i * 4 + 3, none⟩ = some (fl x.2.2.2)

/-- What holds at the head of each round: both builders lie in what the call has made. -/
def Inv (w wr : World) (p r n : Nat) (B : Nat → Prop) : Prop :=
  ∃ F G s, Two wr p r F G s n ∧ (∀ k, F k → B k) ∧ (∀ k, G k → B k)
theorem Inv.after {w wr w' : World} {p r n : Nat} {F G B : Nat → Prop} (hF : ∀ k, F k → B k) (hG : ∀ k, G k → B k) (ha : After wr w' p r F G n) : Inv w w' p r n (fun k => B k ∨ wr.heap.size ≤ k) := by
  obtain ⟨F', G', zs', h1, h2, h3, h4⟩ := ha
  exact ⟨F', G', zs', h1, fun k hk => (h3 k hk).imp (hF k) id, fun k hk => (h4 k hk).imp (hG k) id⟩

set_option maxRecDepth 100000 in
set_option maxHeartbeats 4000000 in
theorem builds_walk (tag : Int) (a : Option Addr) (c : Nat) (l : List (Int × Int × Int × Nat)) (w : World) (hs : Script w a l) (hl : l.length < 4398046511103) :
    Calls Try.prog 3 #[.int .i64 tag, .slice a l.length c] w fun e w' => e = .returned (.bool true) ∧ Chg w w' Nothing := by
  have HS := Lib.hid hs
  have HL := Lib.hid hl
  clear hs hl
  go_enter Try.func3, Try.ntmps3
  go_wp2_with fail
  refine (live_any _).mono ?_
  rintro e w1 ⟨rfl, c1⟩
  go_wp2_with fail
  refine (new_any tag w1).mono ?_
  rintro e w2 ⟨p, rfl, hp, b2, c2⟩
  go_wp2_with fail
  refine (rnew_any tag w2).mono ?_
  rintro e w3 ⟨r, rfl, hr, r3, c3⟩
  have HI := Lib.hid (show ∃ F G s, Two w3 p r F G s 0 ∧ (∀ k, F k → w.heap.size ≤ k) ∧ (∀ k, G k → w.heap.size ≤ k) ∧ Chg w w3 Nothing from by
    have := c1.size; have := c2.size
    refine ⟨Grow Nothing w1 w2, Grow Nothing w2 w3, ⟨tag, [], [], 0, []⟩, ⟨b2.chg c3 (fun _ _ h => h), r3, fun k h h' => by rcases h with h | h <;> rcases h' with h' | h' <;> first | exact h | exact h' | omega, by simp, by simp, by simp⟩, fun k h => by rcases h with h | h; exact h.elim; omega, fun k h => by rcases h with h | h; exact h.elim; omega, (c1.trans c2 (fun _ _ h => h)).trans c3 (fun _ _ h => h)⟩)
  clear c1 b2 c2 r3 c3 hp hr
  go_wp2_with fail
  go_loopg [21] l.length (fun k i wr => ∃ n : Nat, n + k = l.length ∧ i = .int .i64 (n : Int) ∧ ∃ F G s, Two wr p r F G s n ∧ (∀ k, F k → w.heap.size ≤ k) ∧ (∀ k, G k → w.heap.size ≤ k) ∧ Chg w wr Nothing)
  case atStart => exact ⟨0, by simp, rfl, HI.out⟩
  case round =>
    obtain ⟨n, hn, rfl, F, G, s, hT, hF, hG, hC⟩ := hrel
    have HT := Lib.hid hT
    have HC := Lib.hid hC
    have HFG := Lib.hid (And.intro hF hG)
    have hsz := hC.size
    have hN := Lib.hid hn
    clear hT hF hG hC HI
    by_cases hlt : n < l.length
    · have hd : decide (n < l.length) = true := by simpa using hlt
      obtain ⟨k, op, m, x, hx⟩ : ∃ k op m x, l[n]? = some (k, op, m, x) := ⟨_, _, _, _, List.getElem?_eq_getElem hlt⟩
      obtain ⟨b, o, rfl, k0, k1, k2, k3⟩ := HS.out n _ hx
      have k0 := HC.out.cell k0 id
      have k1 := HC.out.cell k1 id
      have k2 := HC.out.cell k2 id
      have k3 := HC.out.cell k3 id
      have hb := cell_lt k0
      simp only at hb
      have hbn : ¬ b = wr.heap.size := by omega
      clear hx
      go_wp2_with fail
      refine (does_any p r F G s n k op m x _ (HT.out.boxed _) (by have := HL.out; omega)).mono ?_
      rintro e w2 ⟨rfl, hA⟩
      have R := Lib.hid (show ∃ F' G' s', Two w2 p r F' G' s' (n + 1) ∧ (∀ k, F' k → w.heap.size ≤ k) ∧ (∀ k, G' k → w.heap.size ≤ k) ∧ Chg w w2 Nothing from by
        obtain ⟨F', G', s', h1, h2, h3, h4⟩ := hA.boxed
        refine ⟨F', G', s', h1, fun k hk => ?_, fun k hk => ?_, HC.out.trans h2 (fun k hk h => ?_)⟩
        · rcases h3 k hk with h | h; exact HFG.out.1 k h; omega
        · rcases h4 k hk with h | h; exact HFG.out.2 k h; omega
        · rcases h with h | h; have := HFG.out.1 k h; omega; have := HFG.out.2 k h; omega)
      clear hA k0 k1 k2 k3
      go_wp2_with fail
      go_roundg (gk - 1)
      case measure => have := hN.out; omega
      case rel => exact ⟨n + 1, by have := hN.out; omega, by rw [IntWalk.wrap64_in _ ⟨by omega, by have := HL.out; omega⟩]; rfl, R.out⟩
    · have hd : decide (n < l.length) = false := by simpa using hlt
      go_wp2_with fail
      refine (lsame_any p r F G s wr HT.out.bd HT.out.rb (by have := HT.out.l1; have := HL.out; have := hN.out; omega) (by have := HT.out.l2; have := HL.out; have := hN.out; omega) HT.out.pl).mono ?_
      rintro e w2 ⟨rfl, c2⟩
      have C2 := Lib.hid c2
      clear c2
      go_wp2_with fail
      refine (lsame_any p r F G s w2 (HT.out.chg C2.out).bd (HT.out.chg C2.out).rb (by have := HT.out.l1; have := HL.out; have := hN.out; omega) (by have := HT.out.l2; have := HL.out; have := hN.out; omega) HT.out.pl).mono ?_
      rintro e w3 ⟨rfl, c3⟩
      have C3 := Lib.hid c3
      clear c3
      go_wp2_with fail
      go_ret
      exact ⟨rfl, (HC.out.trans C2.out (fun _ _ h => h)).trans C3.out (fun _ _ h => h)⟩
end Go.Proofs.Ythgcmafeahlmpaa
