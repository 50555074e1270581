/- AsmTwo: its walk. -/
import Derived.Test.YthgcmafeahlmpaaAC
namespace Go.Proofs.Ythgcmafeahlmpaa
open Go Go.RowKit
set_option linter.unusedVariables false
set_option linter.unusedSimpArgs false

/-- Two pairs of builders, apart from one another, all in what the call has made. -/
def Four (w wr : World) (a x b y n : Nat) : Prop :=
  ∃ F G s F' G' s', Two wr a x F G s n ∧ Two wr b y F' G' s' n ∧ (∀ k, F k ∨ G k → w.heap.size ≤ k ∧ ¬ (F' k ∨ G' k)) ∧ (∀ k, F' k ∨ G' k → w.heap.size ≤ k) ∧ Chg w wr Nothing
theorem Four.swap {w wr : World} {a x b y n : Nat} (h : Four w wr a x b y n) : Four w wr b y a x n := by
  obtain ⟨F, G, s, F', G', s', h1, h2, h3, h4, h5⟩ := h
  exact ⟨F', G', s', F, G, s, h2, h1, fun k hk => ⟨h4 k hk, fun h => (h3 k h).2 hk⟩, fun k hk => (h3 k hk).1, h5⟩
theorem Two.lt {w : World} {p r n : Nat} {F G : Nat → Prop} {s : Asm} (h : Two w p r F G s n) : ∀ k, F k ∨ G k → k < w.heap.size := fun k hk => by
  rcases hk with hk | hk
  · exact h.bd.lt k hk
  · exact h.rb.lt k hk
theorem Two.far {w w1 : World} {p r n : Nat} {F G S : Nat → Prop} {s : Asm} (h : Two w p r F G s n) (hc : Chg w w1 S) (hd : ∀ k, F k ∨ G k → ¬ S k) : Two w1 p r F G s n :=
  ⟨h.bd.chg hc (fun k hk => hd k (.inl hk)), h.rb.chg hc (fun k hk => hd k (.inr hk)), h.d, h.l1, h.l2, h.pl⟩
theorem Four.after {w wr w2 : World} {a x b y n : Nat} {F G F' G' : Nat → Prop} {s s' : Asm} (h1 : Two wr a x F G s n) (h2 : Two wr b y F' G' s' n) (h3 : ∀ k, F k ∨ G k → w.heap.size ≤ k ∧ ¬ (F' k ∨ G' k)) (h4 : ∀ k, F' k ∨ G' k → w.heap.size ≤ k) (h5 : Chg w wr Nothing)
    (ha : After wr w2 a x F G (n + 1)) : Four w w2 a x b y (n + 1) := by
  obtain ⟨F2, G2, s2, k1, k2, k3, k4⟩ := ha
  have e := h5.size
  have el := h2.lt
  refine ⟨F2, G2, s2, F', G', s', k1, (h2.far k2 (fun k hk h => (h3 k h).2 hk)).more, fun k hk => ?_, h4, h5.trans k2 (fun k hk h => absurd (h3 k h).1 (by omega))⟩
  have : (F k ∨ G k) ∨ wr.heap.size ≤ k := by
    rcases hk with hk | hk
    · rcases k3 k hk with h | h
      · exact .inl (.inl h)
      · exact .inr h
    · rcases k4 k hk with h | h
      · exact .inl (.inr h)
      · exact .inr h
  rcases this with h | h
  · exact h3 k h
  · exact ⟨by omega, fun h' => by have := el k h'; omega⟩
theorem Four.boxed {w wr : World} {a x b y n : Nat} (h : Four w wr a x b y n) (o : Obj) : Four w (wr.alloc o) a x b y n := by
  obtain ⟨F, G, s, F', G', s', h1, h2, h3, h4, h5⟩ := h
  exact ⟨F, G, s, F', G', s', h1.boxed o, h2.boxed o, h3, h4, h5.alloc o⟩

set_option maxRecDepth 100000 in
set_option maxHeartbeats 4000000 in
theorem two_walk (a : Option Addr) (c : Nat) (l : List (Int × Int × Int × Nat)) (w : World) (hs : Script w a l) (hl : l.length < 4398046511103) :
    Calls Try.prog 4 #[.slice a l.length c] w fun e w' => e = .returned (.bool true) ∧ Chg w w' Nothing := by
  have HS := Lib.hid hs
  have HL := Lib.hid hl
  clear hs hl
  go_enter Try.func4, Try.ntmps4
  go_wp2_with fail
  refine (live_any _).mono ?_
  rintro e w1 ⟨rfl, c1⟩
  go_wp2_with fail
  refine (new_any 1 w1).mono ?_
  rintro e w2 ⟨p, rfl, hp, b2, c2⟩
  go_wp2_with fail
  refine (new_any 2 w2).mono ?_
  rintro e w3 ⟨q, rfl, hq, b3, c3⟩
  go_wp2_with fail
  refine (rnew_any 1 w3).mono ?_
  rintro e w4 ⟨x, rfl, hx, r4, c4⟩
  go_wp2_with fail
  refine (rnew_any 2 w4).mono ?_
  rintro e w5 ⟨y, rfl, hy, r5, c5⟩
  have HI := Lib.hid (show Four w w5 p x q y 0 from by
    have e1 := c1.size
    have e2 := c2.size
    have e3 := c3.size
    have e4 := c4.size
    have e5 := c5.size
    refine ⟨Grow Nothing w1 w2, Grow Nothing w3 w4, ⟨1, [], [], 0, []⟩, Grow Nothing w2 w3, Grow Nothing w4 w5, ⟨2, [], [], 0, []⟩,
      ⟨((b2.chg c3 (fun _ _ h => h)).chg c4 (fun _ _ h => h)).chg c5 (fun _ _ h => h), r4.chg c5 (fun _ _ h => h), fun k h h' => by rcases h with h | h <;> rcases h' with h' | h' <;> first | exact h | exact h' | omega, by simp, by simp, by simp⟩,
      ⟨(b3.chg c4 (fun _ _ h => h)).chg c5 (fun _ _ h => h), r5, fun k h h' => by rcases h with h | h <;> rcases h' with h' | h' <;> first | exact h | exact h' | omega, by simp, by simp, by simp⟩, fun k h => ?_, fun k h => ?_, (((c1.trans c2 (fun _ _ h => h)).trans c3 (fun _ _ h => h)).trans c4 (fun _ _ h => h)).trans c5 (fun _ _ h => h)⟩
    · refine ⟨by rcases h with (h | h) | (h | h) <;> first | exact h.elim | omega, fun h' => ?_⟩
      rcases h with (h | h) | (h | h) <;> rcases h' with (h' | h') | (h' | h') <;> first | exact h | exact h' | omega
    · rcases h with (h | h) | (h | h) <;> first | exact h.elim | omega)
  clear c1 b2 c2 b3 c3 r4 c4 r5 c5 hp hq hx hy
  go_wp2_with fail
  go_loopg [24] l.length (fun k i wr => ∃ n : Nat, n + k = l.length ∧ i = .int .i64 (n : Int) ∧ Four w wr p x q y n)
  case atStart => exact ⟨0, by simp, rfl, HI.out⟩
  case round =>
    obtain ⟨n, hn, rfl, hT⟩ := hrel
    have HT := Lib.hid hT
    have hN := Lib.hid hn
    have hC : Chg w wr Nothing := by obtain ⟨F, G, s, F', G', s', h1, h2, h3, h4, h5⟩ := hT; exact h5
    have HC := Lib.hid hC
    have hsz := hC.size
    clear hT HI hC
    by_cases hlt : n < l.length
    · have hd : decide (n < l.length) = true := by simpa using hlt
      obtain ⟨k, op, m, z, hx⟩ : ∃ k op m x, l[n]? = some (k, op, m, x) := ⟨_, _, _, _, List.getElem?_eq_getElem hlt⟩
      obtain ⟨b, o, rfl, k0, k1, k2, k3⟩ := HS.out n _ hx
      have k0 := HC.out.cell k0 id
      have k1 := HC.out.cell k1 id
      have k2 := HC.out.cell k2 id
      have k3 := HC.out.cell k3 id
      have hb := cell_lt k0
      simp only at hb
      have hbn : ¬ b = wr.heap.size := by omega
      have hnb : n < 4398046511103 := by have := HL.out; omega
      have HNB := Lib.hid hnb
      clear hx
      by_cases hpar : n % 2 = 0
      · have hp2 : ((n : Int).tmod 2 == 0) = true := by rw [show (2 : Int) = ((2 : Nat) : Int) from rfl, ← Int.ofNat_tmod, hpar]; rfl
        have hp3 : ((n : Int) % 2 == 0) = true := by rw [beq_iff_eq]; omega
        obtain ⟨F, G, s, F', G', s', h1, h2, h3, h4, h5⟩ := HT.out.boxed (.cells #[.int .i64 k, .int .i64 op, .int .i64 m, fl z] 30)
        have H1 := Lib.hid h1
        have K := Lib.hid (fun w2 ha => Four.after (w2 := w2) h1 h2 h3 h4 h5 ha)
        clear h1 h2 h3 h4 h5 hpar hnb
        go_wp2_with fail
        refine (does_any p x F G s n k op m z _ H1.out HNB.out).mono ?_
        rintro e w2 ⟨rfl, hA⟩
        have R := Lib.hid (K.out w2 hA)
        clear hA k0 k1 k2 k3
        go_wp2_with fail
        go_roundg (gk - 1)
        case measure => have := hN.out; omega
        case rel => exact ⟨n + 1, by have := hN.out; omega, by rw [IntWalk.wrap64_in _ ⟨by omega, by have := HL.out; omega⟩]; rfl, R.out⟩
      · have hp2 : ((n : Int).tmod 2 == 0) = false := by rw [show (2 : Int) = ((2 : Nat) : Int) from rfl, ← Int.ofNat_tmod, show n % 2 = 1 by omega]; rfl
        have hp3 : ((n : Int) % 2 == 0) = false := by rw [beq_eq_false_iff_ne]; omega
        obtain ⟨F, G, s, F', G', s', h1, h2, h3, h4, h5⟩ := (HT.out.boxed (.cells #[.int .i64 k, .int .i64 op, .int .i64 m, fl z] 30)).swap
        have H1 := Lib.hid h1
        have K := Lib.hid (fun w2 ha => (Four.after (w2 := w2) h1 h2 h3 h4 h5 ha).swap)
        clear h1 h2 h3 h4 h5 hpar hnb
        go_wp2_with fail
        refine (does_any q y F G s n k op m z _ H1.out HNB.out).mono ?_
        rintro e w2 ⟨rfl, hA⟩
        have R := Lib.hid (K.out w2 hA)
        clear hA k0 k1 k2 k3
        go_wp2_with fail
        go_roundg (gk - 1)
        case measure => have := hN.out; omega
        case rel => exact ⟨n + 1, by have := hN.out; omega, by rw [IntWalk.wrap64_in _ ⟨by omega, by have := HL.out; omega⟩]; rfl, R.out⟩
    · have hd : decide (n < l.length) = false := by simpa using hlt
      have hnb := Lib.hid (show n < 4398046511103 by have := HL.out; omega)
      obtain ⟨F, G, s, F', G', s', h1, h2, h3, h4, h5⟩ := HT.out
      have H1 := Lib.hid h1
      have H2 := Lib.hid h2
      clear h1 h2 h3 h4 h5
      go_wp2_with fail
      refine (lsame_any p x F G s wr H1.out.bd H1.out.rb (by have := H1.out.l1; have := hnb.out; omega) (by have := H1.out.l2; have := hnb.out; omega) H1.out.pl).mono ?_
      rintro e w2 ⟨rfl, c2⟩
      have C2 := Lib.hid c2
      clear c2
      go_wp2_with fail
      refine (lsame_any q y F' G' s' w2 (H2.out.chg C2.out).bd (H2.out.chg C2.out).rb (by have := H2.out.l1; have := hnb.out; omega) (by have := H2.out.l2; have := hnb.out; omega) H2.out.pl).mono ?_
      rintro e w3 ⟨rfl, c3⟩
      have C3 := Lib.hid c3
      clear c3
      go_wp2_with fail
      go_ret
      exact ⟨rfl, (HC.out.trans C2.out (fun _ _ h => h)).trans C3.out (fun _ _ h => h)⟩
end Go.Proofs.Ythgcmafeahlmpaa
