/- A region whose last operation may change what the others read. -/
import Derived.Deep.RegionHeld3
import Derived.Deep.AppendLies
import Derived.Test.YthgllaomafhdkaaGreatK1
namespace Go.Proofs.YthgllaomafhdkaaGreat
open Go Go.RowKit
set_option maxRecDepth 100000
set_option maxHeartbeats 1000000
set_option linter.unusedVariables false
set_option linter.unusedSimpArgs false

section
variable {P : Program} {ops : Array Oper} {Q : Exit → Act → World → Prop} {md : Region.Mode} {S : World → Prop} {z : Nat}

/-- What is listed has all that it waits for listed. -/
def ClosedL (md : Region.Mode) (ops : Array Oper) (listed : Array Bool) : Prop :=
  ∀ k o, ops[k]? = some o → listed.getD k false = true → ∀ e ∈ o.after, Region.binds md e = true → listed.getD e.on false = true
def closedB (md : Region.Mode) (ops : Array Oper) (listed : Array Bool) : Bool :=
  (List.range ops.size).all fun k => !listed.getD k false || match ops[k]? with | some o => o.after.all fun e => !Region.binds md e || listed.getD e.on false | none => true
theorem closedB_spec {listed : Array Bool} (h : closedB md ops listed = true) : ClosedL md ops listed := by
  intro k o ho hk e he hb
  unfold closedB at h
  rw [List.all_eq_true] at h
  have h1 := h k (by rw [List.mem_range]; exact (Array.getElem?_eq_some_iff.1 ho).1)
  rw [hk, ho] at h1
  simp only [Bool.not_true, Bool.false_or] at h1
  have h2 := Array.all_eq_true_iff_forall_mem.1 h1 e he
  rw [hb] at h2
  simpa using h2
theorem ClosedL.next {listed : Array Bool} {j : Nat} (h : ClosedL md ops listed) (hj : j ∈ Region.ready md ops listed) : ClosedL md ops (listed.setIfInBounds j true) := by
  intro k o ho hk e he hb
  by_cases hkj : j = k
  · subst hkj
    obtain ⟨_, o', ho', hall⟩ := mem_ready.1 hj
    rw [ho] at ho'
    injection ho' with ho'
    subst ho'
    exact getD_set_true (hall e he hb)
  · rw [getD_set_ne false hkj] at hk
    exact getD_set_true (h k o ho hk e he hb)
/-- Operation z waits for i, maybe by way of others. -/
def waitsB (md : Region.Mode) (ops : Array Oper) : Nat → Nat → Nat → Bool
  | 0, _, _ => false
  | n + 1, z, i => match ops[z]? with | some o => o.after.any fun e => Region.binds md e && (e.on == i || waitsB md ops n e.on i) | none => false
theorem waits_not {listed : Array Bool} (h : ClosedL md ops listed) {i : Nat} (hi : listed.getD i false = false) : ∀ (n z : Nat), waitsB md ops n z i = true → ∃ o, ops[z]? = some o ∧ ∃ e ∈ o.after, Region.binds md e = true ∧ listed.getD e.on false = false := by
  intro n
  induction n with
  | zero => intro z hz; cases hz
  | succ n ih =>
    intro z hz
    unfold waitsB at hz
    cases ho : ops[z]? with
    | none => rw [ho] at hz; cases hz
    | some o =>
      rw [ho] at hz
      obtain ⟨e, he, hb⟩ := Array.any_eq_true'.1 hz
      simp only [Bool.and_eq_true, Bool.or_eq_true, beq_iff_eq] at hb
      refine ⟨o, rfl, e, he, hb.1, ?_⟩
      rcases hb.2 with rfl | hw
      · exact hi
      · obtain ⟨o', ho', e', he', hb', hn⟩ := ih _ hw
        cases hl : listed.getD e.on false with
        | false => rfl
        | true => exact absurd (h _ _ ho' hl e' he' hb') (by rw [hn]; decide)
theorem waits_ready {listed : Array Bool} (h : ClosedL md ops listed) {i n : Nat} (hi : i ∈ Region.ready md ops listed) (hw : waitsB md ops n z i = true) : z ∉ Region.ready md ops listed := by
  intro hz
  have h0 := (mem_ready.1 hi).1
  have hf : listed.getD i false = false := by
    rcases Nat.lt_or_ge i listed.size with h' | h'
    · simp [h'] at h0 ⊢; exact h0
    · simp [Array.getElem?_eq_none h'] at h0
  obtain ⟨o, ho, e, he, hb, hn⟩ := waits_not h hf n z hw
  obtain ⟨_, o', ho', hall⟩ := mem_ready.1 hz
  rw [ho] at ho'
  injection ho' with ho'
  subst ho'
  exact absurd (hall e he hb) (by rw [hn]; decide)

/-- Whatever order is picked from here on; S holds behind each operation but z. -/
def anyL (P : Program) (md : Region.Mode) (ops : Array Oper) (Q : Exit → Act → World → Prop) (S : World → Prop) (z : Nat) : Nat → Array Bool → Act → World → Prop
  | 0, listed, a, w => Region.ready md ops listed = [] ∧ Q .normal a w
  | fuel + 1, listed, a, w =>
    (Region.ready md ops listed = [] → Q .normal a w) ∧
    ∀ i ∈ Region.ready md ops listed, wpOp P ops Q i (fun a' w' => (i ≠ z → S w') ∧ anyL P md ops Q S z fuel (listed.setIfInBounds i true) a' w') a w
theorem any_of_L : ∀ (fuel : Nat) (listed : Array Bool) (a : Act) (w : World), anyL P md ops Q S z fuel listed a w → wpAny P md ops Q fuel listed a w
  | 0, _, _, _, h => h
  | fuel + 1, _, _, _, h => ⟨h.1, fun i hi => wpOp_mono (fun a' w' h' => any_of_L fuel _ a' w' h'.2) (h.2 i hi)⟩
theorem firstL {i nz : Nat} {oi : Oper} {v : Value} (hi : ops[i]? = some oi) (hsel : ∀ (j : Nat) (o : Oper) cs b, ops[j]? = some o → o.op ≠ .select cs b)
    (hQ : ∀ c a w, Q (.panic c) (a.put oi.dst v) w → Q (.panic c) a w) :
    ∀ (fuel : Nat) (listed : Array Bool) (a : Act) (w : World),
      (∀ j oj, ops[j]? = some oj → j ≠ i → listed.getD j true = false → (∀ e ∈ oj.after, Region.binds md e = true → e.on ≠ i) → oi.apart ops oj = true) →
      ops.size ≤ z ∨ (ClosedL md ops listed ∧ waitsB md ops nz z i = true) → i ∈ Region.ready md ops listed → YieldsIf P ops S oi v a → S w →
      anyL P md ops Q S z fuel (listed.setIfInBounds i true) (a.put oi.dst v) w → anyL P md ops Q S z (fuel + 1) listed a w := by
  intro fuel
  induction fuel with
  | zero =>
    intro listed a w _ _ hr hy hS H
    refine ⟨fun h => (by rw [h] at hr; cases hr), fun j hj => ?_⟩
    by_cases hji : j = i
    · subst hji; exact hy.wpOp hi hS ⟨fun _ => hS, H⟩
    · have := ready_mono hj hji
      rw [H.1] at this
      cases this
  | succ fuel ih =>
    intro listed a w hfree hcl hr hy hS H
    refine ⟨fun h => (by rw [h] at hr; cases hr), fun j hj => ?_⟩
    by_cases hji : j = i
    · subst hji; exact hy.wpOp hi hS ⟨fun _ => hS, H⟩
    · have h1 := H.2 j (ready_mono hj hji)
      have hjz : j ≠ z := fun e => by
        rcases hcl with hcl | ⟨hcl, hw⟩
        · obtain ⟨_, o, ho, _⟩ := mem_ready.1 hj
          have := (Array.getElem?_eq_some_iff.1 ho).1
          omega
        · exact waits_ready hcl hr hw (e ▸ hj)
      obtain ⟨hjun, oj, hoj, hall⟩ := mem_ready.1 hj
      have hnot : ∀ e ∈ oj.after, Region.binds md e = true → e.on ≠ i := fun e he hb heq => by
        have h1 := hall e he hb
        have h0 := (mem_ready.1 hr).1
        rw [heq] at h1
        rcases Nat.lt_or_ge i listed.size with h' | h'
        · simp [h'] at h0 h1; rw [h0] at h1; cases h1
        · simp [Array.getElem?_eq_none h'] at h1
      have h2 := wpOp_putIf hoj (hfree j oj hoj hji hjun hnot) (fun cs b => hsel i oi cs b hi) (fun cs b => hsel j oj cs b hoj) hQ hy h1
      have hfree' : ∀ k ok, ops[k]? = some ok → k ≠ i → (listed.setIfInBounds j true).getD k true = false →
          (∀ e ∈ ok.after, Region.binds md e = true → e.on ≠ i) → oi.apart ops ok = true := fun k ok hk hki hun hno => by
        refine hfree k ok hk hki ?_ hno
        by_cases hjk : j = k
        · subst hjk; exact hjun
        · rw [getD_set_ne true hjk] at hun; exact hun
      refine wpOp_mono (fun a' w' h3 => ?_) h2
      refine ⟨fun _ => h3.2.1 hjz, ih (listed.setIfInBounds j true) a' w' hfree' (hcl.imp id (fun h => ⟨h.1.next hj, h.2⟩)) (ready_mono hr (Ne.symm hji)) h3.1 (h3.2.1 hjz) ?_⟩
      rw [Array.setIfInBounds_comm _ _ hji]
      exact h3.2.2

theorem dropped {i : Nat} {oi : Oper} {rest : List Oper} (h : ops.toList.drop i = oi :: rest) : ops[i]? = some oi := by
  have h1 : (ops.toList.drop i)[0]? = some oi := by rw [h]; rfl
  rw [List.getElem?_drop, Nat.add_zero] at h1
  simpa using h1
/-- Take number i first. -/
theorem takeL (i nz : Nat) {oi : Oper} {rest : List Oper} {v : Value} {fuel : Nat} {listed : Array Bool} {a : Act} {w : World} (hi : ops.toList.drop i = oi :: rest)
    (hs : (Region.noSelect ops && Region.free md ops listed i && (Region.ready md ops listed).contains i && (Nat.ble ops.size z || (waitsB md ops nz z i && closedB md ops listed))) = true)
    (hQ : ∀ c a w, Q (.panic c) (a.put oi.dst v) w → Q (.panic c) a w) (hwt : Region.wanted oi (yielded ops a.tmps) = true) (hS : S w)
    (hy : ∀ w, S w → (execOp a.eval oi).run P w = .ok (.value v) w)
    (h : anyL P md ops Q S z fuel (listed.setIfInBounds i true) (a.put oi.dst v) w) : anyL P md ops Q S z (fuel + 1) listed a w := by
  simp only [Bool.and_eq_true, Bool.or_eq_true] at hs
  obtain ⟨⟨⟨h1, h2⟩, h3⟩, h4⟩ := hs
  exact firstL (nz := nz) (dropped hi) (Region.noSelect_spec h1) hQ fuel listed a w (Region.free_spec (dropped hi) h2) (h4.imp Nat.le_of_ble_eq_true (fun h => ⟨closedB_spec h.2, h.1⟩)) (by simpa using h3) (.inl ⟨hwt, hy⟩) hS h
/-- One whose guard says no. -/
theorem skipL (i nz : Nat) {oi : Oper} {rest : List Oper} {fuel : Nat} {listed : Array Bool} {a : Act} {w : World} (hi : ops.toList.drop i = oi :: rest)
    (hs : (Region.noSelect ops && Region.free md ops listed i && (Region.ready md ops listed).contains i && (Nat.ble ops.size z || (waitsB md ops nz z i && closedB md ops listed))) = true)
    (hQ : ∀ c a w, Q (.panic c) (a.put oi.dst undef) w → Q (.panic c) a w) (hwt : Region.wanted oi (yielded ops a.tmps) = false) (hS : S w)
    (h : anyL P md ops Q S z fuel (listed.setIfInBounds i true) (a.put oi.dst undef) w) : anyL P md ops Q S z (fuel + 1) listed a w := by
  simp only [Bool.and_eq_true, Bool.or_eq_true] at hs
  obtain ⟨⟨⟨h1, h2⟩, h3⟩, h4⟩ := hs
  exact firstL (nz := nz) (dropped hi) (Region.noSelect_spec h1) hQ fuel listed a w (Region.free_spec (dropped hi) h2) (h4.imp Nat.le_of_ble_eq_true (fun h => ⟨closedB_spec h.2, h.1⟩)) (by simpa using h3) (.inr ⟨hwt, rfl⟩) hS h
/-- All have come up. -/
theorem doneL {listed : Array Bool} {a : Act} {w : World} (hr : Region.ready md ops listed = []) (h : Q .normal a w) : ∀ fuel, anyL P md ops Q S z fuel listed a w
  | 0 => ⟨hr, h⟩
  | _ + 1 => ⟨fun _ => h, by rw [hr]; simp⟩
/-- One alone may come up, and is not z. -/
theorem oneL (i : Nat) {o : Oper} {rest : List Oper} {fuel : Nat} {listed : Array Bool} {a : Act} {w : World} (ho : ops.toList.drop i = o :: rest) (hr : Region.ready md ops listed = [i]) (hz : (i == z) = false)
    (h : ∀ K' : Act → World → Prop, Shut (∀ a w, S w → (S w → anyL P md ops Q S z fuel (listed.setIfInBounds i true) a w) → K' a w) → if Region.wanted o (yielded ops a.tmps) = true then Oper.wp P o a w K' Q else K' (a.put o.dst undef) w) :
    anyL P md ops Q S z (fuel + 1) listed a w := by
  refine ⟨fun h0 => (by rw [hr] at h0; cases h0), fun j hj => ?_⟩
  rw [hr] at hj
  have hj : j = i := by simpa using hj
  subst hj
  exact wpOp_step (dropped ho) (fun K' hK => h K' (fun a w hS hW => hK a w ⟨fun _ => hS, hW hS⟩))
/-- The last one. -/
theorem lastL {o : Oper} {rest : List Oper} {fuel : Nat} {listed : Array Bool} {a : Act} {w : World} (ho : ops.toList.drop z = o :: rest) (hr : Region.ready md ops listed = [z]) (hn : Region.ready md ops (listed.setIfInBounds z true) = [])
    (h : ∀ K' : Act → World → Prop, Shut (∀ a w, Q .normal a w → K' a w) → if Region.wanted o (yielded ops a.tmps) = true then Oper.wp P o a w K' Q else K' (a.put o.dst undef) w) :
    anyL P md ops Q S z (fuel + 1) listed a w := by
  refine ⟨fun h0 => (by rw [hr] at h0; cases h0), fun j hj => ?_⟩
  rw [hr] at hj
  have hj : j = z := by simpa using hj
  subst hj
  refine wpOp_step (dropped ho) (fun K' hK => h K' (fun a w hq => hK a w ⟨fun h => absurd rfl h, ?_⟩))
  cases fuel with
  | zero => exact ⟨hn, hq⟩
  | succ n => exact ⟨fun _ => hq, fun i hi => by rw [hn] at hi; cases hi⟩
/-- The beginning. -/
theorem beginL {id : Nat} {a : Act} {w : World} (S : World → Prop) (z : Nat) (hm : P.follows .mixedOrders = true) (hS : S w.drew)
    (h : S w.drew → anyL P .any ops Q S z ops.size (Array.replicate ops.size false) a w.drew) : (Code.region id ops true).wp P Q a w :=
  wp_region_any hm (any_of_L _ _ _ _ (h hS))
end
end Go.Proofs.YthgllaomafhdkaaGreat
