/- A program's error: the code's Check. -/
import Derived.Test.YtjjkjcoebbjgcaaC5A
namespace Go.Proofs.Ytjjkjcoebbjgcaa
open Go Go.RowKit
set_option maxRecDepth 100000
set_option maxHeartbeats 1000000
set_option linter.unusedVariables false
set_option linter.unusedSimpArgs false

abbrev Ins := Int × Int × Nat
theorem may_any (op n : Int) (x : Nat) (len : Int) (w : World) : Calls Try.prog 73 #[.agg #[.int .i64 op, .int .i64 n, .float .f64 x], .int .i64 len] w fun e w' => e = .returned (.bool (mayB op n x len)) ∧ Chg w w' Nothing := by
  by_cases h1 : 1 ≤ op
  · by_cases h2 : op ≤ 20
    · by_cases h3 : op = 1
      · subst h3
        have : mayB 1 n x len = (n == 0) := by unfold mayB; simp [show mostOf 1 = -2 by decide]
        rw [this]
        exact may_one n x len w
      · have e0 : ∀ b : Bool, ((op == 1 || ((fixB x : Int) == 0)) && b) = (((fixB x : Int) == 0) && b) := fun b => by rw [show (op == 1) = false from by simpa using h3, Bool.false_or]
        cases h4 : ((fixB x : Int) == 0) with
        | false =>
          have : mayB op n x len = false := by unfold mayB; rw [e0, h4]; simp
          rw [this]
          exact may_not op n x len w h1 h2 h3 h4
        | true =>
          have e1 : ∀ b : Bool, (decide (1 ≤ op) && (decide (op ≤ 20) && ((op == 1 || ((fixB x : Int) == 0)) && b))) = b := fun b => by rw [e0, h4, decide_eq_true h1, decide_eq_true h2]; simp
          unfold mayB
          rw [e1]
          rcases most_kinds h1 h2 with ⟨hm, _⟩ | ⟨hm, _⟩ | hm
          · rw [if_pos (by simpa using hm)]
            exact may_none op n x len w h1 h2 h3 h4 hm
          · rw [if_neg (by simp; omega), if_pos (by simpa using hm)]
            exact may_place op n x len w h1 h2 h3 h4 hm
          · rw [if_neg (by simp; omega), if_neg (by simp; omega)]
            by_cases h9 : op = 9 ∨ op = 10
            · rw [if_pos (by simpa using h9)]
              exact may_two op n x len w h1 h2 h3 h4 hm h9
            · rw [if_neg (by simpa using h9)]
              exact may_rest op n x len w h1 h2 h3 h4 hm (fun e => h9 (.inl e)) (fun e => h9 (.inr e))
    · have : mayB op n x len = false := by unfold mayB; rw [decide_eq_false h2, Bool.false_and, Bool.and_false]
      rw [this]
      exact may_high op n x len w (by omega)
  · have : mayB op n x len = false := by unfold mayB; rw [decide_eq_false h1, Bool.false_and]
    rw [this]
    exact may_low op n x len w (by omega)

/-- Instructions in a row. -/
def insV (l : List Ins) : List Value := l.flatMap fun t => [.int .i64 t.1, .int .i64 t.2.1, fl t.2.2]
theorem insV_len (l : List Ins) : (insV l).length = l.length * 3 := by
  induction l with
  | nil => rfl
  | cons t l ih => simp [insV] at ih ⊢; omega
theorem insV_snoc (l : List Ins) (t : Ins) : insV (l ++ [t]) = insV l ++ [.int .i64 t.1, .int .i64 t.2.1, fl t.2.2] := by simp [insV]
theorem insV_at : ∀ (l : List Ins) (i : Nat) (x : Ins), l[i]? = some x → (insV l)[i * 3]? = some (.int .i64 x.1) ∧ (insV l)[i * 3 + 1]? = some (.int .i64 x.2.1) ∧ (insV l)[i * 3 + 2]? = some (fl x.2.2)
  | [], i, x, h => by simp at h
  | t :: l, 0, x, h => by simp at h; subst h; exact ⟨rfl, rfl, rfl⟩
  | t :: l, i + 1, x, h => by
    have := insV_at l i x (by simpa using h)
    rw [show (i + 1) * 3 = i * 3 + 3 by omega]
    exact this
theorem ins_cells {w : World} {a : Option Addr} {l : List Ins} {i : Nat} {t : Ins} (h : Sees w a (insV l)) (hi : l[i]? = some t) : ∃ b o, a = some ⟨b, o, none⟩ ∧ w.cell? ⟨b, o + i * 3, none⟩ = some (.int .i64 t.1) ∧ w.cell? ⟨b, o + i * 3 + 1, none⟩ = some (.int .i64 t.2.1) ∧ w.cell? ⟨b, o + i * 3 + 2, none⟩ = some (fl t.2.2) := by
  obtain ⟨t1, t2, t3⟩ := insV_at l i t hi
  rcases h with h | ⟨b, o, rfl, h⟩
  · rw [h] at t1; simp at t1
  · exact ⟨b, o, rfl, h _ _ t1, by rw [Nat.add_assoc]; exact h _ _ t2, by rw [Nat.add_assoc]; exact h _ _ t3⟩

/-- A program's error. -/
def checkE (tag : Int) (l : List Ins) : Int := if (tag = 1 ∨ tag = 2) ∧ 1 ≤ l.length ∧ l.length ≤ 1024 ∧ ∀ t ∈ l, mayB t.1 t.2.1 t.2.2 l.length = true then 0 else 50
theorem checkE_bad {tag : Int} {l : List Ins} (h : ¬ ((tag = 1 ∨ tag = 2) ∧ 1 ≤ l.length ∧ l.length ≤ 1024)) : checkE tag l = 50 := if_neg (fun h' => h ⟨h'.1, h'.2.1, h'.2.2.1⟩)

theorem check_bad (tag : Int) (a : Option Addr) (c : Nat) (n : Nat) (w : World) (h : ¬ ((tag = 1 ∨ tag = 2) ∧ 1 ≤ n ∧ n ≤ 1024)) :
    Calls Try.prog 34 #[.agg #[.int .i64 tag, .slice a n c]] w fun e w' => e = .returned (.int .i64 50) ∧ Chg w w' Nothing := by
  by_cases ht : tag = 1 ∨ tag = 2
  · by_cases h0 : n = 0
    · subst h0
      rcases ht with rfl | rfl
      all_goals
        go_enter Try.func34, Try.ntmps34
        go_wp2_with fail
        go_ret
        exact ⟨rfl, (Chg.refl _ _).alloc _⟩
    · have b2 : ((n : Int) == 0) = false := by rw [beq_eq_false_iff_ne]; omega
      have b3 : decide ((1024 : Int) < (n : Int)) = true := decide_eq_true (by omega)
      clear h
      rcases ht with rfl | rfl
      all_goals
        go_enter Try.func34, Try.ntmps34
        go_wp2_with fail
        go_ret
        exact ⟨rfl, (Chg.refl _ _).alloc _⟩
  · have c1 : (tag != 1) = true := by simp; omega
    have c2 : (tag != 2) = true := by simp; omega
    clear h ht
    go_enter Try.func34, Try.ntmps34
    go_wp2_with fail
    go_ret
    exact ⟨rfl, (Chg.refl _ _).alloc _⟩

theorem checkE_all {tag : Int} {l : List Ins} (h0 : (tag = 1 ∨ tag = 2) ∧ 1 ≤ l.length ∧ l.length ≤ 1024) (h : ∀ j t, j < l.length → l[j]? = some t → mayB t.1 t.2.1 t.2.2 l.length = true) : checkE tag l = 0 :=
  if_pos ⟨h0.1, h0.2.1, h0.2.2, fun t ht => by obtain ⟨j, hj⟩ := List.getElem?_of_mem ht; exact h j t (List.getElem?_eq_some_iff.1 hj).1 hj⟩
theorem checkE_one {tag : Int} {l : List Ins} {j : Nat} {t : Ins} (hj : l[j]? = some t) (h : mayB t.1 t.2.1 t.2.2 l.length = false) : checkE tag l = 50 :=
  if_neg (fun h' => by have := h'.2.2.2 t (List.mem_of_getElem? hj); rw [h] at this; cases this)

set_option maxHeartbeats 1000000 in
theorem check_any (tag : Int) (a : Option Addr) (c : Nat) (l : List Ins) (w : World) (hs : Sees w a (insV l)) :
    Calls Try.prog 34 #[.agg #[.int .i64 tag, .slice a l.length c]] w fun e w' => e = .returned (.int .i64 (checkE tag l)) ∧ Chg w w' Nothing := by
  by_cases h0 : (tag = 1 ∨ tag = 2) ∧ 1 ≤ l.length ∧ l.length ≤ 1024
  · have HS := Lib.hid hs
    obtain ⟨ht, h1, h2⟩ := h0
    have b2 : ((l.length : Int) == 0) = false := by rw [beq_eq_false_iff_ne]; omega
    have b3 : decide ((1024 : Int) < (l.length : Int)) = false := decide_eq_false (by omega)
    have H1 := Lib.hid h1
    clear hs h1
    rcases ht with rfl | rfl
    · go_enter Try.func34, Try.ntmps34
      go_wp2_with fail
      go_loopg [28] l.length (fun k i wr => ∃ n : Nat, n + k = l.length ∧ i = .int .i64 (n : Nat) ∧ Chg (w.alloc (.cells #[.int .i64 1, .slice a l.length c] 24)) wr Nothing ∧ ∀ j t, j < n → l[j]? = some t → mayB t.1 t.2.1 t.2.2 l.length = true)
      case atStart => exact ⟨0, by simp, rfl, Chg.refl _ _, fun j t hj => by omega⟩
      case round =>
        obtain ⟨n, hn, rfl, hc, hall⟩ := hrel
        have HC := Lib.hid hc
        have HA := Lib.hid hall
        have hsz : w.heap.size < wr.heap.size := by have := hc.size; simp at this; omega
        have hne : ¬ w.heap.size = wr.heap.size := by omega
        have p0 : wr.cell? ⟨w.heap.size, 0, none⟩ = some (.int .i64 1) := box_at w #[.int .i64 1, .slice a l.length c] 24 hc rfl 0 rfl
        have p1 : wr.cell? ⟨w.heap.size, 1, none⟩ = some (.slice a l.length c) := box_at w #[.int .i64 1, .slice a l.length c] 24 hc rfl 1 rfl
        clear hc hall
        by_cases hlt : n < l.length
        · have hd : decide (n < l.length) = true := by simpa using hlt
          obtain ⟨⟨op, m, x⟩, hx⟩ : ∃ t, l[n]? = some t := ⟨_, List.getElem?_eq_getElem hlt⟩
          obtain ⟨b, o, rfl, k0, k1, k2⟩ := ins_cells HS.out hx
          have k0 := (box_chg w _ HC.out rfl rfl rfl rfl).cell k0 id
          have k1 := (box_chg w _ HC.out rfl rfl rfl rfl).cell k1 id
          have k2 := (box_chg w _ HC.out rfl rfl rfl rfl).cell k2 id
          have HX := Lib.hid hx
          clear hx
          go_wp2_with fail
          refine (may_any op m x _ _).mono ?_
          rintro e w2 ⟨rfl, hc2⟩
          have C2 := Lib.hid (show Chg (w.alloc (.cells #[.int .i64 1, .slice (some ⟨b, o, none⟩) l.length c] 24)) w2 Nothing from (HC.out.alloc _).trans hc2 (fun _ _ h => h))
          clear hc2
          cases hm : mayB op m x l.length with
          | true =>
            have HM := Lib.hid hm
            clear hm
            go_wp2_with fail
            go_roundg (gk - 1)
            case measure => omega
            case rel => exact ⟨n + 1, by omega, by go_num, C2.out, fun j t hj ht => by
              rcases Nat.lt_or_eq_of_le (Nat.lt_succ_iff.1 hj) with h | rfl
              · exact HA.out j t h ht
              · rw [HX.out] at ht; cases ht; exact HM.out⟩
          | false =>
            have HM := Lib.hid (checkE_one (tag := 1) HX.out hm)
            clear hm
            go_wp2_with fail
            go_ret
            exact ⟨by rw [HM.out]; rfl, box_chg w _ C2.out rfl rfl rfl rfl⟩
        · have hd : decide (n < l.length) = false := by simpa using hlt
          obtain rfl : n = l.length := by omega
          have HM := Lib.hid (checkE_all (tag := 1) ⟨.inl rfl, H1.out, h2⟩ HA.out)
          go_wp2_with fail
          go_ret
          exact ⟨by rw [HM.out]; rfl, box_chg w _ HC.out rfl rfl rfl rfl⟩
    · go_enter Try.func34, Try.ntmps34
      go_wp2_with fail
      go_loopg [28] l.length (fun k i wr => ∃ n : Nat, n + k = l.length ∧ i = .int .i64 (n : Nat) ∧ Chg (w.alloc (.cells #[.int .i64 2, .slice a l.length c] 24)) wr Nothing ∧ ∀ j t, j < n → l[j]? = some t → mayB t.1 t.2.1 t.2.2 l.length = true)
      case atStart => exact ⟨0, by simp, rfl, Chg.refl _ _, fun j t hj => by omega⟩
      case round =>
        obtain ⟨n, hn, rfl, hc, hall⟩ := hrel
        have HC := Lib.hid hc
        have HA := Lib.hid hall
        have hsz : w.heap.size < wr.heap.size := by have := hc.size; simp at this; omega
        have hne : ¬ w.heap.size = wr.heap.size := by omega
        have p0 : wr.cell? ⟨w.heap.size, 0, none⟩ = some (.int .i64 2) := box_at w #[.int .i64 2, .slice a l.length c] 24 hc rfl 0 rfl
        have p1 : wr.cell? ⟨w.heap.size, 1, none⟩ = some (.slice a l.length c) := box_at w #[.int .i64 2, .slice a l.length c] 24 hc rfl 1 rfl
        clear hc hall
        by_cases hlt : n < l.length
        · have hd : decide (n < l.length) = true := by simpa using hlt
          obtain ⟨⟨op, m, x⟩, hx⟩ : ∃ t, l[n]? = some t := ⟨_, List.getElem?_eq_getElem hlt⟩
          obtain ⟨b, o, rfl, k0, k1, k2⟩ := ins_cells HS.out hx
          have k0 := (box_chg w _ HC.out rfl rfl rfl rfl).cell k0 id
          have k1 := (box_chg w _ HC.out rfl rfl rfl rfl).cell k1 id
          have k2 := (box_chg w _ HC.out rfl rfl rfl rfl).cell k2 id
          have HX := Lib.hid hx
          clear hx
          go_wp2_with fail
          refine (may_any op m x _ _).mono ?_
          rintro e w2 ⟨rfl, hc2⟩
          have C2 := Lib.hid (show Chg (w.alloc (.cells #[.int .i64 2, .slice (some ⟨b, o, none⟩) l.length c] 24)) w2 Nothing from (HC.out.alloc _).trans hc2 (fun _ _ h => h))
          clear hc2
          cases hm : mayB op m x l.length with
          | true =>
            have HM := Lib.hid hm
            clear hm
            go_wp2_with fail
            go_roundg (gk - 1)
            case measure => omega
            case rel => exact ⟨n + 1, by omega, by go_num, C2.out, fun j t hj ht => by
              rcases Nat.lt_or_eq_of_le (Nat.lt_succ_iff.1 hj) with h | rfl
              · exact HA.out j t h ht
              · rw [HX.out] at ht; cases ht; exact HM.out⟩
          | false =>
            have HM := Lib.hid (checkE_one (tag := 2) HX.out hm)
            clear hm
            go_wp2_with fail
            go_ret
            exact ⟨by rw [HM.out]; rfl, box_chg w _ C2.out rfl rfl rfl rfl⟩
        · have hd : decide (n < l.length) = false := by simpa using hlt
          obtain rfl : n = l.length := by omega
          have HM := Lib.hid (checkE_all (tag := 2) ⟨.inr rfl, H1.out, h2⟩ HA.out)
          go_wp2_with fail
          go_ret
          exact ⟨by rw [HM.out]; rfl, box_chg w _ HC.out rfl rfl rfl rfl⟩
  · rw [checkE_bad h0]
    exact check_bad tag a c l.length w h0
end Go.Proofs.Ytjjkjcoebbjgcaa
