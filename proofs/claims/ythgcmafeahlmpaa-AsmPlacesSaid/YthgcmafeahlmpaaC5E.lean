/- A program's error: the document's Check; two programs that are the same. -/
import Derived.Test.YthgcmafeahlmpaaC5D
namespace Go.Proofs.Ythgcmafeahlmpaa
open Go Go.RowKit
set_option linter.unusedVariables false
set_option linter.unusedSimpArgs false

theorem rcheck_bad (tag : Int) (a : Option Addr) (c : Nat) (n : Nat) (w : World) (h : ¬ ((tag = 1 ∨ tag = 2) ∧ 1 ≤ n ∧ n ≤ 1024)) :
    Calls Try.prog 11 #[.agg #[.int .i64 tag, .slice a n c]] w fun e w' => e = .returned (.int .i64 50) ∧ Chg w w' Nothing := by
  by_cases ht : tag = 1 ∨ tag = 2
  · by_cases h0 : n = 0
    · subst h0
      rcases ht with rfl | rfl
      all_goals
        go_enter Try.func11, Try.ntmps11
        go_wp2_with fail
        go_ret
        exact ⟨rfl, (Chg.refl _ _).alloc _⟩
    · have b2 : decide ((n : Int) < 1) = false := decide_eq_false (by omega)
      have b3 : decide ((1024 : Int) < (n : Int)) = true := decide_eq_true (by omega)
      clear h
      rcases ht with rfl | rfl
      all_goals
        go_enter Try.func11, Try.ntmps11
        go_wp2_with fail
        go_ret
        exact ⟨rfl, (Chg.refl _ _).alloc _⟩
  · have c1 : (tag != 1) = true := by simp; omega
    have c2 : (tag != 2) = true := by simp; omega
    clear h ht
    go_enter Try.func11, Try.ntmps11
    go_wp2_with fail
    go_ret
    exact ⟨rfl, (Chg.refl _ _).alloc _⟩

set_option maxHeartbeats 1000000 in
theorem rcheck_any (tag : Int) (a : Option Addr) (c : Nat) (l : List Ins) (w : World) (hs : Sees w a (insV l)) :
    Calls Try.prog 11 #[.agg #[.int .i64 tag, .slice a l.length c]] w fun e w' => e = .returned (.int .i64 (checkE tag l)) ∧ Chg w w' Nothing := by
  by_cases h0 : (tag = 1 ∨ tag = 2) ∧ 1 ≤ l.length ∧ l.length ≤ 1024
  · have HS := Lib.hid hs
    obtain ⟨ht, h1, h2⟩ := h0
    have b2 : decide ((l.length : Int) < 1) = false := decide_eq_false (by omega)
    have b3 : decide ((1024 : Int) < (l.length : Int)) = false := decide_eq_false (by omega)
    have H1 := Lib.hid h1
    clear hs h1
    rcases ht with rfl | rfl
    · go_enter Try.func11, Try.ntmps11
      go_wp2_with fail
      go_loopg [28] l.length (fun k i wr => ∃ n : Nat, n + k = l.length ∧ i = .int .i64 (n : Nat) ∧ Chg (w.alloc (.cells #[.int .i64 1, .slice a l.length c] 37)) wr Nothing ∧ ∀ j t, j < n → l[j]? = some t → mayB t.1 t.2.1 t.2.2 l.length = true)
      case atStart => exact ⟨0, by simp, rfl, Chg.refl _ _, fun j t hj => by omega⟩
      case round =>
        obtain ⟨n, hn, rfl, hc, hall⟩ := hrel
        have HC := Lib.hid hc
        have HA := Lib.hid hall
        have hsz : w.heap.size < wr.heap.size := by have := hc.size; simp at this; omega
        have hne : ¬ w.heap.size = wr.heap.size := by omega
        have p0 : wr.cell? ⟨w.heap.size, 0, none⟩ = some (.int .i64 1) := box_at w #[.int .i64 1, .slice a l.length c] 37 hc rfl 0 rfl
        have p1 : wr.cell? ⟨w.heap.size, 1, none⟩ = some (.slice a l.length c) := box_at w #[.int .i64 1, .slice a l.length c] 37 hc rfl 1 rfl
        clear hc hall
        by_cases hlt : n < l.length
        · have hd : decide (n < l.length) = true := by simpa using hlt
          obtain ⟨⟨op, m, x⟩, hx⟩ : ∃ t, l[n]? = some t := ⟨_, List.getElem?_eq_getElem hlt⟩
          obtain ⟨b, o, rfl, k0, k1, k2⟩ := ins_cells HS.out hx
          have k0 := (box_chg w _ HC.out rfl rfl rfl rfl).cell k0 id
          have k1 := (box_chg w _ HC.out rfl rfl rfl rfl).cell k1 id
          have k2 := (box_chg w _ HC.out rfl rfl rfl rfl).cell k2 id
          have HX := Lib.hid hx
          clear hx
          go_wp2_with fail
          refine (rmay_any op m x _ _).mono ?_
          rintro e w2 ⟨rfl, hc2⟩
          have C2 := Lib.hid (show Chg (w.alloc (.cells #[.int .i64 1, .slice (some ⟨b, o, none⟩) l.length c] 37)) w2 Nothing from (HC.out.alloc _).trans hc2 (fun _ _ h => h))
          clear hc2
          cases hm : mayB op m x l.length with
          | true =>
            have HM := Lib.hid hm
            clear hm
            go_wp2_with fail
            go_roundg (gk - 1)
            case measure => omega
            case rel => exact ⟨n + 1, by omega, by go_num, C2.out, fun j t hj ht => by
              rcases Nat.lt_or_eq_of_le (Nat.lt_succ_iff.1 hj) with h | rfl
              · exact HA.out j t h ht
              · rw [HX.out] at ht; cases ht; exact HM.out⟩
          | false =>
            have HM := Lib.hid (checkE_one (tag := 1) HX.out hm)
            clear hm
            go_wp2_with fail
            go_ret
            exact ⟨by rw [HM.out]; rfl, box_chg w _ C2.out rfl rfl rfl rfl⟩
        · have hd : decide (n < l.length) = false := by simpa using hlt
          obtain rfl : n = l.length := by omega
          have HM := Lib.hid (checkE_all (tag := 1) ⟨.inl rfl, H1.out, h2⟩ HA.out)
          go_wp2_with fail
          go_ret
          exact ⟨by rw [HM.out]; rfl, box_chg w _ HC.out rfl rfl rfl rfl⟩
    · go_enter Try.func11, Try.ntmps11
      go_wp2_with fail
      go_loopg [28] l.length (fun k i wr => ∃ n : Nat, n + k = l.length ∧ i = .int .i64 (n : Nat) ∧ Chg (w.alloc (.cells #[.int .i64 2, .slice a l.length c] 37)) wr Nothing ∧ ∀ j t, j < n → l[j]? = some t → mayB t.1 t.2.1 t.2.2 l.length = true)
      case atStart => exact ⟨0, by simp, rfl, Chg.refl _ _, fun j t hj => by omega⟩
      case round =>
        obtain ⟨n, hn, rfl, hc, hall⟩ := hrel
        have HC := Lib.hid hc
        have HA := Lib.hid hall
        have hsz : w.heap.size < wr.heap.size := by have := hc.size; simp at this; omega
        have hne : ¬ w.heap.size = wr.heap.size := by omega
        have p0 : wr.cell? ⟨w.heap.size, 0, none⟩ = some (.int .i64 2) := box_at w #[.int .i64 2, .slice a l.length c] 37 hc rfl 0 rfl
        have p1 : wr.cell? ⟨w.heap.size, 1, none⟩ = some (.slice a l.length c) := box_at w #[.int .i64 2, .slice a l.length c] 37 hc rfl 1 rfl
        clear hc hall
        by_cases hlt : n < l.length
        · have hd : decide (n < l.length) = true := by simpa using hlt
          obtain ⟨⟨op, m, x⟩, hx⟩ : ∃ t, l[n]? = some t := ⟨_, List.getElem?_eq_getElem hlt⟩
          obtain ⟨b, o, rfl, k0, k1, k2⟩ := ins_cells HS.out hx
          have k0 := (box_chg w _ HC.out rfl rfl rfl rfl).cell k0 id
          have k1 := (box_chg w _ HC.out rfl rfl rfl rfl).cell k1 id
          have k2 := (box_chg w _ HC.out rfl rfl rfl rfl).cell k2 id
          have HX := Lib.hid hx
          clear hx
          go_wp2_with fail
          refine (rmay_any op m x _ _).mono ?_
          rintro e w2 ⟨rfl, hc2⟩
          have C2 := Lib.hid (show Chg (w.alloc (.cells #[.int .i64 2, .slice (some ⟨b, o, none⟩) l.length c] 37)) w2 Nothing from (HC.out.alloc _).trans hc2 (fun _ _ h => h))
          clear hc2
          cases hm : mayB op m x l.length with
          | true =>
            have HM := Lib.hid hm
            clear hm
            go_wp2_with fail
            go_roundg (gk - 1)
            case measure => omega
            case rel => exact ⟨n + 1, by omega, by go_num, C2.out, fun j t hj ht => by
              rcases Nat.lt_or_eq_of_le (Nat.lt_succ_iff.1 hj) with h | rfl
              · exact HA.out j t h ht
              · rw [HX.out] at ht; cases ht; exact HM.out⟩
          | false =>
            have HM := Lib.hid (checkE_one (tag := 2) HX.out hm)
            clear hm
            go_wp2_with fail
            go_ret
            exact ⟨by rw [HM.out]; rfl, box_chg w _ C2.out rfl rfl rfl rfl⟩
        · have hd : decide (n < l.length) = false := by simpa using hlt
          obtain rfl : n = l.length := by omega
          have HM := Lib.hid (checkE_all (tag := 2) ⟨.inr rfl, H1.out, h2⟩ HA.out)
          go_wp2_with fail
          go_ret
          exact ⟨by rw [HM.out]; rfl, box_chg w _ HC.out rfl rfl rfl rfl⟩
  · rw [checkE_bad h0]
    exact rcheck_bad tag a c l.length w h0

theorem rbits_q (b : Nat) (w : World) : Calls Try.prog 29 #[.float .f64 b] w fun e w' => e = .returned (.int .u64 (fixB b)) ∧ w' = w := (rbits_any b w).mono fun e w' ⟨h1, h2⟩ => ⟨h1, h2.symm⟩
set_option maxHeartbeats 2000000 in
theorem rsame_true (tag : Int) (a a2 : Option Addr) (c c2 : Nat) (l : List Ins) (w : World) (hs : Sees w a (insV l)) (hs2 : Sees w a2 (insV l)) (hl : l.length ≤ 9223372036854775807) :
    Calls Try.prog 18 #[.agg #[.int .i64 tag, .slice a l.length c], .agg #[.int .i64 tag, .slice a2 l.length c2]] w fun e w' => e = .returned (.bool true) ∧ Chg w w' Nothing := by
  have HS := Lib.hid hs
  have HS2 := Lib.hid hs2
  have n1 : (tag != tag) = false := by simp
  have n2 : ((l.length : Int) != (l.length : Int)) = false := by simp
  clear hs hs2
  go_enter Try.func18, Try.ntmps18
  go_wp2_with fail
  go_loopg [25] l.length (fun k i wr => ∃ n : Nat, n + k = l.length ∧ i = .int .i64 (n : Nat) ∧ Chg ((w.alloc (.cells #[.int .i64 tag, .slice a l.length c] 37)).alloc (.cells #[.int .i64 tag, .slice a2 l.length c2] 37)) wr Nothing)
  case atStart => exact ⟨0, by simp, rfl, Chg.refl _ _⟩
  case round =>
    obtain ⟨n, hn, rfl, hc⟩ := hrel
    have HC := Lib.hid hc
    have hsz : w.heap.size + 1 < wr.heap.size := by have := hc.size; simp at this; omega
    have hne : ¬ w.heap.size = wr.heap.size := by omega
    have hne2 : ¬ w.heap.size + 1 = wr.heap.size := by omega
    have C0 := Lib.hid (show Chg w wr Nothing from (((Chg.refl w Nothing).alloc _).alloc _).trans hc (fun _ _ h => h))
    have p0 : wr.cell? ⟨w.heap.size + 1, 1, none⟩ = some (.slice a2 l.length c2) := hc.cell (by have := heap_alloc2_new w (.cells #[.int .i64 tag, .slice a l.length c] 37) (.cells #[.int .i64 tag, .slice a2 l.length c2] 37); rw [blk_cell this]; rfl) id
    clear hc
    by_cases hlt : n < l.length
    · have hd : decide (n < l.length) = true := by simpa using hlt
      obtain ⟨⟨op, m, x⟩, hx⟩ : ∃ t, l[n]? = some t := ⟨_, List.getElem?_eq_getElem hlt⟩
      obtain ⟨b, o, rfl, k0, k1, k2⟩ := ins_cells HS.out hx
      obtain ⟨b2, o2, rfl, j0, j1, j2⟩ := ins_cells HS2.out hx
      have k0 := C0.out.cell k0 id
      have k1 := C0.out.cell k1 id
      have k2 := C0.out.cell k2 id
      have j0 := C0.out.cell j0 id
      have j1 := C0.out.cell j1 id
      have j2 := C0.out.cell j2 id
      have hb2 : b2 < wr.heap.size := cell_lt j0
      have hb3 : ¬ b2 = wr.heap.size := by omega
      have q1 : (op != op) = false := by simp
      have q2 : (m != m) = false := by simp
      have q3 : ((fixB x : Int) != (fixB x : Int)) = false := by simp
      clear hx
      go_wp2_with fail
      go_outline
      go_quiet ((go_at_call 29; exact Calls.quiet_of_same (rbits_q _ _)))
      go_wp2_with fail
      go_roundg (gk - 1)
      case measure => omega
      case rel => exact ⟨n + 1, by omega, by go_num, ((HC.out.alloc _).alloc _).drewN _⟩
    · have hd : decide (n < l.length) = false := by simpa using hlt
      go_wp2_with fail
      go_ret
      exact ⟨rfl, C0.out⟩
end Go.Proofs.Ythgcmafeahlmpaa
