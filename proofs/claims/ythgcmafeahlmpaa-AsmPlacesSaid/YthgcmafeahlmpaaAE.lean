/- Labels in the place of places: plain laws. -/
import Derived.Test.YthgcmafeahlmpaaAC
namespace Go.Proofs.Ythgcmafeahlmpaa
open Go Go.RowKit
set_option linter.unusedVariables false
set_option linter.unusedSimpArgs false

/-- Is it an instruction with a place? -/
def isTo (x : Ins) : Bool := decide (11 ≤ x.1) && decide (x.1 ≤ 14)
/-- What is put into the builder for it, and its label; what comes of it. -/
def encI (x : Ins) : Ins := if x.1 = 1 then (1, 0, x.2.2) else if isTo x then (x.1, 0, 0) else (x.1, x.2.1, 0)
def labI {α : Type} (l : List (Int × α)) (x : Ins) : Option Int := if isTo x then some (((pos l x.2.1).getD 0 : Nat) : Int) else none
def finI (x : Ins) : Ins := if x.1 = 1 then (1, 0, x.2.2) else (x.1, x.2.1, 0)
/-- The marks. -/
def marksOf {α : Type} (l : List (Int × α)) : Nat → List (Int × Nat)
  | 0 => []
  | n + 1 => marksOf l n ++ (match pos l (n : Int) with | some i => [((i : Int), n)] | none => [])

section
variable {α : Type} {l : List (Int × α)}
theorem marks_mem : ∀ (n : Nat) (t : Int × Nat), t ∈ marksOf l n → ∃ i : Nat, t.1 = (i : Int) ∧ t.2 < n ∧ pos l (t.2 : Int) = some i
  | 0, t, h => by simp [marksOf] at h
  | n + 1, t, h => by
    simp only [marksOf, List.mem_append] at h
    rcases h with h | h
    · obtain ⟨i, h1, h2, h3⟩ := marks_mem n t h
      exact ⟨i, h1, by omega, h3⟩
    · cases hp : pos l (n : Int) with
      | none => rw [hp] at h; simp at h
      | some i =>
        rw [hp] at h
        simp at h
        subst h
        exact ⟨i, rfl, by simp, hp⟩
theorem key_of_pos {k : Int} {i : Nat} (h : pos l k = some i) : ∃ y, l[i]? = some (k, y) := (Kn.of_pos h).1
theorem marks_nodup : ∀ n : Nat, ((marksOf l n).map (·.1)).Nodup
  | 0 => by simp [marksOf]
  | n + 1 => by
    simp only [marksOf, List.map_append]
    cases hp : pos l (n : Int) with
    | none => simpa using marks_nodup n
    | some i =>
      rw [List.nodup_append]
      refine ⟨marks_nodup n, by simp, fun a ha b hb e => ?_⟩
      simp at hb
      obtain ⟨t, ht, rfl⟩ := List.mem_map.1 ha
      obtain ⟨j, h1, h2, h3⟩ := marks_mem n t ht
      have hij : j = i := by rw [h1, hb] at e; exact_mod_cast e
      subst hij
      obtain ⟨y, hy⟩ := key_of_pos h3
      obtain ⟨z, hz⟩ := key_of_pos hp
      rw [hy] at hz
      simp at hz
      omega
theorem places_marks (hn : (l.map (·.1)).Nodup) {i : Nat} {k : Int} {y : α} (hi : l[i]? = some (k, y)) (hk : 0 ≤ k) : ∀ n : Nat, placesOf (marksOf l n) (i : Int) = if k < n then [k.toNat] else []
  | 0 => by rw [if_neg (by omega)]; rfl
  | n + 1 => by
    have ih := places_marks hn hi hk n
    have hpk : pos l k = some i := (Kn.of_nodup hn hi).pos
    simp only [marksOf]
    cases hp : pos l (n : Int) with
    | none =>
      have hne : k ≠ n := by rintro rfl; rw [hpk] at hp; cases hp
      simp only [List.append_nil]
      rw [ih]
      by_cases h : k < n
      · rw [if_pos h, if_pos (by push_cast; omega)]
      · rw [if_neg h, if_neg (by push_cast; omega)]
    | some j =>
      simp only
      rw [placesOf_snoc, ih]
      by_cases hj : j = i
      · subst hj
        obtain ⟨z, hz⟩ := key_of_pos hp
        rw [hi] at hz
        simp at hz
        rw [if_neg (by omega), if_pos rfl, if_pos (by push_cast; omega), hz.1]
        simp
      · have hne : k ≠ n := by rintro rfl; rw [hpk] at hp; cases hp; exact hj rfl
        have hji : ¬ ((j : Int) = (i : Int)) := by omega
        rw [if_neg hji, List.append_nil]
        by_cases h : k < n
        · rw [if_pos h, if_pos (by push_cast; omega)]
        · rw [if_neg h, if_neg (by push_cast; omega)]

theorem isTo_bounds {x : Ins} (h : isTo x = true) : 11 ≤ x.1 ∧ x.1 ≤ 14 := by
  unfold isTo at h
  simpa using h
theorem isTo_most {op : Int} (h1 : 11 ≤ op) (h2 : op ≤ 14) : mostOf op = -1 := by
  have : op = 11 ∨ op = 12 ∨ op = 13 ∨ op = 14 := by omega
  rcases this with rfl | rfl | rfl | rfl <;> decide
theorem may_to {x : Ins} {n : Int} (hm : mayB x.1 x.2.1 x.2.2 n = true) (h : isTo x = true) : 0 ≤ x.2.1 ∧ x.2.1 < n := by
  obtain ⟨h1, h2⟩ := isTo_bounds h
  unfold mayB at hm
  rw [isTo_most h1 h2] at hm
  simp at hm
  omega
theorem may_fin {x : Ins} {n : Int} (hm : mayB x.1 x.2.1 x.2.2 n = true) : mayB (finI x).1 (finI x).2.1 (finI x).2.2 n = true ∧ (finI x).1 = x.1 ∧ (finI x).2.1 = x.2.1 ∧ fixB (finI x).2.2 = fixB x.2.2 := by
  unfold finI
  by_cases h : x.1 = 1
  · rw [if_pos h]
    have hx : x.2.1 = 0 := by
      unfold mayB at hm
      rw [h] at hm
      simp [show mostOf 1 = -2 by decide] at hm
      exact hm
    refine ⟨?_, h.symm, hx.symm, rfl⟩
    have := hm
    rw [h, hx] at this
    exact this
  · rw [if_neg h]
    have hz : fixB x.2.2 = 0 := by
      have := hm
      unfold mayB at this
      rw [show (x.1 == 1) = false by simpa using h] at this
      simp at this
      exact this.2.2.1
    refine ⟨?_, rfl, rfl, by rw [hz]; exact fix_zero'⟩
    have e : mayB x.1 x.2.1 0 n = mayB x.1 x.2.1 x.2.2 n := by
      unfold mayB
      rw [hz, fix_zero']
    rw [e]
    exact hm

/-- Filling puts the places in. -/
theorem fill_places (hn : (l.map (·.1)).Nodup) (N : Nat) : ∀ code : List Ins, (∀ x ∈ code, mayB x.1 x.2.1 x.2.2 (N : Int) = true) → (∀ x ∈ code, isTo x = true → ∃ i, pos l x.2.1 = some i) →
    fillAll (marksOf l N) (code.map encI) (code.map (labI l)) = some (code.map finI)
  | [], _, _ => rfl
  | x :: xs, hm, hk => by
    have ih := fill_places hn N xs (fun y hy => hm y (by simp [hy])) (fun y hy => hk y (by simp [hy]))
    have h1 : fill1 (marksOf l N) (encI x) (labI l x) = some (finI x) := by
      unfold labI
      by_cases h : isTo x = true
      · rw [if_pos h]
        obtain ⟨i, hi⟩ := hk x (by simp) h
        obtain ⟨y, hy⟩ := key_of_pos hi
        obtain ⟨b1, b2⟩ := may_to (hm x (by simp)) h
        have hp := places_marks hn hy b1 N
        rw [if_pos b2] at hp
        obtain ⟨c1, c2⟩ := isTo_bounds h
        simp only [fill1, hi, Option.getD_some, hp]
        unfold encI finI
        rw [if_neg (by omega), if_pos h, if_neg (by omega)]
        simp [Int.toNat_of_nonneg b1]
      · rw [if_neg h]
        simp only [fill1]
        unfold encI finI
        by_cases h1 : x.1 = 1
        · rw [if_pos h1, if_pos h1]
        · rw [if_neg h1, if_neg h, if_neg h1]
    simp only [List.map_cons, fillAll, h1, ih]
    rfl

/-- The builder when so many instructions are put in. -/
def sAt (tag : Int) (l : List (Int × α)) (code : List Ins) (i : Nat) : Asm := ⟨tag, (code.take i).map encI, (code.take i).map (labI l), l.length, marksOf l i⟩
theorem sAt_progE {tag : Int} {code : List Ins} (hc : checkE tag code = 0) (hn : (l.map (·.1)).Nodup) (hk : ∀ x ∈ code, isTo x = true → ∃ i, pos l x.2.1 = some i) :
    fillAll (sAt tag l code code.length).marks (sAt tag l code code.length).code (sAt tag l code code.length).tos = some (code.map finI) ∧ progE (sAt tag l code code.length) = 0 := by
  have hch : (tag = 1 ∨ tag = 2) ∧ 1 ≤ code.length ∧ code.length ≤ 1024 ∧ ∀ t ∈ code, mayB t.1 t.2.1 t.2.2 code.length = true := by
    unfold checkE at hc
    by_cases h : (tag = 1 ∨ tag = 2) ∧ 1 ≤ code.length ∧ code.length ≤ 1024 ∧ ∀ t ∈ code, mayB t.1 t.2.1 t.2.2 code.length = true
    · exact h
    · rw [if_neg h] at hc; cases hc
  have hf : fillAll (sAt tag l code code.length).marks (sAt tag l code code.length).code (sAt tag l code code.length).tos = some (code.map finI) := by
    unfold sAt
    simp only [List.take_length]
    exact fill_places hn code.length code hch.2.2.2 hk
  refine ⟨hf, ?_⟩
  rw [progE_some ⟨fun t ht => ?_, marks_nodup _⟩ hf]
  · unfold checkE
    rw [if_pos]
    refine ⟨hch.1, by simpa using hch.2.1, by simpa using hch.2.2.1, fun t ht => ?_⟩
    obtain ⟨x, hx, rfl⟩ := List.mem_map.1 ht
    rw [List.length_map]
    exact (may_fin (hch.2.2.2 x hx)).1
  · obtain ⟨i, h1, h2, h3⟩ := marks_mem _ t ht
    obtain ⟨y, hy⟩ := key_of_pos h3
    have := (List.getElem?_eq_some_iff.1 hy).1
    unfold sAt
    simp only
    omega
end

set_option maxHeartbeats 2000000 in
theorem rsame_alike (tag : Int) (a a2 : Option Addr) (c c2 : Nat) (l l2 : List Ins) (w : World) (hs : Sees w a (insV l)) (hs2 : Sees w a2 (insV l2)) (hl : l.length ≤ 9223372036854775807) (hl2 : l2.length = l.length)
    (hal : ∀ (i : Nat) (x y : Ins), l[i]? = some x → l2[i]? = some y → x.1 = y.1 ∧ x.2.1 = y.2.1 ∧ fixB x.2.2 = fixB y.2.2) :
    Calls Try.prog 18 #[.agg #[.int .i64 tag, .slice a l.length c], .agg #[.int .i64 tag, .slice a2 l.length c2]] w fun e w' => e = .returned (.bool true) ∧ Chg w w' Nothing := by
  have HS := Lib.hid hs
  have HS2 := Lib.hid hs2
  have HL2 := Lib.hid hl2
  have HAL := Lib.hid hal
  have n1 : (tag != tag) = false := by simp
  have n2 : ((l.length : Int) != (l.length : Int)) = false := by simp
  clear hs hs2 hl2 hal
  go_enter Try.func18, Try.ntmps18
  go_wp2_with fail
  go_loopg [25] l.length (fun k i wr => ∃ n : Nat, n + k = l.length ∧ i = .int .i64 (n : Nat) ∧ Chg ((w.alloc (.cells #[.int .i64 tag, .slice a l.length c] 37)).alloc (.cells #[.int .i64 tag, .slice a2 l.length c2] 37)) wr Nothing)
  case atStart => exact ⟨0, by simp, rfl, Chg.refl _ _⟩
  case round =>
    obtain ⟨n, hn, rfl, hc⟩ := hrel
    have HC := Lib.hid hc
    have hsz : w.heap.size + 1 < wr.heap.size := by have := hc.size; simp at this; omega
    have hne : ¬ w.heap.size = wr.heap.size := by omega
    have hne2 : ¬ w.heap.size + 1 = wr.heap.size := by omega
    have C0 := Lib.hid (show Chg w wr Nothing from (((Chg.refl w Nothing).alloc _).alloc _).trans hc (fun _ _ h => h))
    have p0 : wr.cell? ⟨w.heap.size + 1, 1, none⟩ = some (.slice a2 l.length c2) := hc.cell (by have := heap_alloc2_new w (.cells #[.int .i64 tag, .slice a l.length c] 37) (.cells #[.int .i64 tag, .slice a2 l.length c2] 37); rw [blk_cell this]; rfl) id
    clear hc
    by_cases hlt : n < l.length
    · have hd : decide (n < l.length) = true := by simpa using hlt
      obtain ⟨⟨op, m, x⟩, hx⟩ : ∃ t, l[n]? = some t := ⟨_, List.getElem?_eq_getElem hlt⟩
      obtain ⟨⟨op2, m2, x2⟩, hx2⟩ : ∃ t, l2[n]? = some t := ⟨_, List.getElem?_eq_getElem (by have := HL2.out; omega)⟩
      obtain ⟨b, o, rfl, k0, k1, k2⟩ := ins_cells HS.out hx
      obtain ⟨b2, o2, rfl, j0, j1, j2⟩ := ins_cells HS2.out hx2
      obtain ⟨g1, g2, g3⟩ := HAL.out n _ _ hx hx2
      simp only at g1 g2 g3 j0 j1 j2
      subst g1 g2
      have k0 := C0.out.cell k0 id
      have k1 := C0.out.cell k1 id
      have k2 := C0.out.cell k2 id
      have j0 := C0.out.cell j0 id
      have j1 := C0.out.cell j1 id
      have j2 := C0.out.cell j2 id
      have hb2 : b2 < wr.heap.size := cell_lt j0
      have hb3 : ¬ b2 = wr.heap.size := by omega
      have q1 : (op != op) = false := by simp
      have q2 : (m != m) = false := by simp
      have q3 : ((fixB x : Int) != (fixB x2 : Int)) = false := by rw [g3]; simp
      clear hx hx2 g3
      go_wp2_with fail
      go_quiet ((go_at_call 29; exact Calls.quiet_of_same (rbits_q _ _)))
      go_wp2_with fail
      go_roundg (gk - 1)
      case measure => omega
      case rel => exact ⟨n + 1, by omega, by go_num, ((HC.out.alloc _).alloc _).drewN _⟩
    · have hd : decide (n < l.length) = false := by simpa using hlt
      go_wp2_with fail
      go_ret
      exact ⟨rfl, C0.out⟩
end Go.Proofs.Ythgcmafeahlmpaa
