/- AsmPlaces: its walk. -/
import Derived.Test.YthgcmafeahlmpaaAE
namespace Go.Proofs.Ythgcmafeahlmpaa
open Go Go.RowKit
set_option linter.unusedVariables false
set_option linter.unusedSimpArgs false

def labV2 (l : List (Int × Int)) : List (Int × Value) := l.map fun t => (t.1, .int .i64 t.2)
def LabOk (l : List (Int × Int)) : Prop := (l.map (·.1)).Nodup ∧ ∀ (j : Nat) (t : Int × Int), l[j]? = some t → t.2 = if j < 256 then (j : Int) else -1
theorem LabOk.nil : LabOk [] := ⟨by simp, by simp⟩
theorem LabOk.snoc {l : List (Int × Int)} (h : LabOk l) {k v : Int} (hk : pos l k = none) (hv : v = if l.length < 256 then (l.length : Int) else -1) : LabOk (l ++ [(k, v)]) := by
  have hu := Un.of_pos hk
  refine ⟨?_, fun j t ht => ?_⟩
  · rw [List.map_append, List.nodup_append]
    refine ⟨h.1, by simp, fun a ha b hb e => ?_⟩
    simp at hb
    obtain ⟨t, ht, rfl⟩ := List.mem_map.1 ha
    exact hu t ht (by rw [e, hb])
  · by_cases hj : j < l.length
    · rw [List.getElem?_append_left hj] at ht
      exact h.2 j t ht
    · rw [List.getElem?_append_right (by omega)] at ht
      have : j - l.length = 0 := by
        have := (List.getElem?_eq_some_iff.1 ht).1
        simp at this
        omega
      rw [this] at ht
      simp at ht
      subst ht
      rw [hv, show j = l.length by omega]
theorem pos_snoc {l : List (Int × Int)} {k k' v : Int} {j : Nat} (h : pos l k = some j) : pos (l ++ [(k', v)]) k = some j := by
  have hk := Kn.of_pos h
  have hlt := hk.lt
  obtain ⟨⟨y, hy⟩, h2⟩ := hk
  refine Kn.pos ⟨⟨y, by rw [List.getElem?_append_left hlt]; exact hy⟩, fun i hi t ht => ?_⟩
  rw [List.getElem?_append_left (by omega)] at ht
  exact h2 i hi t ht
theorem pos_snoc_new {l : List (Int × Int)} {k v : Int} (h : pos l k = none) : pos (l ++ [(k, v)]) k = some l.length := by
  have hu := Un.of_pos h
  refine Kn.pos ⟨⟨v, by simp⟩, fun i hi t ht => ?_⟩
  rw [List.getElem?_append_left (by omega)] at ht
  exact hu t (List.mem_of_getElem? ht)
theorem labV2_look {l : List (Int × Int)} {k : Int} {j : Nat} {w W : World} {mb : Nat} (hm : MapI w mb (labV2 l)) (hl : LabOk l) (hlen : l.length ≤ 256) (hp : pos l k = some j) (hW : W.heap[mb]? = w.heap[mb]?) (ok : Bool) :
    (Instr.lookup 40 (.map (some mb)) (.int .i64 k) ok).run Try.prog W = .ok (if ok then .tuple #[.int .i64 (j : Int), .bool true] else .int .i64 (j : Int)) W := by
  have hk := Kn.of_pos hp
  obtain ⟨⟨y, hy⟩, _⟩ := id hk
  have hlt := hk.lt
  have hv := hl.2 j _ hy
  rw [if_pos (by omega)] at hv
  simp only at hv
  subst hv
  have hk2 : Kn (labV2 l) k j := Kn.of_pos (by unfold labV2; rw [pos_map]; exact hp)
  exact (hm.frame hW).look_kn (P := Try.prog) Try.underlying40 Try.underlying3 hk2 ok (by unfold labV2; rw [List.getElem?_map, hy]; rfl)
theorem labV2_known {l : List (Int × Int)} {k : Int} {j : Nat} {w W : World} {mb : Nat} (hm : MapI w mb (labV2 l)) (hp : pos l k = some j) (hW : W.heap[mb]? = w.heap[mb]?) :
    ∃ v, (Instr.lookup 40 (.map (some mb)) (.int .i64 k) true).run Try.prog W = .ok (.tuple #[.int .i64 v, .bool true]) W := by
  have hk := Kn.of_pos hp
  obtain ⟨⟨y, hy⟩, _⟩ := id hk
  have hk2 : Kn (labV2 l) k j := Kn.of_pos (by unfold labV2; rw [pos_map]; exact hp)
  exact ⟨y, (hm.frame hW).look_kn (P := Try.prog) Try.underlying40 Try.underlying3 hk2 true (by unfold labV2; rw [List.getElem?_map, hy]; rfl)⟩
theorem labV2_none {l : List (Int × Int)} {k : Int} {w W : World} {mb : Nat} (hm : MapI w mb (labV2 l)) (hp : pos l k = none) (hW : W.heap[mb]? = w.heap[mb]?) (ok : Bool) :
    (Instr.lookup 40 (.map (some mb)) (.int .i64 k) ok).run Try.prog W = .ok (if ok then .tuple #[.int .i64 0, .bool false] else .int .i64 0) W := by
  have hu : Un (labV2 l) k := Un.of_pos (by unfold labV2; rw [pos_map]; exact hp)
  exact (hm.frame hW).look_un (P := Try.prog) Try.underlying40 Try.underlying3 hu ok (by rfl)
theorem MapI.len {w : World} {b : Nat} {l : List (Int × Value)} {P : Program} {K E T : TypeId} (h : MapI w b l) (ht : P.underlying T = some (.map K E)) (ty : TypeId) : (Builtin.len_ #[T] ty #[.map (some b)]).run P w = .ok (.int .i64 (l.length : Int)) w := by
  obtain ⟨es, clock, hb, he⟩ := h
  have e1 : es.size = l.length := by have := congrArg List.length he; simpa using this
  simp [Builtin.len_, run_underlying ht, MapKept.run_getObj_map hb, goInt, Result.andThen, e1]

/-- What holds in the first loop. -/
structure P1 (w1 wr : World) (mb p : Nat) (tag : Int) (code : List Ins) (i : Nat) (l : List (Int × Int)) : Prop where
  chg : Chg w1 wr Nothing
  map : MapI wr mb (labV2 l)
  bd : ∃ F, Bd wr p F ⟨tag, [], [], min l.length 256, []⟩ ∧ ¬ F mb ∧ ∀ k, F k → w1.heap.size ≤ k
  mbw : w1.heap.size ≤ mb
  ok : LabOk l
  cov : ∀ x ∈ code.take i, isTo x = true → ∃ j, pos l x.2.1 = some j
theorem P1.same {w1 wr w2 : World} {mb p : Nat} {tag : Int} {code : List Ins} {i : Nat} {l : List (Int × Int)} {x : Ins} (h : P1 w1 wr mb p tag code i l) (hx : code[i]? = some x) (hc : Chg wr w2 Nothing) (hk : isTo x = true → ∃ j, pos l x.2.1 = some j) : P1 w1 w2 mb p tag code (i + 1) l := by
  obtain ⟨h1, h2, ⟨F, h3, h4, h5⟩, h6, h7, h8⟩ := h
  refine ⟨h1.trans hc (fun _ _ h => h), h2.frame (hc.block _ h2.lt id), ⟨F, h3.chg hc (fun _ _ h => h), h4, h5⟩, h6, h7, fun y hy => ?_⟩
  rw [take_snoc' hx, List.mem_append] at hy
  rcases hy with hy | hy
  · exact h8 y hy
  · simp at hy; subst hy; exact hk
theorem P1.more {w1 wr W w2 w4 : World} {mb p : Nat} {tag v : Int} {code : List Ins} {i : Nat} {l : List (Int × Int)} {x : Ins} {F : Nat → Prop} (h : P1 w1 wr mb p tag code i l) (hx : code[i]? = some x) (hc : Chg wr W Nothing) (hp : pos l x.2.1 = none)
    (hF : ¬ F mb) (hF2 : ∀ k, F k → w1.heap.size ≤ k) (c2 : Chg W w2 F) (b2 : Bd w2 p (Grow F W w2) ⟨tag, [], [], min (l.length + 1) 256, []⟩) (hv : v = if l.length < 256 then (l.length : Int) else -1)
    (hm : MapI w4 mb (labV2 l ++ [(x.2.1, .int .i64 v)])) (hc4 : Chg w2 w4 (fun j => j = mb)) : P1 w1 w4 mb p tag code (i + 1) (l ++ [(x.2.1, v)]) := by
  obtain ⟨h1, h2, _, h6, h7, h8⟩ := h
  have l1 := h2.lt
  have l2 := hc.size
  have l3 := c2.size
  have l4 := h1.size
  refine ⟨((h1.trans hc (fun _ _ h => h)).trans c2 (fun k hk h => absurd (hF2 k h) (by omega))).trans hc4 (fun k hk h => by omega), ?_, ⟨Grow F W w2, by rw [List.length_append]; exact b2.chg hc4 (fun k hk e => by rcases hk with hk | hk; exact hF (e ▸ hk); omega), ?_, ?_⟩, h6, h7.snoc hp hv, fun y hy ht => ?_⟩
  · unfold labV2 at hm ⊢
    rw [List.map_append]
    exact hm
  · rintro (hk | hk)
    · exact hF hk
    · omega
  · rintro k (hk | hk)
    · exact hF2 k hk
    · omega
  · rw [take_snoc' hx, List.mem_append] at hy
    rcases hy with hy | hy
    · obtain ⟨j, hj⟩ := h8 y hy ht
      exact ⟨j, pos_snoc hj⟩
    · simp at hy; subst hy; exact ⟨_, pos_snoc_new hp⟩
/-- What holds in the second loop. -/
structure P2 (w1 wr : World) (mb p : Nat) (l : List (Int × Int)) (s : Asm) : Prop where
  chg : Chg w1 wr Nothing
  map : MapI wr mb (labV2 l)
  bd : ∃ F, Bd wr p F s ∧ ¬ F mb ∧ ∀ k, F k → w1.heap.size ≤ k
  mbw : w1.heap.size ≤ mb
theorem P2.move {w1 wr w2 : World} {mb p : Nat} {l : List (Int × Int)} {s : Asm} (h : P2 w1 wr mb p l s) (hc : Chg wr w2 Nothing) : P2 w1 w2 mb p l s := by
  obtain ⟨h1, h2, ⟨F, h3, h4, h5⟩, h6⟩ := h
  exact ⟨h1.trans hc (fun _ _ h => h), h2.frame (hc.block _ h2.lt id), ⟨F, h3.chg hc (fun _ _ h => h), h4, h5⟩, h6⟩
theorem P2.step {w1 wr w2 : World} {mb p : Nat} {l : List (Int × Int)} {s s' : Asm} {F : Nat → Prop} (h : P2 w1 wr mb p l s) (hF : ¬ F mb) (hF2 : ∀ k, F k → w1.heap.size ≤ k) (c2 : Chg wr w2 F) (b2 : Bd w2 p (Grow F wr w2) s') : P2 w1 w2 mb p l s' := by
  obtain ⟨h1, h2, _, h6⟩ := h
  have l1 := h2.lt
  have l2 := c2.size
  have l4 := h1.size
  refine ⟨h1.trans c2 (fun k hk h => absurd (hF2 k h) (by omega)), h2.frame (c2.block _ h2.lt hF), ⟨Grow F wr w2, b2, ?_, ?_⟩, h6⟩
  · rintro (hk | hk)
    · exact hF hk
    · omega
  · rintro k (hk | hk)
    · exact hF2 k hk
    · omega
theorem sAt_succ {α : Type} {tag : Int} {l : List (Int × α)} {code : List Ins} {i : Nat} {x : Ins} (hx : code[i]? = some x) :
    sAt tag l code (i + 1) = { (⟨tag, (sAt tag l code i).code, (sAt tag l code i).tos, l.length, marksOf l (i + 1)⟩ : Asm) with code := (sAt tag l code i).code ++ [encI x], tos := (sAt tag l code i).tos ++ [labI l x] } := by
  unfold sAt
  simp only [take_snoc' hx, List.map_append, List.map_cons, List.map_nil]
theorem marks_some {α : Type} {l : List (Int × α)} {i j : Nat} (h : pos l (i : Int) = some j) : marksOf l (i + 1) = marksOf l i ++ [((j : Int), i)] := by simp only [marksOf, h]
theorem marks_none {α : Type} {l : List (Int × α)} {i : Nat} (h : pos l (i : Int) = none) : marksOf l (i + 1) = marksOf l i := by simp only [marksOf, h, List.append_nil]
theorem marks_len {α : Type} {l : List (Int × α)} : ∀ i, (marksOf l i).length ≤ i
  | 0 => by simp [marksOf]
  | i + 1 => by
    have := marks_len (l := l) i
    simp only [marksOf, List.length_append]
    split <;> simp <;> omega

set_option maxRecDepth 100000 in
set_option maxHeartbeats 16000000 in
theorem places_walk (tag : Int) (a : Option Addr) (c : Nat) (code : List Ins) (w : World) (hs : Sees w a (insV code)) :
    Calls Try.prog 5 #[.agg #[.int .i64 tag, .slice a code.length c]] w fun e w' => e = .returned (.bool true) ∧ Chg w w' Nothing := by
  have HS := Lib.hid hs
  clear hs
  have hmm0 := @run_makeMap Try.prog
  go_enter Try.func5, Try.ntmps5
  go_wp2_with fail
  refine (live_any _).mono ?_
  rintro e w1 ⟨rfl, c1⟩
  have hz1 : w.heap.size < w1.heap.size := by have := c1.size; simp at this; omega
  have p0 : w1.cell? ⟨w.heap.size, 0, none⟩ = some (.int .i64 tag) := box_at w #[.int .i64 tag, .slice a code.length c] 37 c1 rfl 0 rfl
  have p1 : w1.cell? ⟨w.heap.size, 1, none⟩ = some (.slice a code.length c) := box_at w #[.int .i64 tag, .slice a code.length c] 37 c1 rfl 1 rfl
  have C1 := Lib.hid (show Chg w w1 Nothing from ((Chg.refl _ _).alloc _).trans c1 (fun _ _ h => h))
  have S1 := Lib.hid (HS.out.chg C1.out)
  clear c1
  go_wp2_with fail
  refine (new_any tag w1).mono ?_
  rintro e w2 ⟨p, rfl, hp, b2, c2⟩
  have P0 := c2.cell p0 id
  have P1' := c2.cell p1 id
  have C2 := Lib.hid c2
  have B2 := Lib.hid b2
  have S2 := Lib.hid (S1.out.chg c2)
  clear c2 b2 hp
  go_wp2_with fail
  refine (rcheck_any tag a c code w2 S2.out).mono ?_
  rintro e w3 ⟨rfl, c3⟩
  have C3 := Lib.hid (C2.out.trans c3 (fun _ _ h => h))
  have B3 := Lib.hid (B2.out.chg c3 (fun _ _ h => h))
  have d0 := C3.out.cell p0 id
  have d1 := C3.out.cell p1 id
  have hz3 : w1.heap.size ≤ w3.heap.size := C3.out.size
  have hz2 : w2.heap.size ≤ w3.heap.size := c3.size
  have HZ2 := Lib.hid hz2
  clear c3 P0 P1' hz2
  by_cases hch : checkE tag code = 0
  · have hb : (checkE tag code != 0) = false := by rw [hch]; rfl
    have HCH := Lib.hid hch
    have hch2 : 1 ≤ code.length ∧ code.length ≤ 1024 ∧ ∀ t ∈ code, mayB t.1 t.2.1 t.2.2 code.length = true := by
      unfold checkE at hch
      by_cases h : (tag = 1 ∨ tag = 2) ∧ 1 ≤ code.length ∧ code.length ≤ 1024 ∧ ∀ t ∈ code, mayB t.1 t.2.1 t.2.2 code.length = true
      · exact h.2
      · rw [if_neg h] at hch; cases hch
    have HC2 := Lib.hid hch2
    clear hch hch2
    have hz4 : w.heap.size < w3.heap.size := by omega
    go_wp2
    have HP1 := Lib.hid (show P1 w1 (w3.alloc (.map #[] 0)) w3.heap.size p tag code 0 [] from
      ⟨C3.out.alloc _, MapI.made w3, ⟨_, B3.out.chg ((Chg.refl _ _).alloc _) (fun _ _ h => h), fun h => by
        rcases h with h | h
        · exact h
        · have := HZ2.out; omega, fun k h => by
        rcases h with h | h
        · exact h.elim
        · exact h.1⟩, hz3, LabOk.nil, by simp⟩)
    go_loopg [30] code.length (fun k v wr => ∃ (i : Nat) (l : List (Int × Int)), i + k = code.length ∧ v = .int .i64 (i : Int) ∧ P1 w1 wr w3.heap.size p tag code i l)
    case atStart => exact ⟨0, [], by simp, rfl, HP1.out⟩
    case round =>
      obtain ⟨i, l, hi, rfl, hP⟩ := hrel
      have HP := Lib.hid hP
      have hN := Lib.hid hi
      have hcw := hP.chg
      have hsz := hcw.size
      have hmw := hP.map.lt
      have hmm : w3.heap.size < wr.heap.size := hmw
      have hlen := Lib.hid HC2.out.2.1
      by_cases hlt : i < code.length
      · have hd : decide (i < code.length) = true := by simpa using hlt
        obtain ⟨⟨op, m, x⟩, hx⟩ : ∃ t, code[i]? = some t := ⟨_, List.getElem?_eq_getElem hlt⟩
        obtain ⟨b, o, rfl, k0, k1, k2⟩ := ins_cells S1.out hx
        have k0 := hcw.cell k0 id
        have k1 := hcw.cell k1 id
        have k2 := hcw.cell k2 id
        have hbl : b < wr.heap.size := cell_lt k0
        have hbn : ¬ b = wr.heap.size := by omega
        have HX := Lib.hid hx
        have hiv : i + 1 ≤ 1024 := by have := hlen.out; omega
        clear hx hi hP hcw hmw
        by_cases h1 : 11 ≤ op
        · have q1 : decide ((11 : Int) ≤ op) = true := decide_eq_true h1
          by_cases h2 : op ≤ 14
          · have q2 : decide (op ≤ 14) = true := decide_eq_true h2
            have hto : isTo (op, m, x) = true := by unfold isTo; simp only [q1, q2]; rfl
            have HTO := Lib.hid hto
            clear hto
            cases hpos : pos l m with
            | some j =>
              obtain ⟨v, hlk⟩ := labV2_known (W := wr.alloc (.cells #[.int .i64 op, .int .i64 m, fl x] 42)) HP.out.map hpos (Below.heap_alloc _ _ _ hmm)
              have R := Lib.hid (HP.out.same HX.out ((Chg.refl wr Nothing).alloc (.cells #[.int .i64 op, .int .i64 m, fl x] 42)) (fun _ => ⟨j, hpos⟩))
              clear hpos
              go_wp2_with fail
              go_roundg (gk - 1)
              case measure => have := hN.out; omega
              case rel => exact ⟨i + 1, l, by have := hN.out; omega, by go_num, R.out⟩
            | none =>
              have hlk := labV2_none (W := wr.alloc (.cells #[.int .i64 op, .int .i64 m, fl x] 42)) HP.out.map hpos (Below.heap_alloc _ _ _ hmm) true
              simp only [if_true] at hlk
              obtain ⟨F, f1, f2, f3⟩ := HP.out.bd
              have HF := Lib.hid (And.intro f1 (And.intro f2 f3))
              have HPO := Lib.hid hpos
              have e0 : (wr.alloc (.cells #[.int .i64 op, .int .i64 m, fl x] 42)).cell? ⟨wr.heap.size, 1, none⟩ = some (.int .i64 m) := blk_cell (heap_alloc_new wr _) 1
              have E0 := Lib.hid e0
              have hlF : ∀ k, F k → k < wr.heap.size := f1.lt
              have HLF := Lib.hid hlF
              clear hpos f1 f2 f3 e0 hlF
              go_upto_region 14 with fail
              by_cases hll : l.length < 256
              · have hmin : min l.length 256 < 256 := by omega
                have HLL := Lib.hid hll
                clear hll
                go_region_law (first | (go_simp; go_at_call 12; refine (label_more p F _ _ (HF.out.1.chg ((Chg.refl _ _).alloc _).drew (fun _ _ h => h)) hmin).mono ?_; rintro e w4 ⟨rfl, b4, c4'⟩; have c4 : Chg (wr.alloc (.cells #[.int .i64 op, .int .i64 m, fl x] 42)) w4 F := ⟨c4'.os, c4'.tape, c4'.output, c4'.size, c4'.block⟩; have e1 := c4.cell E0.out (fun h => Nat.lt_irrefl _ (HLF.out _ h)); obtain ⟨w5, hput, hm5, hc5⟩ := ((HP.out.map.frame (c4.block _ (by simp; omega) HF.out.2.1 |>.trans (Below.heap_alloc _ _ _ hmm))).put_un (P := Try.prog) (T := 40) Try.underlying40 Try.underlying3 (show Un (labV2 l) m from Un.of_pos (by unfold labV2; rw [pos_map]; exact HPO.out)) (.int .i64 ((min l.length 256 : Nat) : Int)))))
                all_goals
                  have R := Lib.hid (HP.out.more (v := ((min l.length 256 : Nat) : Int)) HX.out ((Chg.refl wr Nothing).alloc (.cells #[.int .i64 op, .int .i64 m, fl x] 42)) HPO.out HF.out.2.1 HF.out.2.2 c4 (show Bd w4 p (Grow F (wr.alloc (.cells #[.int .i64 op, .int .i64 m, fl x] 42)) w4) _ from by
                    have e : min (l.length + 1) 256 = min l.length 256 + 1 := by have := HLL.out; omega
                    rw [e]
                    exact b4) (by have := HLL.out; rw [if_pos this]; congr 1; omega) hm5 hc5)
                  clear c4 c4' b4 hm5 hc5 e1 hput hlk
                  go_wp2_with fail
                  go_roundg (gk - 1)
                  case measure => have := hN.out; omega
                  case rel => exact ⟨i + 1, _, by have := hN.out; omega, by go_num, R.out⟩
              · have hmin : min l.length 256 = 256 := by omega
                have HMIN := Lib.hid hmin
                have HLL := Lib.hid hll
                clear hll hmin
                go_region_law (first | (go_simp; go_at_call 12; refine (label_full p F _ _ (HF.out.1.chg ((Chg.refl _ _).alloc _).drew (fun _ _ h => h)) HMIN.out).mono ?_; rintro e w4 ⟨rfl, rfl⟩; have e1 := E0.out; obtain ⟨w5, hput, hm5, hc5⟩ := ((HP.out.map.frame (w' := (wr.alloc (.cells #[.int .i64 op, .int .i64 m, fl x] 42)).drew) (Below.heap_alloc _ _ _ hmm)).put_un (P := Try.prog) (T := 40) Try.underlying40 Try.underlying3 (show Un (labV2 l) m from Un.of_pos (by unfold labV2; rw [pos_map]; exact HPO.out)) (.int .i64 (-1)))))
                all_goals
                  have R := Lib.hid (HP.out.more (v := -1) HX.out (((Chg.refl wr Nothing).alloc (.cells #[.int .i64 op, .int .i64 m, fl x] 42)).drew) HPO.out HF.out.2.1 HF.out.2.2 (Chg.refl _ _) (show Bd (wr.alloc (.cells #[.int .i64 op, .int .i64 m, fl x] 42)).drew p (Grow F (wr.alloc (.cells #[.int .i64 op, .int .i64 m, fl x] 42)).drew (wr.alloc (.cells #[.int .i64 op, .int .i64 m, fl x] 42)).drew) _ from by
                    have e : min (l.length + 1) 256 = min l.length 256 := by have := HLL.out; omega
                    rw [e]
                    exact (HF.out.1.chg ((Chg.refl _ _).alloc _).drew (fun _ _ h => h)).grow) (by rw [if_neg HLL.out]) hm5 hc5)
                  clear hm5 hc5 e1 hput hlk
                  go_wp2_with fail
                  go_roundg (gk - 1)
                  case measure => have := hN.out; omega
                  case rel => exact ⟨i + 1, _, by have := hN.out; omega, by go_num, R.out⟩
          · have q2 : decide (op ≤ 14) = false := decide_eq_false h2
            have R := Lib.hid (HP.out.same HX.out ((Chg.refl wr Nothing).alloc (.cells #[.int .i64 op, .int .i64 m, fl x] 42)) (fun h => absurd (isTo_bounds h).2 h2))
            go_wp2_with fail
            go_roundg (gk - 1)
            case measure => have := hN.out; omega
            case rel => exact ⟨i + 1, l, by have := hN.out; omega, by go_num, R.out⟩
        · have q1 : decide ((11 : Int) ≤ op) = false := decide_eq_false h1
          have R := Lib.hid (HP.out.same HX.out ((Chg.refl wr Nothing).alloc (.cells #[.int .i64 op, .int .i64 m, fl x] 42)) (fun h => absurd (isTo_bounds h).1 h1))
          go_wp2_with fail
          go_roundg (gk - 1)
          case measure => have := hN.out; omega
          case rel => exact ⟨i + 1, l, by have := hN.out; omega, by go_num, R.out⟩
      · have hd : decide (i < code.length) = false := by simpa using hlt
        have hie : i = code.length := by omega
        have hcov : ∀ x ∈ code, isTo x = true → ∃ j, pos l x.2.1 = some j := by
          have := HP.out.cov
          rw [hie, List.take_length] at this
          exact this
        have HCOV := Lib.hid hcov
        have hml := HP.out.map.len (P := Try.prog) (T := 40) Try.underlying40 3
        have e1 : (labV2 l).length = l.length := by simp [labV2]
        rw [e1] at hml
        have dw0 := hcw.cell p0 id
        have dw1 := hcw.cell p1 id
        have HCW := Lib.hid hcw
        clear hi hP hcw hcov e1 hie hmw
        by_cases hbig : 256 < l.length
        · have q1 : decide ((256 : Int) < (l.length : Int)) = true := decide_eq_true (by omega)
          clear hbig
          go_wp2_with fail
          go_ret
          exact ⟨rfl, C1.out.trans HCW.out (fun _ _ h => h)⟩
        · have q1 : decide ((256 : Int) < (l.length : Int)) = false := decide_eq_false (by omega)
          have hl2 : l.length ≤ 256 := by omega
          have HL2 := Lib.hid hl2
          have HP2 := Lib.hid (show P2 w1 wr w3.heap.size p l (sAt tag l code 0) from by
            obtain ⟨F, f1, f2, f3⟩ := HP.out.bd
            have e : min l.length 256 = l.length := by omega
            rw [e] at f1
            exact ⟨HP.out.chg, HP.out.map, ⟨F, f1, f2, f3⟩, HP.out.mbw⟩)
          have HOK := Lib.hid HP.out.ok
          clear hbig hl2 hlt
          go_wp2_with fail
          go_loopg [64] code.length (fun k v wq => ∃ (i : Nat), i + k = code.length ∧ v = .int .i64 (i : Int) ∧ P2 w1 wq w3.heap.size p l (sAt tag l code i))
          case atStart => exact ⟨0, by simp, rfl, HP2.out⟩
          case round =>
            obtain ⟨i, hi, rfl, hP⟩ := hrel
            have HQ := Lib.hid hP
            have hN := Lib.hid hi
            have hcw := hP.chg
            have hsz := hcw.size
            have hmm : w3.heap.size < wr.heap.size := hP.map.lt
            have hlen := Lib.hid HC2.out.2.1
            by_cases hlt : i < code.length
            · have hd : decide (i < code.length) = true := by simpa using hlt
              obtain ⟨⟨op, m, x⟩, hx⟩ : ∃ t, code[i]? = some t := ⟨_, List.getElem?_eq_getElem hlt⟩
              have hmay := HC2.out.2.2 _ (List.mem_of_getElem? hx)
              have HMAY := Lib.hid hmay
              obtain ⟨b, o, rfl, k0, k1, k2⟩ := ins_cells S1.out hx
              have k0 := hcw.cell k0 id
              have k1 := hcw.cell k1 id
              have k2 := hcw.cell k2 id
              have hbl : b < wr.heap.size := cell_lt k0
              have hbn : ¬ b = wr.heap.size := by omega
              have HX := Lib.hid hx
              have hiv : i + 1 ≤ 1024 := by have := hlen.out; omega
              obtain ⟨F, f1, f2, f3⟩ := HQ.out.bd
              have HLF := Lib.hid (show ¬ F wr.heap.size from fun h => Nat.lt_irrefl _ (f1.lt _ h))
              have HF := Lib.hid (And.intro (f1.chg ((Chg.refl wr Nothing).alloc (.cells #[.int .i64 op, .int .i64 m, fl x] 42)) (fun _ _ h => h)) (And.intro f2 f3))
              have E0 := Lib.hid (show (wr.alloc (.cells #[.int .i64 op, .int .i64 m, fl x] 42)).heap[wr.heap.size]? = some (.cells #[.int .i64 op, .int .i64 m, fl x] 42 (0, 0)) from heap_alloc_new wr _)
              have hcl : (sAt tag l code i).code.length = i := by unfold sAt; simp; omega
              have HCL := Lib.hid hcl
              have hqz : wr.heap.size < (wr.alloc (.cells #[.int .i64 op, .int .i64 m, fl x] 42)).heap.size := by simp
              clear hx hi hP hcw f1 f2 f3 hmay hcl
              cases hpos : pos l (i : Int) with
              | some j =>
                have hlk := labV2_look (W := (wr.alloc (.cells #[.int .i64 op, .int .i64 m, fl x] 42))) HQ.out.map HOK.out HL2.out hpos (Below.heap_alloc _ _ _ hmm) true
                simp only [if_true] at hlk
                have HPOS := Lib.hid hpos
                clear hpos
                go_wp2_with fail
                refine (mark_any p F (sAt tag l code i) (j : Int) _ HF.out.1 (by have := marks_len (l := l) i; show (marksOf l i).length < _; omega)).mono ?_
                rintro e w4 ⟨rfl, b4, c4⟩
                have XP := Lib.hid ((HQ.out.move ((Chg.refl wr Nothing).alloc (.cells #[.int .i64 op, .int .i64 m, fl x] 42))).step HF.out.2.1 HF.out.2.2 c4 (s' := ⟨tag, (sAt tag l code i).code, (sAt tag l code i).tos, l.length, marksOf l (i + 1)⟩) (by
                  rw [marks_some HPOS.out]
                  have := b4
                  rw [HCL.out] at this
                  exact this))
                have E1 := Lib.hid ((c4.block _ hqz HLF.out).trans E0.out)
                clear b4 c4 hlk
                have g0 : w4.cell? ⟨wr.heap.size, 0, none⟩ = some (.int .i64 op) := blk_cell E1.out 0
                have g1 : w4.cell? ⟨wr.heap.size, 1, none⟩ = some (.int .i64 m) := blk_cell E1.out 1
                have g2 : w4.cell? ⟨wr.heap.size, 2, none⟩ = some (fl x) := blk_cell E1.out 2
                obtain ⟨F2, f1, f2, f3⟩ := XP.out.bd
                have HF2 := Lib.hid (And.intro f1 (And.intro f2 f3))
                clear f1 f2 f3
                by_cases h1 : op = 1
                · have q1 : (op == 1) = true := by simpa using h1
                  have H1 := Lib.hid h1
                  clear h1
                  go_wp2_with fail
                  refine (push_any p F2 _ x _ HF2.out.1 (by show (sAt tag l code i).code.length < _; rw [HCL.out]; omega)).mono ?_
                  rintro e w5 ⟨rfl, b5, c5⟩
                  have R := Lib.hid (XP.out.step HF2.out.2.1 HF2.out.2.2 c5 (s' := sAt tag l code (i + 1)) (by
                    rw [sAt_succ HX.out]
                    have e1 : encI (op, m, x) = (1, 0, x) := by unfold encI; rw [if_pos H1.out]
                    have e2 : labI l (op, m, x) = none := by unfold labI; rw [if_neg (fun h => by have := (isTo_bounds h).1; simp only [H1.out] at this; omega)]
                    rw [e1, e2]
                    exact b5))
                  clear b5 c5 g0 g1 g2
                  go_wp2_with fail
                  go_roundg (gk - 1)
                  case measure => have := hN.out; omega
                  case rel => exact ⟨i + 1, by have := hN.out; omega, by go_num, R.out⟩
                have q1 : (op == 1) = false := by simpa using h1
                have H1 := Lib.hid h1
                clear h1
                by_cases hto : isTo (op, m, x) = true
                · obtain ⟨t1, t2⟩ := isTo_bounds hto
                  have q2 : decide ((11 : Int) ≤ op) = true := decide_eq_true t1
                  have q3 : decide (op ≤ 14) = true := decide_eq_true t2
                  obtain ⟨jm, hjm⟩ := HCOV.out _ (List.mem_of_getElem? HX.out) hto
                  have hlk2 := labV2_look (W := w4) XP.out.map HOK.out HL2.out hjm rfl false
                  simp only [Bool.false_eq_true, if_false] at hlk2
                  have HTO := Lib.hid hto
                  have HJM := Lib.hid hjm
                  clear hto hjm t1 t2
                  go_wp2_with fail
                  refine (to_any p F2 _ op (jm : Int) _ HF2.out.1 (by show (sAt tag l code i).code.length < _; rw [HCL.out]; omega)).mono ?_
                  rintro e w5 ⟨rfl, b5, c5⟩
                  have R := Lib.hid (XP.out.step HF2.out.2.1 HF2.out.2.2 c5 (s' := sAt tag l code (i + 1)) (by
                    rw [sAt_succ HX.out]
                    have e1 : encI (op, m, x) = (op, 0, 0) := by unfold encI; rw [if_neg H1.out, if_pos HTO.out]
                    have e2 : labI l (op, m, x) = some (jm : Int) := by unfold labI; rw [if_pos HTO.out, HJM.out]; rfl
                    rw [e1, e2]
                    exact b5))
                  clear b5 c5 g0 g1 g2 hlk2
                  go_wp2_with fail
                  go_roundg (gk - 1)
                  case measure => have := hN.out; omega
                  case rel => exact ⟨i + 1, by have := hN.out; omega, by go_num, R.out⟩
                · have HTO := Lib.hid hto
                  have hcc : (op < 11) ∨ (11 ≤ op ∧ 14 < op) := by
                    by_cases h : 11 ≤ op
                    · refine .inr ⟨h, ?_⟩
                      by_cases h2 : op ≤ 14
                      · exact absurd (by unfold isTo; simp [h, h2]) hto
                      · omega
                    · exact .inl (by omega)
                  clear hto
                  rcases hcc with t1 | ⟨t1, t2⟩
                  · have q2 : decide ((11 : Int) ≤ op) = false := decide_eq_false (by omega)
                    go_wp2_with fail
                    refine (add_any p F2 _ op m _ HF2.out.1 (by show (sAt tag l code i).code.length < _; rw [HCL.out]; omega)).mono ?_
                    rintro e w5 ⟨rfl, b5, c5⟩
                    have R := Lib.hid (XP.out.step HF2.out.2.1 HF2.out.2.2 c5 (s' := sAt tag l code (i + 1)) (by
                      rw [sAt_succ HX.out]
                      have e1 : encI (op, m, x) = (op, m, 0) := by unfold encI; rw [if_neg H1.out, if_neg HTO.out]
                      have e2 : labI l (op, m, x) = none := by unfold labI; rw [if_neg HTO.out]
                      rw [e1, e2]
                      exact b5))
                    clear b5 c5 g0 g1 g2
                    go_wp2_with fail
                    go_roundg (gk - 1)
                    case measure => have := hN.out; omega
                    case rel => exact ⟨i + 1, by have := hN.out; omega, by go_num, R.out⟩
                  · have q2 : decide ((11 : Int) ≤ op) = true := decide_eq_true t1
                    have q3 : decide (op ≤ 14) = false := decide_eq_false (by omega)
                    go_wp2_with fail
                    refine (add_any p F2 _ op m _ HF2.out.1 (by show (sAt tag l code i).code.length < _; rw [HCL.out]; omega)).mono ?_
                    rintro e w5 ⟨rfl, b5, c5⟩
                    have R := Lib.hid (XP.out.step HF2.out.2.1 HF2.out.2.2 c5 (s' := sAt tag l code (i + 1)) (by
                      rw [sAt_succ HX.out]
                      have e1 : encI (op, m, x) = (op, m, 0) := by unfold encI; rw [if_neg H1.out, if_neg HTO.out]
                      have e2 : labI l (op, m, x) = none := by unfold labI; rw [if_neg HTO.out]
                      rw [e1, e2]
                      exact b5))
                    clear b5 c5 g0 g1 g2
                    go_wp2_with fail
                    go_roundg (gk - 1)
                    case measure => have := hN.out; omega
                    case rel => exact ⟨i + 1, by have := hN.out; omega, by go_num, R.out⟩
              | none =>
                have hlk := labV2_none (W := (wr.alloc (.cells #[.int .i64 op, .int .i64 m, fl x] 42))) HQ.out.map hpos (Below.heap_alloc _ _ _ hmm) true
                simp only [if_true] at hlk
                have XP := Lib.hid (show P2 w1 (wr.alloc (.cells #[.int .i64 op, .int .i64 m, fl x] 42)) w3.heap.size p l ⟨tag, (sAt tag l code i).code, (sAt tag l code i).tos, l.length, marksOf l (i + 1)⟩ from by
                  rw [marks_none hpos]
                  exact HQ.out.move ((Chg.refl wr Nothing).alloc (.cells #[.int .i64 op, .int .i64 m, fl x] 42)))
                have E1 := Lib.hid E0.out
                clear hpos
                have g0 : (wr.alloc (.cells #[.int .i64 op, .int .i64 m, fl x] 42)).cell? ⟨wr.heap.size, 0, none⟩ = some (.int .i64 op) := blk_cell E1.out 0
                have g1 : (wr.alloc (.cells #[.int .i64 op, .int .i64 m, fl x] 42)).cell? ⟨wr.heap.size, 1, none⟩ = some (.int .i64 m) := blk_cell E1.out 1
                have g2 : (wr.alloc (.cells #[.int .i64 op, .int .i64 m, fl x] 42)).cell? ⟨wr.heap.size, 2, none⟩ = some (fl x) := blk_cell E1.out 2
                obtain ⟨F2, f1, f2, f3⟩ := XP.out.bd
                have HF2 := Lib.hid (And.intro f1 (And.intro f2 f3))
                clear f1 f2 f3
                by_cases h1 : op = 1
                · have q1 : (op == 1) = true := by simpa using h1
                  have H1 := Lib.hid h1
                  clear h1
                  go_wp2_with fail
                  refine (push_any p F2 _ x _ HF2.out.1 (by show (sAt tag l code i).code.length < _; rw [HCL.out]; omega)).mono ?_
                  rintro e w5 ⟨rfl, b5, c5⟩
                  have R := Lib.hid (XP.out.step HF2.out.2.1 HF2.out.2.2 c5 (s' := sAt tag l code (i + 1)) (by
                    rw [sAt_succ HX.out]
                    have e1 : encI (op, m, x) = (1, 0, x) := by unfold encI; rw [if_pos H1.out]
                    have e2 : labI l (op, m, x) = none := by unfold labI; rw [if_neg (fun h => by have := (isTo_bounds h).1; simp only [H1.out] at this; omega)]
                    rw [e1, e2]
                    exact b5))
                  clear b5 c5 g0 g1 g2
                  go_wp2_with fail
                  go_roundg (gk - 1)
                  case measure => have := hN.out; omega
                  case rel => exact ⟨i + 1, by have := hN.out; omega, by go_num, R.out⟩
                have q1 : (op == 1) = false := by simpa using h1
                have H1 := Lib.hid h1
                clear h1
                by_cases hto : isTo (op, m, x) = true
                · obtain ⟨t1, t2⟩ := isTo_bounds hto
                  have q2 : decide ((11 : Int) ≤ op) = true := decide_eq_true t1
                  have q3 : decide (op ≤ 14) = true := decide_eq_true t2
                  obtain ⟨jm, hjm⟩ := HCOV.out _ (List.mem_of_getElem? HX.out) hto
                  have hlk2 := labV2_look (W := (wr.alloc (.cells #[.int .i64 op, .int .i64 m, fl x] 42))) XP.out.map HOK.out HL2.out hjm rfl false
                  simp only [Bool.false_eq_true, if_false] at hlk2
                  have HTO := Lib.hid hto
                  have HJM := Lib.hid hjm
                  clear hto hjm t1 t2
                  go_wp2_with fail
                  refine (to_any p F2 _ op (jm : Int) _ HF2.out.1 (by show (sAt tag l code i).code.length < _; rw [HCL.out]; omega)).mono ?_
                  rintro e w5 ⟨rfl, b5, c5⟩
                  have R := Lib.hid (XP.out.step HF2.out.2.1 HF2.out.2.2 c5 (s' := sAt tag l code (i + 1)) (by
                    rw [sAt_succ HX.out]
                    have e1 : encI (op, m, x) = (op, 0, 0) := by unfold encI; rw [if_neg H1.out, if_pos HTO.out]
                    have e2 : labI l (op, m, x) = some (jm : Int) := by unfold labI; rw [if_pos HTO.out, HJM.out]; rfl
                    rw [e1, e2]
                    exact b5))
                  clear b5 c5 g0 g1 g2 hlk2
                  go_wp2_with fail
                  go_roundg (gk - 1)
                  case measure => have := hN.out; omega
                  case rel => exact ⟨i + 1, by have := hN.out; omega, by go_num, R.out⟩
                · have HTO := Lib.hid hto
                  have hcc : (op < 11) ∨ (11 ≤ op ∧ 14 < op) := by
                    by_cases h : 11 ≤ op
                    · refine .inr ⟨h, ?_⟩
                      by_cases h2 : op ≤ 14
                      · exact absurd (by unfold isTo; simp [h, h2]) hto
                      · omega
                    · exact .inl (by omega)
                  clear hto
                  rcases hcc with t1 | ⟨t1, t2⟩
                  · have q2 : decide ((11 : Int) ≤ op) = false := decide_eq_false (by omega)
                    go_wp2_with fail
                    refine (add_any p F2 _ op m _ HF2.out.1 (by show (sAt tag l code i).code.length < _; rw [HCL.out]; omega)).mono ?_
                    rintro e w5 ⟨rfl, b5, c5⟩
                    have R := Lib.hid (XP.out.step HF2.out.2.1 HF2.out.2.2 c5 (s' := sAt tag l code (i + 1)) (by
                      rw [sAt_succ HX.out]
                      have e1 : encI (op, m, x) = (op, m, 0) := by unfold encI; rw [if_neg H1.out, if_neg HTO.out]
                      have e2 : labI l (op, m, x) = none := by unfold labI; rw [if_neg HTO.out]
                      rw [e1, e2]
                      exact b5))
                    clear b5 c5 g0 g1 g2
                    go_wp2_with fail
                    go_roundg (gk - 1)
                    case measure => have := hN.out; omega
                    case rel => exact ⟨i + 1, by have := hN.out; omega, by go_num, R.out⟩
                  · have q2 : decide ((11 : Int) ≤ op) = true := decide_eq_true t1
                    have q3 : decide (op ≤ 14) = false := decide_eq_false (by omega)
                    go_wp2_with fail
                    refine (add_any p F2 _ op m _ HF2.out.1 (by show (sAt tag l code i).code.length < _; rw [HCL.out]; omega)).mono ?_
                    rintro e w5 ⟨rfl, b5, c5⟩
                    have R := Lib.hid (XP.out.step HF2.out.2.1 HF2.out.2.2 c5 (s' := sAt tag l code (i + 1)) (by
                      rw [sAt_succ HX.out]
                      have e1 : encI (op, m, x) = (op, m, 0) := by unfold encI; rw [if_neg H1.out, if_neg HTO.out]
                      have e2 : labI l (op, m, x) = none := by unfold labI; rw [if_neg HTO.out]
                      rw [e1, e2]
                      exact b5))
                    clear b5 c5 g0 g1 g2
                    go_wp2_with fail
                    go_roundg (gk - 1)
                    case measure => have := hN.out; omega
                    case rel => exact ⟨i + 1, by have := hN.out; omega, by go_num, R.out⟩
            · have hd : decide (i < code.length) = false := by simpa using hlt
              have hie : i = code.length := by omega
              rw [hie] at hP
              obtain ⟨F, f1, f2, f3⟩ := hP.bd
              obtain ⟨hfill, hpe⟩ := sAt_progE HCH.out HOK.out.1 HCOV.out
              have HFI := Lib.hid hfill
              have HPE := Lib.hid hpe
              have HF := Lib.hid f1
              have HCQ := Lib.hid hcw
              have hcl : (sAt tag l code code.length).code.length = code.length := by simp [sAt]
              have HCL := Lib.hid hcl
              have HTG := Lib.hid (show (sAt tag l code code.length).tag = tag from rfl)
              clear hi hP hie f1 f2 f3 hfill hpe hcl hcw hlt
              go_wp2_with fail
              refine (program_any p F (sAt tag l code code.length) wr HF.out (by rw [HCL.out]; have := hlen.out; omega)).mono ?_
              rintro e w5 ⟨v, rfl, hc5, hP5⟩
              rw [HPE.out]
              obtain ⟨gc, rfl, hown⟩ : ∃ gc, v = .agg #[.int .i64 tag, .slice (some ⟨gc, 0, none⟩) code.length code.length] ∧ w5.ownsRow wr.heap.size 42 3 (.slice (some ⟨gc, 0, none⟩) code.length code.length) code.length (insV (code.map finI)) := by
                rcases hP5 with ⟨h, _⟩ | ⟨_, out, gc, h1, h2, h3, h4⟩
                · exact absurd HPE.out h
                · rw [HFI.out] at h1
                  injection h1 with h1
                  subst h1
                  rw [List.length_map] at h3 h4
                  exact ⟨gc, h3, h4⟩
              have c5 : Chg w1 w5 Nothing := HCQ.out.trans hc5 (fun _ _ h => h)
              have y0 := c5.cell p0 id
              have y1 := c5.cell p1 id
              have hz5 : w.heap.size < w5.heap.size := by have := c5.size; omega
              have SS := Lib.hid (S1.out.chg c5)
              have SO := Lib.hid (Sees.of_owns hown)
              have CC := Lib.hid (C1.out.trans c5 (fun _ _ h => h))
              clear hc5 hP5 hown c5
              go_wp2_with fail
              refine (rsame_alike tag a _ c _ code (code.map finI) _ (SS.out.chg ((Chg.refl _ _).alloc _)) (SO.out.chg ((Chg.refl _ _).alloc _)) (by have := hlen.out; omega) (by simp) (fun i x y hx hy => by
                rw [List.getElem?_map, hx] at hy
                simp at hy
                subst hy
                obtain ⟨_, z1, z2, z3⟩ := may_fin (HC2.out.2.2 x (List.mem_of_getElem? hx))
                exact ⟨z1.symm, z2.symm, z3.symm⟩)).mono ?_
              rintro e w6 ⟨rfl, c6⟩
              have C6 := Lib.hid ((CC.out.alloc _).trans c6 (fun _ _ h => h))
              clear c6
              go_wp2_with fail
              go_ret
              exact ⟨rfl, C6.out⟩
  · have hb : (checkE tag code != 0) = true := by simpa using hch
    clear hch
    go_wp2_with fail
    go_ret
    exact ⟨rfl, C1.out.trans C3.out (fun _ _ h => h)⟩
end Go.Proofs.Ythgcmafeahlmpaa
