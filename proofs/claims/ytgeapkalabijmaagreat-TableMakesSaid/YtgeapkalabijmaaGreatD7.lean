/- A table's All, its recipes and its Room. Printed by gen/table2.py. -/
import Derived.Test.YtgeapkalabijmaaGreatD4
namespace Go.Proofs.YtgeapkalabijmaaGreat
open Go Go.RowKit
set_option maxRecDepth 100000
set_option maxHeartbeats 1000000
set_option linter.unusedVariables false
set_option linter.unusedSimpArgs false

def tbAllRow (base room : Int) (k : Int) (s : Asm) : Asm :=
  let loop : Int := (s.labels : Int); let s := s.label
  let over : Int := (s.labels : Int); let s := s.label
  let s := tbCell base room (3 + k) s
  let s := tbSet base room 3 s
  let s := tbFirst base room  s
  let s := s.mark loop
  let s := tbGet base room 0 s
  let s := s.to 13 over
  let s := tbPart base room 0 s
  let s := tbEmit base room  s
  let s := tbPart base room 1 s
  let s := tbEmit base room  s
  let s := tbOn base room  s
  let s := s.to 11 loop
  let s := s.mark over
  s

/-- So many rows, one behind the other. -/
def tbRows (base room : Int) : Nat → Asm → Asm
  | 0, s => s
  | i + 1, s => tbAllRow base room (i : Int) (tbRows base room i s)
def tbDoAll (base room : Int) (s : Asm) : Asm := tbHalt base room (tbRows base room 5 s)
set_option maxRecDepth 100000 in
set_option maxHeartbeats 8000000 in
theorem tbDoAll_any {G : Nat → Prop} {w0 w : World} {m p : Nat} {base room : Int} {s : Asm} {n : Nat} (h : Mk G w0 w m p base room s n) (hn : n < 50) :
    Calls Tryz.prog 109 #[.pointer (some ⟨m, 0, none⟩)] w fun e w' => e = .returned (.tuple #[]) ∧ Mk G w0 w' m p base room (tbDoAll base room s) (n + 186) := by
  have H0 := Lib.hid h
  have HN := Lib.hid hn
  clear h hn
  go_enter Tryz.func109, Tryz.ntmps109
  go_wp2_with fail
  go_loopg [5] 5 (fun k v wr => ∃ i : Nat, i + k = 5 ∧ v = .int .i64 (i : Int) ∧ Mk G w0 wr m p base room (tbRows base room i s) (n + 37 * i))
  case atStart => exact ⟨0, rfl, rfl, H0.out⟩
  case round =>
    obtain ⟨i, hk, rfl, h⟩ := hrel
    have HK := Lib.hid hk
    have c0 := h.c0
    have c1 := h.c1
    have c2 := h.c2
    have H0 := Lib.hid h
    clear h
    by_cases hlt : i < 5
    · have HI := Lib.hid hlt
      have q1 : decide ((i : Int) < 5) = true := decide_eq_true (by omega)
      clear hk
      go_upto_region 3 with fail
      go_cut [3, 4] (fun v0 v1 wx => v0 = .int .i64 (((tbRows base room i s)).labels : Int) ∧ v1 = .int .i64 (((tbRows base room i s).label).labels : Int) ∧ Mk G w0 wx m p base room (tbRows base room i s).label.label (n + 37 * i + 2))
      case first =>
        have HL := Lib.hid (fun w' => H0.out.quiet (w' := w'))
        go_region_law (first | (go_simp; go_at_call 70; refine (mk_label (by first | exact h1 | exact h1.quiet (Chg.refl _ _).drew) (by have := HN.out; have := HI.out; omega)).mono ?_; rintro e x2 ⟨rfl, h2⟩; have d2 := h2.c0) | (go_simp; go_at_call 70; refine (mk_label (HL.out _ (by first | exact (Chg.refl _ _).drew | exact Chg.refl _ _)) (by have := HN.out; have := HI.out; omega)).mono ?_; rintro e x1 ⟨rfl, h1⟩; have d1 := h1.c0))
        all_goals
          go_wp2_with fail
          go_meet
          exact ⟨rfl, rfl, h2⟩
      obtain ⟨rfl, rfl, h⟩ := hcut
      clear c0 c1 c2
      have c0 := h.c0
      have c1 := h.c1
      have c2 := h.c2
      have H1 := Lib.hid h
      clear h
      go_wp2_with fail
      refine (tbCell_any H1.out _ (by have := HN.out; have := HI.out; omega)).mono ?_
      clear c0 c1 c2
      rintro e w2 ⟨rfl, h⟩
      have c0 := h.c0
      have c1 := h.c1
      have c2 := h.c2
      have H2 := Lib.hid h
      clear h
      go_wp2_with fail
      refine (tbSet_any H2.out _ (by have := HN.out; have := HI.out; omega)).mono ?_
      clear c0 c1 c2
      rintro e w3 ⟨rfl, h⟩
      have c0 := h.c0
      have c1 := h.c1
      have c2 := h.c2
      have H3 := Lib.hid h
      clear h
      go_wp2_with fail
      refine (tbFirst_any H3.out (by have := HN.out; have := HI.out; omega)).mono ?_
      clear c0 c1 c2
      rintro e w4 ⟨rfl, h⟩
      have c0 := h.c0
      have c1 := h.c1
      have c2 := h.c2
      have H4 := Lib.hid h
      clear h
      go_wp2_with fail
      refine (mk_mark H4.out _ (by have := HN.out; have := HI.out; omega)).mono ?_
      clear c0 c1 c2
      rintro e w5 ⟨rfl, h⟩
      have c0 := h.c0
      have c1 := h.c1
      have c2 := h.c2
      have H5 := Lib.hid h
      clear h
      go_wp2_with fail
      refine (tbGet_any H5.out _ (by have := HN.out; have := HI.out; omega)).mono ?_
      clear c0 c1 c2
      rintro e w6 ⟨rfl, h⟩
      have c0 := h.c0
      have c1 := h.c1
      have c2 := h.c2
      have H6 := Lib.hid h
      clear h
      go_wp2_with fail
      refine (mk_to H6.out _ _ (by have := HN.out; have := HI.out; omega)).mono ?_
      clear c0 c1 c2
      rintro e w7 ⟨rfl, h⟩
      have c0 := h.c0
      have c1 := h.c1
      have c2 := h.c2
      have H7 := Lib.hid h
      clear h
      go_wp2_with fail
      refine (tbPart_any H7.out _ (by have := HN.out; have := HI.out; omega)).mono ?_
      clear c0 c1 c2
      rintro e w8 ⟨rfl, h⟩
      have c0 := h.c0
      have c1 := h.c1
      have c2 := h.c2
      have H8 := Lib.hid h
      clear h
      go_wp2_with fail
      refine (tbEmit_any H8.out (by have := HN.out; have := HI.out; omega)).mono ?_
      clear c0 c1 c2
      rintro e w9 ⟨rfl, h⟩
      have c0 := h.c0
      have c1 := h.c1
      have c2 := h.c2
      have H9 := Lib.hid h
      clear h
      go_wp2_with fail
      refine (tbPart_any H9.out _ (by have := HN.out; have := HI.out; omega)).mono ?_
      clear c0 c1 c2
      rintro e w10 ⟨rfl, h⟩
      have c0 := h.c0
      have c1 := h.c1
      have c2 := h.c2
      have H10 := Lib.hid h
      clear h
      go_wp2_with fail
      refine (tbEmit_any H10.out (by have := HN.out; have := HI.out; omega)).mono ?_
      clear c0 c1 c2
      rintro e w11 ⟨rfl, h⟩
      have c0 := h.c0
      have c1 := h.c1
      have c2 := h.c2
      have H11 := Lib.hid h
      clear h
      go_wp2_with fail
      refine (tbOn_any H11.out (by have := HN.out; have := HI.out; omega)).mono ?_
      clear c0 c1 c2
      rintro e w12 ⟨rfl, h⟩
      have c0 := h.c0
      have c1 := h.c1
      have c2 := h.c2
      have H12 := Lib.hid h
      clear h
      go_wp2_with fail
      refine (mk_to H12.out _ _ (by have := HN.out; have := HI.out; omega)).mono ?_
      clear c0 c1 c2
      rintro e w13 ⟨rfl, h⟩
      have c0 := h.c0
      have c1 := h.c1
      have c2 := h.c2
      have H13 := Lib.hid h
      clear h
      go_wp2_with fail
      refine (mk_mark H13.out _ (by have := HN.out; have := HI.out; omega)).mono ?_
      clear c0 c1 c2
      rintro e w14 ⟨rfl, h⟩
      have c0 := h.c0
      have c1 := h.c1
      have c2 := h.c2
      have H14 := Lib.hid h
      clear h

      go_wp2_with fail
      go_roundg (gk - 1)
      case measure => have := HK.out; omega
      case rel => exact ⟨i + 1, by have := HK.out; omega, rfl, by
        rw [show n + 37 * (i + 1) = n + 37 * i + 37 by omega]
        exact H14.out⟩
    · have q1 : decide ((i : Int) < 5) = false := decide_eq_false (by omega)
      have he : i = 5 := by omega
      clear hk hlt
      subst he
      go_wp2_with fail
      refine (tbHalt_any H0.out (by have := HN.out; omega)).mono ?_
      rintro e wz ⟨rfl, h⟩
      have HZ := Lib.hid h
      clear h
      go_wp2_with fail
      go_end0
      exact ⟨rfl, HZ.out⟩

end Go.Proofs.YtgeapkalabijmaaGreat
