/- The document's machine: Step and Give, whole. -/
import Derived.Test.YthgllaomafhdkaaGreatM59
import Derived.Test.YthgllaomafhdkaaGreatK9
namespace Go.Proofs.YthgllaomafhdkaaGreat
open Go Go.RowKit
set_option maxRecDepth 100000
set_option maxHeartbeats 1000000
set_option linter.unusedVariables false
set_option linter.unusedSimpArgs false

/-- How it stands while it goes on, and waits. -/
def Mc.Hok (s : Mc) : Prop := (s.how.1 = 0 → s.how.2 = (0, 0)) ∧ (s.waits = true → 0 ≤ s.cell)
theorem Mc.Rok.of {s : Mc} (h : s.s.length ≤ 64 ∧ s.calls.length ≤ 16 ∧ (s.buf.length : Int) ≤ s.writes ∧ s.writes ≤ 32 ∧ (s.buf.map (·.1)).Nodup) (k : s.Hok) : s.Rok :=
  ⟨h.1, h.2.1, by have := h.2.2.1; have := h.2.2.2.1; omega, h.2.2.2.2, k.1, k.2⟩
theorem Hok.step {s : Mc} (k : s.Hok) (ok : s.Fine) : (stepP s).1.Hok := by
  cases hw : s.waits with
  | true =>
    have e : stepP s = (s, ⟨1, s.cell, 0, false⟩) := by unfold stepP; rw [if_pos hw]
    rw [e]; exact k
  | false =>
    by_cases hh : s.how.1 = 0
    · have hh2 : s.how = (0, 0, 0) := by have := k.1 hh; exact Prod.ext hh this
      rcases step_class hw hh2 ok.ok.used with ⟨u, _, he⟩ | ⟨_, hw2⟩
      · refine ⟨fun h => ?_, fun h => ?_⟩
        · rcases he.how with e | e | e <;> rw [e] at h <;> cases h
        · rw [he.waits] at h; cases h
      · refine ⟨fun _ => by rw [hw2.how]; exact k.1 hh, fun h => ?_⟩
        rw [hw2.waits] at h
        have h1 : (stepP s).2.kind = 1 := by simpa using h
        rw [(hw2.read h1).2.2.1]
        exact (hw2.cell (by rw [h1]; decide)).1
    · have e : stepP s = (s, askEnd) := by unfold stepP; rw [if_neg (by rw [hw]; decide), if_pos hh]
      rw [e]; exact k
theorem Hok.give {s : Mc} (k : s.Hok) (x : Nat) : (giveP s x).1.Hok := by
  unfold giveP
  split
  · exact ⟨k.1, fun h => by cases h⟩
  · exact k
theorem mc0_hok (c t f r tag : Int) (code : List Ins) (args : List Nat) : (mc0 c t f r tag code args).Hok := ⟨fun _ => rfl, fun h => by cases h⟩
section
variable (q lb : Nat) (R : Nat → Prop) (s : Mc) (w : World)
theorem rstep_any (h : Rm w q lb R s) (ok : s.Fine) (k : s.Rok) :
    Calls Tryz.prog 33 #[.pointer (some ⟨q, 0, none⟩)] w fun e w' => e = .returned (askV (stepP s).2) ∧ Rs w w' q lb R (stepP s).1 := by
  cases hw : s.waits with
  | true =>
    have e : stepP s = (s, ⟨1, s.cell, 0, false⟩) := by unfold stepP; rw [if_pos hw]
    rw [e]; exact rstep_waits q lb R s w h hw (k.cell hw)
  | false =>
    by_cases hh : s.how.1 = 0
    · cases hb : s.bad with
      | true =>
        have e : stepP s = (s.fails 50, askEnd) := by unfold stepP; rw [if_neg (by rw [hw]; decide), if_neg (by rw [hh]; decide), if_pos hb]
        rw [e]; exact rstep_bad q lb R s w h hw hh hb
      | false =>
        by_cases hu : (s.used : Int) = s.fuel
        · have e : stepP s = (s.fails 80, askEnd) := by unfold stepP; rw [if_neg (by rw [hw]; decide), if_neg (by rw [hh]; decide), if_neg (by rw [hb]; decide), if_pos hu]
          rw [e]; exact rstep_fuel q lb R s w h hw hh hb hu
        · have hat := (ok.ok.at_ hb).1
          by_cases ha : s.at_ = s.code.length
          · rw [stepP_past hw hh hb hu ha]; exact rstep_past q lb R s w h hw hh hb hu (by omega)
          · obtain ⟨x, hx⟩ : ∃ x, s.code[s.at_]? = some x := ⟨_, List.getElem?_eq_getElem (by omega)⟩
            obtain ⟨hl, hmay⟩ := bad_facts hb
            have hmx := may_facts (hmay x (List.mem_of_getElem? hx))
            have hus := ok.ok.used
            have hfu := ok.ok.fuel
            have ho := ok.ok.outs
            have hrd := ok.ok.rds
            obtain ⟨op, n, v⟩ := x
            obtain ⟨kk, rfl⟩ := Int.eq_ofNat_of_zero_le (show 0 ≤ op by have := hmx.lo; dsimp only at this; omega)
            have g1 := hmx.lo
            have g2 := hmx.hi
            dsimp only at g1 g2
            refine rstep_go q lb R s w kk n v h hw hh hb hu hx (by omega) (by omega) k (by omega) (by omega) (fun e => hmx.pick (by show (kk : Int) = 5; omega)) (fun hr W R' hW => ?_)
            exact rdo_any q lb R' _ n v W (kk : Int) _ hW ⟨k.len, k.calls, k.buf, k.nd, k.how, k.cell⟩ hmx hr ok.ok.num (by show s.out.length < 4096; omega) (by show s.reads.length < 4096; split at hrd <;> omega) ok.ok.call hh
    · have e : stepP s = (s, askEnd) := by unfold stepP; rw [if_neg (by rw [hw]; decide), if_pos hh]
      rw [e]; exact rstep_ended q lb R s w h hw hh
theorem rgive_any (x : Nat) (h : Rm w q lb R s) (ok : s.Fine) (k : s.Rok) :
    Calls Tryz.prog 34 #[.pointer (some ⟨q, 0, none⟩), fl x] w fun e w' => e = .returned (.int .i64 (giveP s x).2) ∧ Rs w w' q lb R (giveP s x).1 := by
  cases hw : s.waits with
  | true =>
    have e : (giveP s x).2 = 0 := by unfold giveP; rw [if_pos hw]
    rw [e]
    exact rgive_yes q lb R s x w h k.len (by have h1 := Nat.le_trans (Nat.le_add_right _ _) ok.ok.rds; have := ok.ok.used; have := ok.ok.fuel; omega) hw (k.cell hw)
  | false =>
    have e : giveP s x = (s, 3) := by unfold giveP; rw [if_neg (by rw [hw]; decide)]
    rw [e]
    exact (rgive_no q lb R s x w h hw).mono fun e w' hh => ⟨hh.1, Rs.refl h hh.2⟩
end
end Go.Proofs.YthgllaomafhdkaaGreat
