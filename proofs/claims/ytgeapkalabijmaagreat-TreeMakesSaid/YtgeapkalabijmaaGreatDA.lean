/- Operations of a tree's programs as values: what each does with a builder; several, one behind the other. -/
import Derived.Test.YtgeapkalabijmaaGreatDM
namespace Go.Proofs.YtgeapkalabijmaaGreat
open Go Go.RowKit
set_option maxRecDepth 100000
set_option maxHeartbeats 1000000
set_option linter.unusedVariables false
set_option linter.unusedSimpArgs false

theorem Mk.most {G : Nat → Prop} {w0 w : World} {m p n n' : Nat} {base room : Int} {s : Asm} (h : Mk G w0 w m p base room s n) (hn : n ≤ n') : Mk G w0 w m p base room s n' :=
  ⟨h.ex, h.c0, h.c1, h.c2, h.old, Nat.le_trans h.l1 hn, Nat.le_trans h.l2 hn, Nat.le_trans h.l3 hn⟩
abbrev Eff := Int → Int → Asm → Asm
/-- What an operation, a function's value, does with a maker's builder, whatever has gone ahead, if the blocks that it captured have stayed. -/
def OprOk (F : Nat → Prop) (w : World) (v : Value) (d : Nat) (f : Eff) : Prop :=
  ∃ (kf : Nat) (cap : Array Value) (K : Nat → Prop), v = .func (.func kf) #[] cap ∧ (∀ b, K b → b < w.heap.size ∧ ¬ F b) ∧ (∀ (args : Array Value) (w : World), (callFunc kf args).run Tryz.prog w = .ok (.enter kf args) w) ∧
  ∀ (F1 : Nat → Prop) (w1 : World) (m p : Nat) (base room : Int) (s : Asm) (n : Nat), (∀ b, K b → w1.heap[b]? = w.heap[b]? ∧ ¬ F1 b) → Mk F1 w1 w1 m p base room s n → n + d < 240 →
    Calls Tryz.prog kf (#[.pointer (some ⟨m, 0, none⟩)] ++ cap) w1 fun e w' => e = .returned (.tuple #[]) ∧ Mk F1 w1 w' m p base room (f base room s) (n + d)
abbrev Opd := Value × Nat × Eff
def AllOk (F : Nat → Prop) (w : World) : List Opd → Prop
  | [] => True
  | t :: l => OprOk F w t.1 t.2.1 t.2.2 ∧ AllOk F w l
theorem AllOk.mem {F : Nat → Prop} {w : World} : ∀ {l : List Opd}, AllOk F w l → ∀ t ∈ l, OprOk F w t.1 t.2.1 t.2.2
  | [], _, t, ht => by simp at ht
  | a :: l, h, t, ht => by
    rcases List.mem_cons.1 ht with rfl | ht
    · exact h.1
    · exact h.2.mem t ht
theorem OprOk.quiet {F : Nat → Prop} {w w' : World} {v : Value} {d : Nat} {f : Eff} (h : OprOk F w v d f) (hc : Chg w w' Nothing) : OprOk F w' v d f := by
  obtain ⟨kf, cap, K, h1, h2, h3, h4⟩ := h
  exact ⟨kf, cap, K, h1, fun b hb => ⟨Nat.lt_of_lt_of_le (h2 b hb).1 hc.size, (h2 b hb).2⟩, h3, fun F1 w1 m p base room s n hk => h4 F1 w1 m p base room s n (fun b hb => ⟨(hk b hb).1.trans (hc.block b (h2 b hb).1 id), (hk b hb).2⟩)⟩
theorem AllOk.quiet {F : Nat → Prop} {w w' : World} (hc : Chg w w' Nothing) : ∀ {l : List Opd}, AllOk F w l → AllOk F w' l
  | [], _ => trivial
  | a :: l, h => ⟨h.1.quiet hc, h.2.quiet hc⟩
def sumD (l : List Opd) : Nat := l.foldl (fun n t => n + t.2.1) 0
def effD (base room : Int) (l : List Opd) (s : Asm) : Asm := l.foldl (fun s t => t.2.2 base room s) s
theorem sumD_from (l : List Opd) : ∀ n, l.foldl (fun n t => n + t.2.1) n = n + sumD l := by
  unfold sumD
  induction l with
  | nil => intro n; rfl
  | cons a l ih => intro n; simp only [List.foldl_cons]; rw [ih, ih (0 + a.2.1)]; omega
theorem sumD_snoc (l : List Opd) (t : Opd) : sumD (l ++ [t]) = sumD l + t.2.1 := by unfold sumD; rw [List.foldl_append]; rfl
theorem sumD_append (a b : List Opd) : sumD (a ++ b) = sumD a + sumD b := by
  have h : sumD (a ++ b) = b.foldl (fun n t => n + t.2.1) (sumD a) := by unfold sumD; rw [List.foldl_append]
  rw [h, sumD_from]
theorem sumD_take (l : List Opd) (i : Nat) : sumD (l.take i) ≤ sumD l := by
  have h := sumD_append (l.take i) (l.drop i)
  rw [List.take_append_drop] at h
  omega
theorem effD_snoc (base room : Int) (l : List Opd) (t : Opd) (s : Asm) : effD base room (l ++ [t]) s = t.2.2 base room (effD base room l s) := by unfold effD; rw [List.foldl_append]; rfl

set_option maxRecDepth 100000 in
set_option maxHeartbeats 2000000 in
theorem trdo_any {F : Nat → Prop} {w : World} {m p : Nat} {base room : Int} {s : Asm} {n q : Nat} (fs : List Opd) (hm : Mk F w w m p base room s n) (hq : ∀ i t, fs[i]? = some t → w.cell? ⟨q, i, none⟩ = some t.1) (hqF : ¬ F q) (hops : AllOk F w fs) (hn : n + sumD fs < 240) (hlen : fs.length < 1000) :
    Calls Tryz.prog 71 #[.pointer (some ⟨m, 0, none⟩), .slice (some ⟨q, 0, none⟩) fs.length fs.length] w fun e w' => e = .returned (.tuple #[]) ∧ Mk F w w' m p base room (effD base room fs s) (n + sumD fs) := by
  have HQ := Lib.hid hq
  have HF := Lib.hid hqF
  have HO := Lib.hid hops
  have HN := Lib.hid hn
  have HL := Lib.hid hlen
  have H0 := Lib.hid hm
  clear hq hqF hops hn hlen hm
  go_enter Tryz.func71, Tryz.ntmps71
  go_wp2_with fail
  go_loopg [8] (fs.length) (fun k v wr => ∃ i : Nat, i + k = fs.length ∧ v = .int .i64 (i : Int) ∧ Mk F w wr m p base room (effD base room (fs.take i) s) (n + sumD (fs.take i)))
  case atStart => exact ⟨0, by simp, rfl, H0.out⟩
  case round =>
    obtain ⟨i, hk, rfl, hm⟩ := hrel
    have HK := Lib.hid hk
    have H1 := Lib.hid hm
    by_cases hlt : i < fs.length
    · obtain ⟨t, ht⟩ : ∃ t, fs[i]? = some t := ⟨_, List.getElem?_eq_getElem hlt⟩
      have hsum : sumD (fs.take (i + 1)) = sumD (fs.take i) + t.2.1 := by
        rw [List.take_add_one, ht]
        exact sumD_snoc _ _
      have heff : effD base room (fs.take (i + 1)) s = t.2.2 base room (effD base room (fs.take i) s) := by
        rw [List.take_add_one, ht]
        exact effD_snoc _ _ _ _ _
      have hle := sumD_take fs (i + 1)
      obtain ⟨kf, cap, K, hv, hK, hcf, hcall⟩ := HO.out.mem t (List.mem_of_getElem? ht)
      have cx := hm.old.cell (HQ.out i t ht) HF.out
      rw [hv] at cx
      obtain ⟨F1, hm1, hF1, hF2, hF3⟩ := hm.here
      have hcall := Lib.hid (hcall F1 wr m p base room _ _ (fun b hb => ⟨hm.old.block b (hK b hb).1 (hK b hb).2, fun h => by rcases hF3 b h with h | h; exact (hK b hb).2 h; exact absurd (hK b hb).1 (by omega)⟩) hm1 (by have := HN.out; omega))
      have UP := Lib.hid (fun (w' : World) (s' : Asm) (n' : Nat) (hx : Mk F1 wr w' m p base room s' n') => hx.up hF3 hm.old)
      have HS := Lib.hid hsum
      have HE := Lib.hid heff
      have q1 : decide (i < fs.length) = true := by simpa using hlt
      clear hm hk ht hsum heff hle hv hK hm1 hF1 hF2 hF3
      go_wp2_with fail
      refine hcall.out.mono ?_
      rintro e w2 ⟨rfl, h2⟩
      have H2 := Lib.hid (UP.out _ _ _ h2)
      clear h2 cx hcf
      go_wp2_with fail
      go_roundg (gk - 1)
      case measure => have := HK.out; omega
      case rel => exact ⟨i + 1, by have := HK.out; omega, by rw [IntWalk.wrap64_in _ ⟨by omega, by have := HL.out; omega⟩]; rfl, by
        rw [HE.out, HS.out, ← Nat.add_assoc]
        exact H2.out⟩
    · have q1 : decide (i < fs.length) = false := by simpa using hlt
      have he : i = fs.length := by omega
      clear hm hk
      go_wp2_with fail
      go_end0
      have h3 := H1.out
      rw [he, List.take_length] at h3
      exact ⟨rfl, h3⟩

/-- Blocks laid one behind the other. -/
def allocs (w : World) : List Obj → World
  | [] => w
  | o :: l => allocs (w.alloc o) l
theorem allocs_chg (w0 : World) : ∀ (l : List Obj) (w : World), Chg w0 w Nothing → Chg w0 (allocs w l) Nothing
  | [], w, h => h
  | o :: l, w, h => allocs_chg w0 l _ (h.alloc o)
theorem allocs_size : ∀ (l : List Obj) (w : World), (allocs w l).heap.size = w.heap.size + l.length
  | [], w => rfl
  | o :: l, w => by rw [allocs, allocs_size l]; simp; omega
theorem allocs_block : ∀ (l : List Obj) (w : World) (k : Nat) (o : Obj), l[k]? = some o → (allocs w l).heap[w.heap.size + k]? = some o
  | [], w, k, o, h => by simp at h
  | a :: l, w, 0, o, h => by
    obtain rfl : a = o := by simpa using h
    have := (allocs_chg (w.alloc a) l _ (Chg.refl _ _)).block w.heap.size (by simp) id
    exact this.trans (heap_alloc_new w a)
  | a :: l, w, k + 1, o, h => by
    have := allocs_block l (w.alloc a) k o (by simpa using h)
    have e : (w.alloc a).heap.size = w.heap.size + 1 := by simp
    rw [e] at this
    rw [show w.heap.size + (k + 1) = w.heap.size + 1 + k by omega]
    exact this

/-- Operations made just now, in a row, done one behind the other. -/
theorem trdo_lit {G : Nat → Prop} {w0 w : World} {m p : Nat} {base room : Int} {s : Asm} {n : Nat} (h : Mk G w0 w m p base room s n) (os : List Obj) (fs : List Opd) (hops : ∀ F : Nat → Prop, (∀ k, F k → k < w.heap.size) → AllOk F (allocs w os) fs) (hn : n + sumD fs < 240) (hlen : fs.length < 1000) :
    Calls Tryz.prog 71 #[.pointer (some ⟨m, 0, none⟩), .slice (some ⟨w.heap.size + os.length, 0, none⟩) fs.length fs.length] ((allocs w os).alloc (.cells (fs.map (·.1)).toArray 118)) fun e w' => e = .returned (.tuple #[]) ∧ Mk G w0 w' m p base room (effD base room fs s) (n + sumD fs) := by
  have hc : Chg w ((allocs w os).alloc (.cells (fs.map (·.1)).toArray 118)) Nothing := (allocs_chg w os w (Chg.refl _ _)).alloc _
  obtain ⟨F, hm, hF, hF3⟩ := h.laid hc
  have hb := heap_alloc_new (allocs w os) (.cells (fs.map (·.1)).toArray 118)
  rw [allocs_size] at hb
  refine (trdo_any fs hm (fun i t ht => ?_) (fun hk => by have := hF _ hk; omega) ((hops F hF).quiet ((Chg.refl _ _).alloc _)) hn hlen).mono ?_
  · rw [blk_cell hb]
    simp [ht]
  · rintro e w' ⟨rfl, hx⟩
    exact ⟨rfl, hx.up hF3 (h.old.trans hc (fun _ _ h => h.elim))⟩
end Go.Proofs.YtgeapkalabijmaaGreat
