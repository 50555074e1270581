/- The code's buffer: All and Clone. -/
import Derived.Test.YtpigcmedkljonacB7
namespace Go.Proofs.Ytpigcmedkljonac
open Go Go.RowKit
set_option linter.unusedVariables false
set_option linter.unusedSimpArgs false

/-- Cells and numbers in a row. -/
def tchV (ts : List (Int × Nat)) : List Value := ts.flatMap fun t => [.int .i64 t.1, fl t.2]
theorem tchV_len (ts : List (Int × Nat)) : (tchV ts).length = ts.length * 2 := by
  induction ts with
  | nil => rfl
  | cons t ts ih => simp [tchV] at ih ⊢; omega
theorem tchV_snoc (ts : List (Int × Nat)) (t : Int × Nat) : tchV (ts ++ [t]) = tchV ts ++ [.int .i64 t.1, fl t.2] := by simp [tchV]
theorem tchV_at : ∀ (ts : List (Int × Nat)) (i : Nat) (x : Int × Nat), ts[i]? = some x → (tchV ts)[i * 2]? = some (.int .i64 x.1) ∧ (tchV ts)[i * 2 + 1]? = some (fl x.2)
  | [], i, x, h => by simp at h
  | t :: ts, 0, x, h => by simp at h; subst h; exact ⟨rfl, rfl⟩
  | t :: ts, i + 1, x, h => by
    have := tchV_at ts i x (by simpa using h)
    rw [show (i + 1) * 2 = i * 2 + 2 by omega]
    exact this

/-- 'make([]T, n)', whatever T's size. -/
theorem make_rows {P : Program} {w : World} {ops : Array Oper} {rest : List Oper} {o : Oper} {a : Act} {Q : Exit → Act → World → Prop} (hg : o.guard = none) (l c : Operand) (t e : TypeId) (hop : o.op = Op.makeSlice t l c)
    (z : Value) (size bytes : Nat) (ht : P.underlying t = some (.slice e)) (hinf : (P.info? e).map (fun i => (i.zero, i.size, i.bytes)) = some (some z, size, bytes)) 
    (kl kc : IntKind) (L C : Int) (n : Nat) (hl : a.eval l = .int kl L) (hc : a.eval c = .int kc C) (hL : L = (n : Int)) (hC : C = (n : Int)) (b2 : bytes * n ≤ 281474976710656) (b3 : n ≤ maxLen)
    (hK : ∀ w' xs, w'.ownsRow w.heap.size e size (.slice (some ⟨w.heap.size, 0, none⟩) n n) n xs → w.grownBy w' none → wpList P ops Q rest (a.put o.dst (.slice (some ⟨w.heap.size, 0, none⟩) n n)) w') : wpList P ops Q (o :: rest) a w := by
  obtain ⟨i, hi, hz0, hsize, hby⟩ := info_parts hinf
  exact wpList_make_full w hg l c t hop w.heap.size e i z size ht hi hz0 hsize kl kc L C n hl hc hL hC (by rw [hby]; exact b2) b3 (Nat.le_refl _) fun w' h1 h2 => hK w' _ h1 h2

/-- The first n pairs of a row are these. -/
def Filled (w wr : World) (g : Nat) (l : List (Int × Nat)) (n : Nat) : Prop :=
  ∃ xs, wr.ownsRow w.heap.size 39 2 (.slice (some ⟨g, 0, none⟩) l.length l.length) l.length xs ∧ (∀ j, j < n * 2 → xs[j]? = (tchV l)[j]?) ∧ Chg w wr Nothing
theorem Filled.store {w wr : World} {g n : Nat} {l : List (Int × Nat)} {c : Int} {y : Nat} (h : Filled w wr g l n) (hy : l[n]? = some (c, y)) :
    wr.frozen? ⟨g, n * 2, none⟩ = false ∧ wr.frozen? ⟨g, n * 2 + 1, none⟩ = false ∧ (∃ u, wr.cell? ⟨g, n * 2, none⟩ = some u) ∧ (∃ u, wr.cell? ⟨g, n * 2 + 1, none⟩ = some u) ∧ Filled w ((wr.setCell ⟨g, n * 2, none⟩ (.int .i64 c)).setCell ⟨g, n * 2 + 1, none⟩ (fl y)) g l (n + 1) := by
  obtain ⟨xs, h1, h2, h3⟩ := h
  have hlt := (List.getElem?_eq_some_iff.1 hy).1
  have hl : xs.length = l.length * 2 := h1.1
  obtain ⟨t1, t2⟩ := tchV_at l n _ hy
  have s1 := h1.stored (n * 2) (.int .i64 c)
  have s2 := s1.1.stored (n * 2 + 1) (fl y)
  have hgw : w.heap.size ≤ g := (h1.lt g rfl).1
  refine ⟨h1.frozenAt _, h1.frozenAt _, ⟨xs[n * 2]'(by omega), by rw [h1.cellAt _ (by omega)]; simp⟩, ⟨xs[n * 2 + 1]'(by omega), by rw [h1.cellAt _ (by omega)]; simp⟩, _, s2.1, ?_, (h3.grown s1.2 (fun k hk => by cases hk; exact .inl hgw)).grown s2.2 (fun k hk => by cases hk; exact .inl hgw)⟩
  intro j hj
  by_cases e2 : j = n * 2 + 1
  · subst e2
    rw [List.getElem?_set_self (by simp; omega), t2]
  · rw [List.getElem?_set_ne (fun e => e2 e.symm)]
    by_cases e1 : j = n * 2
    · subst e1
      rw [List.getElem?_set_self (by omega), t1]
    · rw [List.getElem?_set_ne (fun e => e1 e.symm)]
      exact h2 j (by omega)
theorem Filled.all {w wr : World} {g : Nat} {l : List (Int × Nat)} (h : Filled w wr g l l.length) : wr.ownsRow w.heap.size 39 2 (.slice (some ⟨g, 0, none⟩) l.length l.length) l.length (tchV l) ∧ Chg w wr Nothing := by
  obtain ⟨xs, h1, h2, h3⟩ := h
  have hl : xs.length = l.length * 2 := h1.1
  have : xs = tchV l := by
    refine List.ext_getElem? fun j => ?_
    by_cases hj : j < l.length * 2
    · exact h2 j hj
    · rw [List.getElem?_eq_none (by omega), List.getElem?_eq_none (by rw [tchV_len]; omega)]
  rw [← this]
  exact ⟨h1, h3⟩

theorem all_any (p : Nat) (F : Nat → Prop) (l : List (Int × Nat)) (most : Int) (w : World) (h : Bf w p F l most) :
    Calls Try.prog 10 #[.pointer (some ⟨p, 0, none⟩)] w fun e w' => ∃ a c, e = .returned (.slice a l.length c) ∧ w'.ownsRow w.heap.size 39 2 (.slice a l.length c) l.length (tchV l) ∧ Chg w w' Nothing := by
  obtain ⟨b, a, cc, c0, c1, c2, hm, hown⟩ := h.cells
  have hfit := h.fits
  have HFIT := Lib.hid hfit
  have hl : l.length ≤ 32 := by omega
  have HL := Lib.hid hl
  have HM := Lib.hid hm
  have HO := Lib.hid (Sees.of_owns hown)
  clear h hm hown hfit hl
  go_enter Try.func10, Try.ntmps10
  go_wp2_with (at_make; refine make_rows rfl _ _ 32 39 rfl (.agg #[.int .i64 0, fl 0]) 2 16 Try.underlying32 (by kernel_rfl) .i64 .i64 _ _ l.length rfl rfl rfl rfl (by have := HL.out; omega) (by have := HL.out; unfold maxLen; omega) ?c1)
  case c1 =>
    intro w1 xs hown1 hg1
    have hc1 : Chg w w1 Nothing := (Chg.refl _ _).grown hg1 (fun k hk => by cases hk)
    have d0 := hc1.cell c0 id
    have d1 := hc1.cell c1 id
    have d2 := hc1.cell c2 id
    have F1 := Lib.hid (show Filled w w1 w.heap.size l 0 from ⟨xs, hown1, fun j hj => by omega, hc1⟩)
    have C0 := Lib.hid c0
    clear hown1 hg1 hc1
    go_wp2_with fail
    go_loopg [17] l.length (fun k i wr => ∃ n : Nat, n + k = l.length ∧ i = .int .i64 n ∧ Filled w wr w.heap.size l n)
    case atStart => exact ⟨0, by simp, rfl, F1.out⟩
    case round =>
      clear d0 d1 d2 F1
      obtain ⟨n, hn, rfl, hfil⟩ := hrel
      by_cases hlt : n < l.length
      · have hd : decide (n < l.length) = true := by simpa using hlt
        obtain ⟨c, y, hy⟩ : ∃ c y, l[n]? = some (c, y) := ⟨_, _, List.getElem?_eq_getElem hlt⟩
        have hc : Chg w wr Nothing := by obtain ⟨xs, _, _, h⟩ := hfil; exact h
        obtain ⟨f1, f2, ⟨u1, u1c⟩, ⟨u2, u2c⟩, R⟩ := hfil.store hy
        have R := Lib.hid R
        rcases HO.out with h | ⟨bo, oo, rfl, g⟩
        · simp [cells1] at h; subst h; simp at hlt
        have cx := hc.cell (g n (.int .i64 c) (by simp [cells1, hy])) id
        have e0 := hc.cell c0 id
        have hkn : Kn l c n := Kn.of_nodup (t := (c, y)) HFIT.out.1 hy
        have hlook := (HM.out.frame (hc.block b HM.out.lt id)).look_kn (P := Try.prog) Try.underlying51 Try.underlying3 hkn.fls false (fls_at hy)
        clear hfil hc g hkn hy c0 c1 c2
        have hb32 := HL.out
        go_wp2_with fail
        go_roundg (gk - 1)
        case measure => omega
        case rel => exact ⟨n + 1, by omega, by go_num, R.out⟩
      · have hd : decide (n < l.length) = false := by simpa using hlt
        obtain rfl : n = l.length := by have : n ≤ l.length := by omega
                                        omega
        have R := Lib.hid hfil.all
        clear hfil
        go_wp2
        go_ret
        exact ⟨_, _, rfl, R.out⟩

theorem mclone_any (b : Nat) (l : List (Int × Value)) (w : World) (h : MapI w b l) : Calls Try.prog 27 #[.map (some b)] w fun e w' => e = .returned (.map (some w.heap.size)) ∧ MapI w' w.heap.size l ∧ w'.heap.size = w.heap.size + 1 ∧ Chg w w' Nothing := by
  obtain ⟨w1, hcl, h1, h2, h3⟩ := h.cloned (P := Try.prog) (T := 51)
  have hq := run_map_nil (P := Try.prog) (w := w) (some b) Try.underlying51
  have hext : (callFunc 32 #[.iface 51 (.map (some b))]).run Try.prog w = .ok (.value (.iface 51 (.map (some w.heap.size)))) w1 := by
    rw [run_callFunc_extern (e := Extern.MapsClone.clone) Try.func32 (by kernel_rfl) (by kernel_rfl) (by kernel_rfl) (by kernel_rfl), hcl]
    rfl
  have has := run_map_assert (P := Try.prog) (w := w1) 20 (.map (some w.heap.size)) Try.underlying51
  have R := Lib.hid (And.intro h1 (And.intro h2 h3))
  clear h hcl h1 h2 h3
  go_enter Try.func27, Try.ntmps27
  go_wp2
  go_ret
  exact ⟨rfl, R.out⟩

/-- slices.Clone: a row of its own. -/
theorem clone_nil (n c : Nat) (w : World) : Calls Try.prog 28 #[.slice none n c] w fun e w' => e = .returned (.slice none 0 0) ∧ w = w' := by
  have es := fun w a n c => Lib.run_eql_slice_nil (P := Try.prog) w 52 3 a n c 0 0 Try.underlying52
  go_enter Try.func28, Try.ntmps28
  go_wp2
  go_ret
  exact ⟨rfl, rfl⟩

theorem clone_some (ad : Addr) (c : Nat) (xs : List Value) (w : World) (hc : ∀ j u, xs[j]? = some u → w.cell? (ad.add j) = some u) (h1 : ∀ u ∈ xs, u.oneCell' = true) (hl : xs.length * 8 ≤ 140737488355328) :
    Calls Try.prog 28 #[.slice (some ad) xs.length c] w fun e w' => ∃ a c, e = .returned (.slice a xs.length c) ∧ w'.ownsRow w.heap.size 3 1 (.slice a xs.length c) xs.length xs ∧ Chg w w' Nothing := by
  have es := fun w a n c => Lib.run_eql_slice_nil (P := Try.prog) w 52 3 a n c 0 0 Try.underlying52
  have HC := Lib.hid hc
  have HL := Lib.hid hl
  clear hc hl
  go_enter Try.func28, Try.ntmps28
  go_wp2_with (at_builtin; refine append_any rfl _ _ 52 3 rfl (.int .i64 0) 1 8 Try.underlying52 (by kernel_rfl) rfl (by decide) _ 0 [] rfl (World.ownsRow_made w #[] 0 (Nat.zero_le _) (Nat.zero_le _) rfl) ad xs.length c rfl xs (Nat.mul_one _).symm ?c1 h1 ?c3 ?c4 ?c5)
  case c1 => exact fun j u hu => cell_alloc (HC.out j u hu) _
  case c3 => have := HL.out; unfold maxLen; omega
  case c4 => have := HL.out; omega
  case c5 =>
    intro v w2 hown2 hg2 hgg
    obtain ⟨a', c', rfl⟩ := (ownsRow_shape hown2).1
    (try simp only [Nat.zero_add, List.nil_append] at hown2)
    have R := Lib.hid (show w2.ownsRow w.heap.size 3 1 (.slice a' xs.length c') xs.length xs ∧ Chg w w2 Nothing from
      ⟨ownsRow_rebase hown2 (fun g hg => by rcases hgg g hg with h | h; simp [Value.ownBlock] at h; omega; omega), ((Chg.refl w Nothing).alloc _).grown hg2 (by intro k hk; simp [Value.ownBlock] at hk; left; omega)⟩)
    clear hown2 hg2 hgg es
    go_wp2
    go_ret
    exact ⟨_, _, rfl, R.out⟩

theorem sclone_any (a : Option Addr) (c : Nat) (xs : List Value) (w : World) (h : w.ownsRow 0 3 1 (.slice a xs.length c) xs.length xs) (hl : xs.length ≤ 32) (h1 : ∀ u ∈ xs, u.oneCell' = true) :
    Calls Try.prog 28 #[.slice a xs.length c] w fun e w' => ∃ a' c', e = .returned (.slice a' xs.length c') ∧ w'.ownsRow w.heap.size 3 1 (.slice a' xs.length c') xs.length xs ∧ Chg w w' Nothing := by
  cases a with
  | none =>
    obtain rfl : xs = [] := by
      rcases h.2 with ⟨hv, h0⟩ | ⟨g, cap, cur, hv, _⟩
      · exact List.eq_nil_of_length_eq_zero h0
      · simp at hv
    refine (clone_nil _ _ w).mono ?_
    rintro e w' ⟨rfl, rfl⟩
    exact ⟨none, 0, rfl, World.ownsRow_nil _ _ _ _, Chg.refl _ _⟩
  | some ad =>
    have hc : ∀ j u, xs[j]? = some u → w.cell? (ad.add j) = some u := by
      rcases h.2 with ⟨hv, h0⟩ | ⟨g, cap, cur, hv, _⟩
      · simp at hv
      · injection hv with hv; cases hv; exact h.cells (g := g) rfl
    exact clone_some ad c xs w hc h1 (by omega)

theorem cells1_one (l : List (Int × Nat)) : ∀ u ∈ cells1 l, u.oneCell' = true := by
  intro u hu; obtain ⟨z, _, rfl⟩ := List.mem_map.1 hu; rfl
theorem cells1_len (l : List (Int × Nat)) : (cells1 l).length = l.length := by simp [cells1]

theorem Bf.copied {w w2 w3 : World} {l : List (Int × Nat)} {most : Int} {b : Nat} {a : Option Addr} {c : Nat} (hf : (l.map (·.1)).Nodup ∧ (l.length : Int) ≤ most ∧ most ≤ 32) (hm : MapI w2 b (fls l)) (hb : w.heap.size ≤ b) (c2 : Chg w w2 Nothing)
    (hown : w3.ownsRow w2.heap.size 3 1 (.slice a l.length c) l.length (cells1 l)) (c3 : Chg w2 w3 Nothing) :
    w.heap.size ≤ w3.heap.size ∧ Bf (w3.alloc (.cells #[.map (some b), .slice a l.length c, .int .i64 most] 54)) w3.heap.size (Grow Nothing w (w3.alloc (.cells #[.map (some b), .slice a l.length c, .int .i64 most] 54))) l most ∧
      Chg w (w3.alloc (.cells #[.map (some b), .slice a l.length c, .int .i64 most] 54)) Nothing := by
  have h2 := c2.size
  have h3 := c3.size
  have hbl := hm.lt
  refine ⟨by omega, ⟨b, a, c, heap_alloc_new w3 _, (hm.frame (c3.block b hbl id)).frame ?_, ownsRow_base (hown.alloc _) (Nat.zero_le _), .inr ⟨by omega, by simp⟩, .inr ⟨hb, by simp; omega⟩, by omega, ?_, ?_, hf⟩, (c2.trans c3 (fun _ _ h => h)).alloc _⟩
  · have : b < w3.heap.size := by omega
    obtain ⟨o, ho⟩ : ∃ o, w3.heap[b]? = some o := ⟨_, Array.getElem?_eq_getElem this⟩
    rw [ho]; exact blk_alloc ho _
  · intro k hk
    have := hown.lt k hk
    exact ⟨.inr ⟨by omega, by simp; omega⟩, by omega, by omega⟩
  · intro k hk
    rcases hk with hk | hk
    · exact hk.elim
    · exact hk.2

set_option maxHeartbeats 3000000 in
theorem clone_any (p : Nat) (F : Nat → Prop) (l : List (Int × Nat)) (most : Int) (w : World) (h : Bf w p F l most) :
    Calls Try.prog 19 #[.pointer (some ⟨p, 0, none⟩)] w fun e w' => ∃ q, e = .returned (.pointer (some ⟨q, 0, none⟩)) ∧ w.heap.size ≤ q ∧ Bf w' q (Grow Nothing w w') l most ∧ Chg w w' Nothing := by
  obtain ⟨b, a, cc, c0, c1, c2, hm, hown⟩ := h.cells
  have HFIT := Lib.hid h.fits
  have HM := Lib.hid (show MapI w.drew b (fls l) from hm.frame rfl)
  have HO := Lib.hid hown
  have SC := Lib.hid (fun w h hl => sclone_any a cc (cells1 l) w h hl (cells1_one l))
  rw [cells1_len] at SC
  clear h hm hown
  go_enter Try.func19, Try.ntmps19
  go_wp2_with fail
  go_region_law (first | (go_simp; go_at_call 27; refine (mclone_any _ _ _ HM.out).mono ?_; rintro e w2 ⟨rfl, m2, z2, k2⟩; have d1 := k2.cell (a := ⟨p, 1, none⟩) c1 id; have d2 := k2.cell (a := ⟨p, 2, none⟩) c2 id; have K2 := Lib.hid k2; have M2 := Lib.hid m2; have Z2 := Lib.hid z2; clear k2 m2 z2) | (go_simp; go_at_call 28; refine (SC.out _ (ownsRow_heap HO.out (fun k hk => K2.out.block k (HO.out.lt k hk).2 id)) (by have := HFIT.out; omega)).mono ?_; rintro e w3 ⟨a3, k3, rfl, o3, q3⟩; have f2 := q3.cell (a := ⟨p, 2, none⟩) d2 id; have Q3 := Lib.hid q3; have O3 := Lib.hid o3; clear q3 o3))
  all_goals
    have R := Lib.hid (Bf.copied (w := w) HFIT.out M2.out (Nat.le_refl _) (⟨K2.out.os, K2.out.tape, K2.out.output, K2.out.size, K2.out.block⟩ : Chg w w2 Nothing) O3.out Q3.out)
    clear d1 d2 f2 c0 c1 c2
    go_wp2_with fail
    go_ret
    exact ⟨_, rfl, R.out⟩

end Go.Proofs.Ytpigcmedkljonac