/- touches, live, stir of layer 6's statements. -/
import Derived.Test.YtpigcmedkljonabLaw6A
import Derived.Deep.AppendLies
namespace Go.Proofs.Ytpigcmedkljonab
open Go Go.RowKit
set_option linter.unusedVariables false
set_option linter.unusedSimpArgs false

/-- Puts as cells and numbers. -/
def tchL (ps : List (Int × Int)) : List (Int × Nat) := ps.map fun p => (p.1, p.2.toNat)
/-- Their cells in a row. -/
def tchV (ts : List (Int × Nat)) : List Value := ts.flatMap fun t => [.int .i64 t.1, fl t.2]
theorem tchV_len (ts : List (Int × Nat)) : (tchV ts).length = ts.length * 2 := by
  induction ts with
  | nil => rfl
  | cons t ts ih => simp [tchV] at ih ⊢; omega
theorem tchV_snoc (ts : List (Int × Nat)) (t : Int × Nat) : tchV (ts ++ [t]) = tchV ts ++ [.int .i64 t.1, fl t.2] := by simp [tchV]
theorem tchV_at : ∀ (ts : List (Int × Nat)) (i : Nat) (x : Int × Nat), ts[i]? = some x → (tchV ts)[i * 2]? = some (.int .i64 x.1) ∧ (tchV ts)[i * 2 + 1]? = some (fl x.2)
  | [], i, x, h => by simp at h
  | t :: ts, 0, x, h => by simp at h; subst h; exact ⟨rfl, rfl⟩
  | t :: ts, i + 1, x, h => by
    have := tchV_at ts i x (by simpa using h)
    rw [show (i + 1) * 2 = i * 2 + 2 by omega]
    exact this
theorem Tch.of_owns {w : World} {base : Nat} {e : TypeId} {a : Option Addr} {c : Nat} {ts : List (Int × Nat)} (h : w.ownsRow base e 2 (.slice a ts.length c) ts.length (tchV ts)) : Tch w a ts ∧ ∀ b o, a = some ⟨b, o, none⟩ → base ≤ b ∧ b < w.heap.size := by
  refine ⟨fun i x hx => ?_, fun b o hb => h.lt b (by rw [hb]; rfl)⟩
  obtain ⟨e1, e2⟩ := tchV_at ts i x hx
  have hi := (List.getElem?_eq_some_iff.1 hx).1
  rcases Sees.of_owns h with h' | ⟨b, o, rfl, h'⟩
  · have := tchV_len ts; rw [h'] at this; simp at this; omega
  · exact ⟨b, o, rfl, h' _ _ e1, h' _ _ e2⟩

theorem own_more2 {w wr w2 : World} {E : TypeId} {n : Nat} {v v' : Value} {o : Obj} {ys news : List Value} {size : Nat} (hown2 : w2.ownsRow 0 E size v' (n + 1) (ys ++ news)) (hown : wr.ownsRow w.heap.size E size v n ys) (hchg : Chg w wr Nothing)
    (hg : ((wr.alloc o).drew).grownBy w2 v.ownBlock) (hgg : ∀ g, v'.ownBlock = some g → v.ownBlock = some g ∨ wr.heap.size + 1 ≤ g) :
    w2.ownsRow w.heap.size E size v' (n + 1) (ys ++ news) ∧ Chg w w2 Nothing := by
  refine ⟨?_, ((hchg.alloc o).drew).grown hg (fun k hk => .inl (hown.lt k hk).1)⟩
  refine ownsRow_rebase hown2 fun g hg' => ?_
  rcases hgg g hg' with h | h
  · exact (hown.lt g h).1
  · have := hchg.size; omega

theorem two_new (w : World) (u v : Value) (E : TypeId) : ∀ j x, [u, v][j]? = some x → (w.alloc (.cells #[u, v] E)).cell? ((⟨w.heap.size, 0, none⟩ : Addr).add j) = some x := by
  intro j x hj
  have hadd : (⟨w.heap.size, 0, none⟩ : Addr).add j = ⟨w.heap.size, j, none⟩ := by unfold Addr.add; split <;> simp_all
  rw [hadd, blk_cell (heap_alloc_new w _) j]
  simpa using hj
theorem two_newD (w : World) (u v : Value) (E : TypeId) : ∀ j x, [u, v][j]? = some x → (w.alloc (.cells #[u, v] E)).drew.cell? ((⟨w.heap.size, 0, none⟩ : Addr).add j) = some x := two_new w u v E
theorem two_one (y : Int) (x : Nat) : ∀ u ∈ [Value.int .i64 y, fl x], u.oneCell' = true := by intro u hu; simp at hu; rcases hu with rfl | rfl <;> rfl

theorem touches_any (a : Option Addr) (c : Nat) (ps : List (Int × Int)) (w : World) (hs : Pts w a ps) (hl : ps.length * 16 ≤ 140737488351232) :
    Calls Try.prog 37 #[.slice a ps.length c] w fun e w' => ∃ a' c', e = .returned (.slice a' ps.length c') ∧ w'.ownsRow w.heap.size 71 2 (.slice a' ps.length c') ps.length (tchV (tchL ps)) ∧ Chg w w' Nothing := by
  have HS := Lib.hid hs
  clear hs
  go_enter Try.func37, Try.ntmps37
  go_wp2
  go_loopg [3, 4] ps.length (fun k v i wr => ∃ n : Nat, n + k = ps.length ∧ i = .int .i64 n ∧ wr.ownsRow w.heap.size 71 2 v n (tchV (tchL (ps.take n))) ∧ Chg w wr Nothing)
  case atStart => exact ⟨0, by simp, rfl, World.ownsRow_nil _ _ _ _, Chg.refl _ _⟩
  case round =>
    obtain ⟨n, hn, rfl, hown, hchg⟩ := hrel
    by_cases hlt : n < ps.length
    · have hd : decide (n < ps.length) = true := by simpa using hlt
      obtain ⟨y, x, hx⟩ : ∃ y x, ps[n] = (y, x) := ⟨_, _, rfl⟩
      obtain ⟨b, o, rfl, cy, cx⟩ := HS.out n _ (List.getElem?_eq_getElem hlt)
      rw [hx] at cx cy
      have cx := hchg.cell cx id
      have cy := hchg.cell cy id
      have TK := Lib.hid (show tchV (tchL (ps.take n)) ++ [.int .i64 y, fl x.toNat] = tchV (tchL (ps.take (n + 1))) by rw [List.take_succ_eq_append_getElem hlt, hx]; simp [tchL, tchV])
      clear hx
      generalize tchV (tchL (ps.take n)) = zs at hown TK
      obtain ⟨⟨a3, c3, rfl⟩, _⟩ := ownsRow_shape hown
      have HCHG := Lib.hid hchg
      have HO := Lib.hid hown
      clear hchg hown
      go_wp2_with fail
      obtain ⟨i0, hi, hz0, hz1, hz2⟩ := info_parts (show (Try.prog.info? 71).map (fun i => (i.zero, i.size, i.bytes)) = some (some (.agg #[.int .i64 0, fl 0]), 2, 16) by kernel_rfl)
      go_region_law (first | (refine step_append_lies _ (by rfl) _ _ 66 rfl 0 71 i0 (.agg #[.int .i64 0, fl 0]) 2 16 Try.underlying66 hi hz0 hz1 hz2 rfl (by decide) (.slice a3 n c3) n zs rfl (ownsRow_base (HO.out.alloc _).drew (Nat.zero_le _)) ⟨wr.heap.size, 0, none⟩ 1 1 [.int .i64 y, fl x.toNat] rfl rfl (two_newD _ _ _ _) (two_one _ _) (by decide) (by unfold maxLen; omega) (by omega) (Nat.zero_le _) (wr.heap.size + 1) (by simp) ?_; intro g cap w2 hown2 hg2 hgg hlt2; have R := Lib.hid (own_more2 (n := n) hown2 HO.out HCHG.out hg2 (fun k hk => by simp [Value.ownBlock] at hk; subst hk; exact hgg.elim .inl (fun h => .inr (Nat.le_of_eq h.symm)))); clear hown2 hg2 hgg hlt2) | (go_simp; go_at_call 19; refine (raw_any _ _).mono ?_; rintro e w' ⟨rfl, rfl⟩))
      all_goals
        go_wp2
        go_roundg (gk - 1)
        case measure => omega
        case rel => exact ⟨n + 1, by omega, by go_num, TK.out ▸ R.out.1, R.out.2⟩
    · have hd : decide (n < ps.length) = false := by simpa using hlt
      obtain rfl : n = ps.length := by omega
      obtain ⟨⟨a', c', rfl⟩, _⟩ := ownsRow_shape hown
      have HO := Lib.hid (show wr.ownsRow w.heap.size 71 2 (.slice a' ps.length c') ps.length (tchV (tchL ps)) from by rwa [List.take_length] at hown)
      clear hown
      go_wp2
      go_ret
      exact ⟨_, _, rfl, HO.out, hchg⟩

end Go.Proofs.Ytpigcmedkljonab
