/- Small functions of layer 6's statements. -/
import Derived.Test.YtpigcmedkljonabT6
import Derived.Test.YtpigcmedkljonabR6
namespace Go.Proofs.Ytpigcmedkljonab
open Go Go.RowKit
set_option linter.unusedVariables false
set_option linter.unusedSimpArgs false

theorem raw_any (b : Int) (w : World) : Calls Try.prog 19 #[.int .u64 b] w fun e w' => e = .returned (fl b.toNat) ∧ w' = w := by
  go_enter Try.func19, Try.ntmps19
  go_wp2
  go_ret
  exact ⟨rfl, rfl⟩

theorem exact_true (a1 a2 : Option Addr) (c1 c2 : Nat) (fs : List Nat) (w : World) (h1 : Sees w a1 (fs.map fl)) (h2 : Sees w a2 (fs.map fl)) (hl : fs.length ≤ 140737488355328) :
    Calls Try.prog 14 #[.slice a1 fs.length c1, .slice a2 fs.length c2] w fun e w' => e = .returned (.bool true) ∧ ∃ m, w' = w.drewN m := by
  have H1 := Lib.hid h1
  have H2 := Lib.hid h2
  clear h1 h2
  have hb : ((fs.length : Int) != (fs.length : Int)) = false := by simp
  go_enter Try.func14, Try.ntmps14
  go_wp2
  go_loopg [5] fs.length (fun k i wr => ∃ n : Nat, n + k = fs.length ∧ i = .int .i64 n ∧ ∃ m, wr = w.drewN m)
  case atStart => exact ⟨0, by simp, rfl, 0, rfl⟩
  case round =>
    obtain ⟨n, hn, rfl, m, rfl⟩ := hrel
    by_cases hlt : n < fs.length
    · have hd : decide (n < fs.length) = true := by simpa using hlt
      rcases H1.out with h | ⟨b1, o1, rfl, g1⟩
      · simp at h; subst h; simp at hlt
      rcases H2.out with h | ⟨b2, o2, rfl, g2⟩
      · simp at h; subst h; simp at hlt
      have k1 := g1 n (fl fs[n]) (by simp [hlt])
      have k2 := g2 n (fl fs[n]) (by simp [hlt])
      clear g1 g2
      generalize fs[n] = x at k1 k2
      have hq : ((x : Int) != (x : Int)) = false := by simp
      go_wp2
      go_quiet (fail)
      go_wp2
      go_roundg (gk - 1)
      case measure => omega
      case rel => exact ⟨n + 1, by omega, by go_num, _, rfl⟩
    · have hd : decide (n < fs.length) = false := by simpa using hlt
      go_wp2
      go_ret
      exact ⟨rfl, _, rfl⟩

/-- The numbers of bits. -/
def rawL (zs : List Int) : List Nat := zs.map Int.toNat

theorem floats_any (a : Option Addr) (c : Nat) (zs : List Int) (w : World) (hs : Sees w a (zs.map (Value.int .u64))) (hl : zs.length * 8 ≤ 140737488351232) :
    Calls Try.prog 11 #[.slice a zs.length c] w fun e w' => ∃ a' c', e = .returned (.slice a' zs.length c') ∧ w'.ownsRow w.heap.size 36 1 (.slice a' zs.length c') zs.length ((rawL zs).map fl) ∧ Chg w w' Nothing := by
  have HS := Lib.hid hs
  clear hs
  go_enter Try.func11, Try.ntmps11
  go_wp2
  go_loopg [3, 4] zs.length (fun k v i wr => ∃ n : Nat, n + k = zs.length ∧ i = .int .i64 n ∧ wr.ownsRow w.heap.size 36 1 v n (((rawL zs).map fl).take n) ∧ Chg w wr Nothing)
  case atStart => exact ⟨0, by simp, rfl, World.ownsRow_nil _ _ _ _, Chg.refl _ _⟩
  case round =>
    obtain ⟨n, hn, rfl, hown, hchg⟩ := hrel
    by_cases hlt : n < zs.length
    · have hd : decide (n < zs.length) = true := by simpa using hlt
      rcases HS.out with h | ⟨b, o, rfl, g⟩
      · simp at h; subst h; simp at hlt
      have cx := hchg.cell (g n (.int .u64 zs[n]) (by simp [hlt])) id
      have TK := Lib.hid (show ((rawL zs).map fl).take n ++ [fl zs[n].toNat] = ((rawL zs).map fl).take (n + 1) by rw [List.take_succ_eq_append_getElem (by simpa [rawL] using hlt)]; simp [rawL])
      clear g
      have HCHG := Lib.hid hchg
      have HO := Lib.hid hown
      clear hchg hown
      generalize zs[n] = x at cx TK
      go_wp2_with fail
      refine (raw_any _ _).mono ?_
      rintro e w' ⟨rfl, rfl⟩
      go_wp2_with (at_builtin; refine append_one rfl _ _ 29 36 rfl (fl 0) 1 8 Try.underlying29 (by kernel_rfl) rfl (by decide) _ n _ rfl (ownsRow_base (HO.out.alloc _) (Nat.zero_le _)) w'.heap.size 1 rfl [fl x.toNat] rfl ?c1 ?c2 ?c3 ?c4 ?c5)
      case c1 => intro j u hj; match j, hj with | 0, hj => simp at hj; subst hj; exact blk_cell (heap_alloc_new w' _) 0
      case c2 => first | rfl | (intro u hu; simp at hu; subst hu; rfl)
      case c3 => unfold maxLen; omega
      case c4 => omega
      case c5 =>
        intro g' cap w2 hown2 hg2 hgg
        have R := Lib.hid (own_more (n := n) (xs := (rawL zs).map fl) (w := w) hown2 TK.out HO.out HCHG.out hg2 (fun k hk => by simp [Value.ownBlock] at hk; subst hk; exact hgg))
        clear hown2 hg2 hgg cx
        go_wp2
        go_roundg (gk - 1)
        case measure => omega
        case rel => exact ⟨n + 1, by omega, by go_num, R.out⟩
    · have hd : decide (n < zs.length) = false := by simpa using hlt
      obtain rfl : n = zs.length := by omega
      obtain ⟨⟨a', c', rfl⟩, _⟩ := ownsRow_shape hown
      have HO := Lib.hid (show wr.ownsRow w.heap.size 36 1 (.slice a' zs.length c') zs.length ((rawL zs).map fl) from by rwa [List.take_of_length_le (by simp [rawL])] at hown)
      clear hown
      go_wp2
      go_ret
      exact ⟨_, _, rfl, HO.out, hchg⟩

/-- Puts in memory. -/
def Pts (w : World) (a : Option Addr) (ps : List (Int × Int)) : Prop := ∀ i x, ps[i]? = some x → ∃ b o, a = some ⟨b, o, none⟩ ∧ w.cell? ⟨b, o + i * 2, none⟩ = some (.int .i64 x.1) ∧ w.cell? ⟨b, o + i * 2 + 1, none⟩ = some (.int .u64 x.2)
theorem Pts.chg {w w' : World} {a : Option Addr} {ps : List (Int × Int)} (h : Pts w a ps) (hc : Chg w w' Nothing) : Pts w' a ps := by
  intro i x hx
  obtain ⟨b, o, ha, h1, h2⟩ := h i x hx
  exact ⟨b, o, ha, hc.cell h1 id, hc.cell h2 id⟩

theorem numbers_any (a : Option Addr) (c : Nat) (ps : List (Int × Int)) (w : World) (hs : Pts w a ps) (hl : ps.length * 8 ≤ 140737488351232) :
    Calls Try.prog 39 #[.slice a ps.length c] w fun e w' => ∃ a' c', e = .returned (.slice a' ps.length c') ∧ w'.ownsRow w.heap.size 36 1 (.slice a' ps.length c') ps.length ((rawL (ps.map (·.2))).map fl) ∧ Chg w w' Nothing := by
  have HS := Lib.hid hs
  clear hs
  go_enter Try.func39, Try.ntmps39
  go_wp2
  go_loopg [3, 4] ps.length (fun k v i wr => ∃ n : Nat, n + k = ps.length ∧ i = .int .i64 n ∧ wr.ownsRow w.heap.size 36 1 v n (((rawL (ps.map (·.2))).map fl).take n) ∧ Chg w wr Nothing)
  case atStart => exact ⟨0, by simp, rfl, World.ownsRow_nil _ _ _ _, Chg.refl _ _⟩
  case round =>
    obtain ⟨n, hn, rfl, hown, hchg⟩ := hrel
    by_cases hlt : n < ps.length
    · have hd : decide (n < ps.length) = true := by simpa using hlt
      obtain ⟨y, x, hx⟩ : ∃ y x, ps[n] = (y, x) := ⟨_, _, rfl⟩
      obtain ⟨b, o, rfl, _, cx⟩ := HS.out n _ (List.getElem?_eq_getElem hlt)
      rw [hx] at cx
      have cx := hchg.cell cx id
      have TK := Lib.hid (show ((rawL (ps.map (·.2))).map fl).take n ++ [fl x.toNat] = ((rawL (ps.map (·.2))).map fl).take (n + 1) by rw [List.take_succ_eq_append_getElem (by simpa [rawL] using hlt)]; simp [rawL, hx])
      clear hx
      have HCHG := Lib.hid hchg
      have HO := Lib.hid hown
      clear hchg hown
      go_wp2_with fail
      refine (raw_any _ _).mono ?_
      rintro e w' ⟨rfl, rfl⟩
      go_wp2_with (at_builtin; refine append_one rfl _ _ 29 36 rfl (fl 0) 1 8 Try.underlying29 (by kernel_rfl) rfl (by decide) _ n _ rfl (ownsRow_base (HO.out.alloc _) (Nat.zero_le _)) w'.heap.size 1 rfl [fl x.toNat] rfl ?c1 ?c2 ?c3 ?c4 ?c5)
      case c1 => intro j u hj; match j, hj with | 0, hj => simp at hj; subst hj; exact blk_cell (heap_alloc_new w' _) 0
      case c2 => first | rfl | (intro u hu; simp at hu; subst hu; rfl)
      case c3 => unfold maxLen; omega
      case c4 => omega
      case c5 =>
        intro g' cap w2 hown2 hg2 hgg
        have R := Lib.hid (own_more (n := n) (xs := (rawL (ps.map (·.2))).map fl) (w := w) hown2 TK.out HO.out HCHG.out hg2 (fun k hk => by simp [Value.ownBlock] at hk; subst hk; exact hgg))
        clear hown2 hg2 hgg cx
        go_wp2
        go_roundg (gk - 1)
        case measure => omega
        case rel => exact ⟨n + 1, by omega, by go_num, R.out⟩
    · have hd : decide (n < ps.length) = false := by simpa using hlt
      obtain rfl : n = ps.length := by omega
      obtain ⟨⟨a', c', rfl⟩, _⟩ := ownsRow_shape hown
      have HO := Lib.hid (show wr.ownsRow w.heap.size 36 1 (.slice a' ps.length c') ps.length ((rawL (ps.map (·.2))).map fl) from by rwa [List.take_of_length_le (by simp [rawL])] at hown)
      clear hown
      go_wp2
      go_ret
      exact ⟨_, _, rfl, HO.out, hchg⟩

end Go.Proofs.Ytpigcmedkljonab
