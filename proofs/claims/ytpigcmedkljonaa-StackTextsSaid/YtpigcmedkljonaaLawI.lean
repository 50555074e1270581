/- StackTexts: the walk. -/
import Derived.Test.YtpigcmedkljonaaLawB
import Derived.Test.YtpigcmedkljonaaLawC
import Derived.Test.YtpigcmedkljonaaLawH
namespace Go.Proofs.Ytpigcmedkljonaa
open Go Go.RowKit
set_option linter.unusedVariables false
set_option linter.unusedSimpArgs false

theorem nm_more {ns : List ByteArray} {s : ByteArray} {z : Int} (h0 : 0 ≤ z) (h1 : z < ns.length) : nm (ns ++ [s]) z = nm ns z := by
  unfold nm
  rw [List.getD_eq_getElem?_getD, List.getD_eq_getElem?_getD, List.getElem?_append]
  by_cases h : z.toNat < ns.length
  · rw [if_pos h]
  · omega
theorem nm_last (ns : List ByteArray) (s : ByteArray) : s = nm (ns ++ [s]) (((ns ++ [s]).length : Int) - 1) := by
  unfold nm
  have : (((ns ++ [s]).length : Int) - 1).toNat = ns.length := by simp
  rw [this]
  simp

theorem TwoT.more {w : World} {p r : Nat} {F G : Nat → Prop} {zs : List Int} {ns : List ByteArray} {room : Int} (h : TwoT w p r F G zs ns room) (s : ByteArray) : TwoT w p r F G zs (ns ++ [s]) room := by
  refine ⟨?_, h.r, h.d, fun z hz => ?_, ?_, by simp⟩
  · have : zs.map (nm (ns ++ [s])) = zs.map (nm ns) := List.map_congr_left fun z hz => nm_more (h.v z hz).1 (h.v z hz).2
    rw [this]; exact h.s
  · have := h.v z hz; simp; omega
  · rw [nm_more (by omega) (by have := h.n1; omega)]; exact h.n0

/-- What holds at the head of each round. -/
def InvT (w wr : World) (p r : Nat) (a : Option Addr) (c : Nat) (ns : List ByteArray) (room : Int) : Prop :=
  ∃ F G zs, TwoT wr p r F G zs ns room ∧ (∀ k, F k → w.heap.size ≤ k) ∧ (∀ k, G k → w.heap.size ≤ k) ∧ wr.ownsRow w.heap.size 9 1 (.slice a ns.length c) ns.length (ns.map Value.string) ∧
    (∀ b o, a = some ⟨b, o, none⟩ → ¬ F b ∧ ¬ G b) ∧ Chg w wr Nothing

theorem blk_of_row {w : World} {base : Nat} {e : TypeId} {size : Nat} {a : Option Addr} {n c : Nat} {xs : List Value} (h : w.ownsRow base e size (.slice a n c) n xs) {k : Nat} (hk : (Value.slice a n c).ownBlock = some k) : a = some ⟨k, 0, none⟩ := by
  rcases h.2 with ⟨hv, _⟩ | ⟨g, cap, cur, hv, _⟩
  · injection hv with hv; subst hv; simp [Value.ownBlock] at hk
  · injection hv with hv; subst hv; simp [Value.ownBlock] at hk; rw [hk]

theorem ownsRow_frame {w w' : World} {base : Nat} {e : TypeId} {size : Nat} {v : Value} {n : Nat} {xs : List Value} (h : w.ownsRow base e size v n xs) (hb : ∀ k, v.ownBlock = some k → w'.heap[k]? = w.heap[k]?) : w'.ownsRow base e size v n xs := by
  refine ⟨h.1, ?_⟩
  rcases h.2 with h | ⟨g, cap, cur, rfl, hg, hh, hr⟩
  · exact .inl h
  · exact .inr ⟨g, cap, cur, rfl, hg, (hb g rfl).trans hh, hr⟩

theorem InvT.after {w wr w' : World} {p r : Nat} {F G : Nat → Prop} {zs : List Int} {ns : List ByteArray} {a : Option Addr} {c : Nat} {room : Int} (hF : ∀ k, F k → w.heap.size ≤ k) (hG : ∀ k, G k → w.heap.size ≤ k)
    (ho : wr.ownsRow w.heap.size 9 1 (.slice a ns.length c) ns.length (ns.map Value.string)) (hN : ∀ b o, a = some ⟨b, o, none⟩ → ¬ F b ∧ ¬ G b) (hC : Chg w wr Nothing) (ha : AfterT wr w' p r F G ns room) : InvT w w' p r a c ns room := by
  obtain ⟨F', G', zs', h1, h2, h3, h4⟩ := ha
  have hs := hC.size
  refine ⟨F', G', zs', h1, fun k hk => ?_, fun k hk => ?_, ownsRow_frame ho fun k hk => ?_, fun b o hb => ?_, hC.trans h2 (fun k hk h => ?_)⟩
  · rcases h3 k hk with h | h; exact hF k h; omega
  · rcases h4 k hk with h | h; exact hG k h; omega
  · have := hN k 0 (blk_of_row ho hk)
    exact h2.block k (ho.lt k hk).2 (fun h => by rcases h with h | h; exact this.1 h; exact this.2 h)
  · have hlt := (ho.lt b (by rw [hb]; rfl)).2
    have := hN b o hb
    exact ⟨fun h => by rcases h3 b h with h | h; exact this.1 h; omega, fun h => by rcases h4 b h with h | h; exact this.2 h; omega⟩
  · rcases h with h | h; have := hF k h; omega; have := hG k h; omega

theorem one_new (w : World) (o : Obj) (u : Value) {E : TypeId} : ∀ j v, [u][j]? = some v → ((w.alloc o).alloc (.cells #[u] E)).cell? ⟨w.heap.size + 1, j, none⟩ = some v := by
  intro j v hj
  have e : (w.alloc o).heap.size = w.heap.size + 1 := by simp
  match j, hj with
  | 0, hj =>
    simp at hj
    subst hj
    have := blk_cell (heap_alloc_new (w.alloc o) (.cells #[u] E)) 0
    rw [e] at this
    exact this

/-- The names have got one more. -/
theorem InvT.named {w wr w4 : World} {p r g cap c : Nat} {F G : Nat → Prop} {zs : List Int} {ns : List ByteArray} {a : Option Addr} {room : Int} {s : ByteArray} {o1 o2 : Obj} (ht : TwoT wr p r F G zs ns room) (hF : ∀ k, F k → w.heap.size ≤ k) (hG : ∀ k, G k → w.heap.size ≤ k)
    (ho : wr.ownsRow w.heap.size 9 1 (.slice a ns.length c) ns.length (ns.map Value.string)) (hN : ∀ b o, a = some ⟨b, o, none⟩ → ¬ F b ∧ ¬ G b) (hC : Chg w wr Nothing)
    (hown : w4.ownsRow 0 9 1 (.slice (some ⟨g, 0, none⟩) (ns.length + 1) cap) (ns.length + 1) (ns.map Value.string ++ [.string s])) (hg : ((wr.alloc o1).alloc o2).grownBy w4 (Value.slice a ns.length c).ownBlock)
    (hgg : (Value.slice a ns.length c).ownBlock = some g ∨ wr.heap.size + 1 + 1 ≤ g) :
    TwoT w4 p r F G zs (ns ++ [s]) room ∧ w4.ownsRow w.heap.size 9 1 (.slice (some ⟨g, 0, none⟩) (ns ++ [s]).length cap) (ns ++ [s]).length ((ns ++ [s]).map Value.string) ∧
      (∀ b o, some (⟨g, 0, none⟩ : Addr) = some ⟨b, o, none⟩ → ¬ F b ∧ ¬ G b) ∧ Chg w w4 Nothing ∧ (∀ k, wr.heap.size ≤ k → k < wr.heap.size + 2 → w4.heap[k]? = ((wr.alloc o1).alloc o2).heap[k]?) ∧ wr.heap.size + 2 ≤ w4.heap.size ∧ g < w4.heap.size := by
  have e : ((wr.alloc o1).alloc o2).heap.size = wr.heap.size + 2 := by simp
  have hs := hC.size
  have hc4 : Chg wr w4 (fun k => (Value.slice a ns.length c).ownBlock = some k) := (((Chg.refl wr (fun k => (Value.slice a ns.length c).ownBlock = some k)).alloc o1).alloc o2).grown hg (fun k hk => .inr hk)
  have hb : ∀ k, (Value.slice a ns.length c).ownBlock = some k → ¬ F k ∧ ¬ G k := fun k hk => hN k 0 (blk_of_row ho hk)
  refine ⟨TwoT.more ⟨ht.s.chg hc4 (fun k h h' => (hb k h').1 h), ht.r.chg hc4 (fun k h h' => (hb k h').2 h), ht.d, ht.v, ht.n0, ht.n1⟩ s, ?_, ?_, ?_, ?_, ?_, (hown.lt g rfl).2⟩
  · rw [List.map_append, List.length_append]
    refine ownsRow_rebase hown fun k hk => ?_
    simp [Value.ownBlock] at hk
    subst hk
    rcases hgg with h | h
    · exact (ho.lt g h).1
    · omega
  · intro b o hbo
    cases hbo
    rcases hgg with h | h
    · exact hb g h
    · exact ⟨fun h' => by have := ht.s.lt g h'; omega, fun h' => by have := ht.r.lt g h'; omega⟩
  · exact hC.trans hc4 (fun k hk h => by have := (ho.lt k h).1; omega)
  · intro k h1 h2
    exact hg.block k (by omega) (fun h => by have := (ho.lt k h.symm).2; omega)
  · have := hg.size; omega

theorem texts_walk (room : Int) (a : Option Addr) (c : Nat) (l : List (Int × Int × ByteArray)) (w : World) (hs : Script w a l) (hl : l.length * 32 ≤ 140737488351232) :
    Calls Try.prog 7 #[.int .i64 room, .slice a l.length c] w fun e w' => e = .returned (.bool true) ∧ Chg w w' Nothing := by
  have HS := Lib.hid hs
  clear hs
  go_enter Try.func7, Try.ntmps7
  go_wp2_with fail
  refine (live_any _).mono ?_
  rintro e w1 ⟨rfl, c1⟩
  go_wp2_with fail
  refine (SS.new_any room _).mono ?_
  rintro e w2 ⟨p, rfl, hp, s2, c2⟩
  go_wp2_with fail
  refine (SR.new_any room _).mono ?_
  rintro e w3 ⟨r, rfl, hr, s3, c3⟩
  have HC := Lib.hid (show Chg w w3 Nothing from (c1.trans c2 (fun _ _ h => h)).trans c3 (fun _ _ h => h))
  have HI := Lib.hid (show InvT w (w3.alloc (.cells #[.string ⟨#[]⟩] 9)) p r (some ⟨w3.heap.size, 0, none⟩) 1 [ByteArray.empty] (roomOf room) from by
    have e1 := c1.size; have e2 := c2.size; have e3 := c3.size
    refine ⟨Grow Nothing w1 w2, Grow Nothing w2 w3, [], ⟨?_, ?_, ?_, by simp, rfl, by simp⟩, ?_, ?_, ?_, ?_, HC.out.alloc _⟩
    · exact (s2.chg c3 (fun _ _ h => h)).chg (S := Nothing) ((Chg.refl _ _).alloc _) (fun _ _ h => h)
    · exact s3.chg (S := Nothing) ((Chg.refl _ _).alloc _) (fun _ _ h => h)
    · intro k h h'; rcases h with h | h <;> rcases h' with h' | h' <;> first | exact h | exact h' | omega
    · intro k h; rcases h with h | h; exact h.elim; omega
    · intro k h; rcases h with h | h; exact h.elim; omega
    · exact ⟨rfl, .inr ⟨w3.heap.size, 1, #[.string ⟨#[]⟩], rfl, by omega, heap_alloc_new w3 _, Nat.le_refl _, by unfold maxLen; omega, rfl, rfl⟩⟩
    · intro b o hb
      cases hb
      exact ⟨fun h => by rcases h with h | h; exact h; omega, fun h => by rcases h with h | h; exact h; omega⟩)
  clear s2 s3 c1 c2 c3 hp hr HC
  go_wp2_with fail
  go_loopg [6, 8, 24] l.length (fun k s nv i wr => ∃ (n p : Nat) (ns : List ByteArray) (an : Option Addr) (cn : Nat), n + k = l.length ∧ i = .int .i64 (n : Nat) ∧ s = .pointer (some ⟨p, 0, none⟩) ∧ nv = .slice an ns.length cn ∧ ns.length = n + 1 ∧ InvT w wr p r an cn ns (roomOf room))
  case atStart => exact ⟨0, p, _, _, _, by simp, rfl, rfl, rfl, rfl, HI.out⟩
  case round =>
    clear HI
    obtain ⟨n, p, ns, an, cn, hn, rfl, rfl, rfl, hnl, F, G, zs, ht, hF, hG, hown, hN, hc⟩ := hrel
    have HT := Lib.hid ht
    have HF := Lib.hid hF
    have HG := Lib.hid hG
    have HC := Lib.hid hc
    have HN := Lib.hid hN
    have HO := Lib.hid hown
    have HL := Lib.hid hnl
    clear ht hF hG hc hN hown hnl
    by_cases hlt : n < l.length
    · have hd : decide (n < l.length) = true := by simpa using hlt
      obtain ⟨kd, m, s, hx⟩ : ∃ kd m s, l[n] = (kd, m, s) := ⟨_, _, _, rfl⟩
      obtain ⟨b, o, rfl, k0, k1, k2⟩ := HS.out n _ (List.getElem?_eq_getElem hlt)
      rw [hx] at k0 k1 k2
      have k0 := HC.out.cell k0 id
      have k1 := HC.out.cell k1 id
      have k2 := HC.out.cell k2 id
      clear hx
      go_wp2_with (at_builtin; refine append_one rfl _ _ 46 9 rfl (.string ByteArray.empty) 1 16 Try.underlying46 (by kernel_rfl) rfl (by decide) _ ns.length (ns.map Value.string) rfl (ownsRow_base ((HO.out.alloc _).alloc _) (Nat.zero_le _)) (wr.heap.size + 1) 1 rfl [.string s] rfl ?c1 ?c2 ?c3 ?c4 ?c5)
      case c2 => first | rfl | (intro u hu; simp at hu; subst hu; rfl)
      case c3 => have := HL.out; unfold maxLen; omega
      case c4 => have := HL.out; omega
      case c5 =>
        intro g cap w4 hown2 hg2 hgg
        have K := Lib.hid (InvT.named (w := w) HT.out HF.out HG.out HO.out HN.out HC.out hown2 hg2 hgg)
        obtain ⟨B, hB⟩ : ∃ B, B = wr.heap.size := ⟨_, rfl⟩
        have d : ∀ j v, #[Value.int .i64 kd, .int .i64 m, .string s][j]? = some v → w4.cell? ⟨wr.heap.size, j, none⟩ = some v := fun j v hv => by
          refine (World.cell?_of_block (w := (wr.alloc _).alloc _) (K.out.2.2.2.2.1 wr.heap.size (Nat.le_refl _) (by omega))).trans ?_
          exact cell_alloc ((blk_cell (heap_alloc_new wr _) j).trans hv) _
        have d0 := d 0 _ rfl
        have d1 := d 1 _ rfl
        have d2 := d 2 _ rfl
        clear hown2 hg2 hgg d k0 k1 k2 hB
        by_cases h6 : kd = 6
        · subst h6
          go_wp2_with fail
          refine (SS.clone_any p F _ (roomOf room) w4 K.out.1.s (texts_one _)).mono ?_
          rintro e w5 ⟨q, rfl, hq, s5, c5⟩
          have P5 := Lib.hid (K.out.1.s.chg c5 (fun _ _ h => h))
          have L5 := Lib.hid (show w4.heap.size ≤ w5.heap.size ∧ (∀ k, Grow Nothing w4 w5 k → w4.heap.size ≤ k) from ⟨c5.size, fun k h => by rcases h with h | h; exact h.elim; exact h.1⟩)
          generalize Grow Nothing w4 w5 = Q at s5 L5
          have S5 := Lib.hid s5
          have C5 := Lib.hid c5
          clear s5 c5 hq
          go_wp2_with fail
          refine (SS.pop_any p F _ (roomOf room) w5 P5.out).mono ?_
          rintro e w6 ⟨rfl, s6, c6⟩
          go_wp2_with fail
          refine (SS.push_any p F _ (roomOf room) _ w6 (by rw [← List.map_dropLast] at s6; exact s6)).mono ?_
          rintro e w7 ⟨rfl, s7, c7⟩
          have C7 := Lib.hid (show Chg w5 w7 F from c6.trans c7 (fun _ _ h => h))
          clear s6 c6 s7 c7
          have hbF : ¬ F wr.heap.size := fun h => Nat.lt_irrefl _ (HT.out.s.lt _ h)
          have e0 := C7.out.cell (C5.out.cell d0 id) hbF
          have e1 := C7.out.cell (C5.out.cell d1 id) hbF
          have e2 := C7.out.cell (C5.out.cell d2 id) hbF
          have T7 := Lib.hid (show TwoT w7 q r Q G zs (ns ++ [s]) (roomOf room) from
            ⟨S5.out.chg C7.out (fun k h h' => by have := L5.out.2 k h; have := K.out.1.s.lt k h'; omega), (K.out.1.r.chg C5.out (fun _ _ h => h)).chg C7.out (fun k h h' => K.out.1.d k h' h),
             fun k h h' => (by have := L5.out.2 k h; have := K.out.1.r.lt k h'; omega), K.out.1.v, K.out.1.n0, K.out.1.n1⟩)
          have O7 := Lib.hid (ownsRow_frame (w' := w7) K.out.2.1 fun k hk => by
            have hk' := blk_of_row K.out.2.1 hk
            have := (K.out.2.2.1 k 0 hk').1
            rw [C7.out.block k (by have := (K.out.2.1.lt k hk).2; have := L5.out.1; omega) this, C5.out.block k (K.out.2.1.lt k hk).2 id])
          have N7 := Lib.hid (show ∀ b o, some (⟨g, 0, none⟩ : Addr) = some ⟨b, o, none⟩ → ¬ Q b ∧ ¬ G b from fun b o h => ⟨fun h' => by cases h; have := L5.out.2 g h'; have := K.out.2.2.2.2.2.2; omega, (K.out.2.2.1 b o h).2⟩)
          have D7 := Lib.hid (show Chg w w7 Nothing from (K.out.2.2.2.1.trans C5.out (fun _ _ h => h)).trans C7.out (fun k hk h => by have := HF.out k h; omega))
          have F7 := Lib.hid (show ∀ k, Q k → w.heap.size ≤ k from fun k h => by have := L5.out.2 k h; have := K.out.2.2.2.1.size; omega)
          clear d0 d1 d2 hbF
          go_wp2_with fail
          refine (text_any q r Q G zs _ _ 6 m s _ cap w7 T7.out (Sees.of_owns O7.out) (by have := HL.out; simp; omega) N7.out (nm_last ns s) (ns.length + 1) (by simp)).mono ?_
          rintro e w8 ⟨rfl, a8⟩
          have I8 := Lib.hid (InvT.after (zs := zs) F7.out HG.out O7.out N7.out D7.out a8)
          clear a8 e0 e1 e2
          go_wp2_with fail
          go_roundg (gk - 1)
          case measure => omega
          case rel => exact ⟨n + 1, q, ns ++ [s], _, cap, by omega, by go_num, rfl, by simp, by have := HL.out; simp; omega, I8.out⟩
        · have b6 : (kd == 6) = false := by simpa using h6
          clear h6
          go_wp2_with fail
          refine (text_any p r F G zs _ _ kd m s _ cap w4 K.out.1 (Sees.of_owns K.out.2.1) (by have := HL.out; simp; omega) K.out.2.2.1 (nm_last ns s) (ns.length + 1) (by simp)).mono ?_
          rintro e w5 ⟨rfl, a5⟩
          have I5 := Lib.hid (InvT.after (zs := zs) HF.out HG.out K.out.2.1 K.out.2.2.1 K.out.2.2.2.1 a5)
          clear a5 d0 d1 d2
          go_wp2_with fail
          go_roundg (gk - 1)
          case measure => omega
          case rel => exact ⟨n + 1, p, ns ++ [s], _, cap, by omega, by go_num, rfl, by simp, by have := HL.out; simp; omega, I5.out⟩
    · have hd : decide (n < l.length) = false := by simpa using hlt
      have hfit := Lib.hid HT.out.s.fits
      go_wp2_with fail
      refine (SR.all_any r G _ _ _ HT.out.r (by intro u hu; obtain ⟨z, _, rfl⟩ := List.mem_map.1 hu; exact ⟨z, rfl⟩)).mono ?_
      rintro e w1 ⟨a1, k1, rfl, o1, c1⟩
      have T1 := Lib.hid (HT.out.chg c1)
      go_wp2_with fail
      refine (SS.len_any p F _ _ _ T1.out.s).mono ?_
      rintro e w2 ⟨rfl, rfl⟩
      go_wp2_with fail
      refine (SR.len_any r G _ _ _ T1.out.r).mono ?_
      rintro e w2 ⟨rfl, rfl⟩
      go_wp2_with fail
      refine (SS.room_any p F _ _ _ T1.out.s).mono ?_
      rintro e w2 ⟨rfl, rfl⟩
      go_wp2_with fail
      refine (SR.room_any r G _ _ _ T1.out.r).mono ?_
      rintro e w2 ⟨rfl, rfl⟩
      have hq : (roomOf room == roomOf room) = true := by simp
      go_wp2_with fail
      refine (SS.all_any p F _ _ _ T1.out.s (texts_one _)).mono ?_
      rintro e w2 ⟨a2, k2, rfl, o2, c2⟩
      have S1 := Lib.hid ((Sees.of_owns o1).chg c2)
      have S2 := Lib.hid (Sees.of_owns o2)
      have R := Lib.hid (show Chg w w2 Nothing from (HC.out.trans c1 (fun _ _ h => h)).trans c2 (fun _ _ h => h))
      have S3 := Lib.hid (((Sees.of_owns HO.out).chg c1).chg c2)
      clear o1 o2 c1 c2
      go_wp2_with fail
      refine (named_true a2 a1 an k2 k1 cn zs ns w2 S2.out S1.out S3.out HT.out.v (by have := hfit.out; simp at this; omega)).mono ?_
      rintro e w3 ⟨rfl, m, rfl⟩
      go_wp2_with fail
      go_ret
      exact ⟨rfl, R.out.drewN m⟩

end Go.Proofs.Ytpigcmedkljonaa
