/- The values that a tree's programs are put together of: how each is made, and what those do that hold no other. Printed by gen/tree.py. -/
import Derived.Test.YtgeapkalabijmaaGreatDA
namespace Go.Proofs.YtgeapkalabijmaaGreat
open Go Go.RowKit
set_option maxRecDepth 100000
set_option maxHeartbeats 1000000
set_option linter.unusedVariables false
set_option linter.unusedSimpArgs false

section
variable {F : Nat → Prop} {w : World} {os : List Obj} {kf d : Nat} {f : Eff} {v u : Value} {k : Nat} {T1 T2 : TypeId}
theorem ok0 (hcf : ∀ (args : Array Value) (w : World), (callFunc kf args).run Tryz.prog w = .ok (.enter kf args) w)
    (hcall : ∀ (F1 : Nat → Prop) (w1 : World) (m p : Nat) (base room : Int) (s : Asm) (n : Nat), Mk F1 w1 w1 m p base room s n → n + d < 240 → Calls Tryz.prog kf #[.pointer (some ⟨m, 0, none⟩)] w1 fun e w' => e = .returned (.tuple #[]) ∧ Mk F1 w1 w' m p base room (f base room s) (n + d)) :
    OprOk F w (.func (.func kf) #[] #[]) d f :=
  ⟨kf, #[], fun _ => False, rfl, fun b hb => hb.elim, hcf, fun F1 w1 m p base room s n _ h hn => hcall F1 w1 m p base room s n h hn⟩
theorem ok1 (hF : ∀ k, F k → k < w.heap.size) (k : Nat) (h1 : os[k]? = some (.cells #[v] T1)) (hcf : ∀ (args : Array Value) (w : World), (callFunc kf args).run Tryz.prog w = .ok (.enter kf args) w)
    (hcall : ∀ (F1 : Nat → Prop) (w1 : World) (m p : Nat) (base room : Int) (s : Asm) (n b : Nat), Mk F1 w1 w1 m p base room s n → w1.cell? ⟨b, 0, none⟩ = some v → n + d < 240 → Calls Tryz.prog kf #[.pointer (some ⟨m, 0, none⟩), .pointer (some ⟨b, 0, none⟩)] w1 fun e w' => e = .returned (.tuple #[]) ∧ Mk F1 w1 w' m p base room (f base room s) (n + d)) :
    OprOk F (allocs w os) (.func (.func kf) #[] #[.pointer (some ⟨w.heap.size + k, 0, none⟩)]) d f := by
  have hb := allocs_block os w k _ h1
  have hl := (Array.getElem?_eq_some_iff.1 hb).1
  refine ⟨kf, _, fun b => b = w.heap.size + k, rfl, fun b hb => ⟨by rw [hb]; exact hl, fun h => by have := hF _ h; omega⟩, hcf, fun F1 w1 m p base room s n hk h hn => ?_⟩
  have h2 := (hk _ rfl).1.trans hb
  exact hcall F1 w1 m p base room s n _ h (blk_cell h2 0) hn
theorem ok2 (hF : ∀ k, F k → k < w.heap.size) (k : Nat) (h1 : os[k]? = some (.cells #[v] T1)) (h2 : os[k + 1]? = some (.cells #[u] T2)) (hcf : ∀ (args : Array Value) (w : World), (callFunc kf args).run Tryz.prog w = .ok (.enter kf args) w)
    (hcall : ∀ (F1 : Nat → Prop) (w1 : World) (m p : Nat) (base room : Int) (s : Asm) (n b c : Nat), Mk F1 w1 w1 m p base room s n → w1.cell? ⟨b, 0, none⟩ = some v → w1.cell? ⟨c, 0, none⟩ = some u → n + d < 240 → Calls Tryz.prog kf #[.pointer (some ⟨m, 0, none⟩), .pointer (some ⟨b, 0, none⟩), .pointer (some ⟨c, 0, none⟩)] w1 fun e w' => e = .returned (.tuple #[]) ∧ Mk F1 w1 w' m p base room (f base room s) (n + d)) :
    OprOk F (allocs w os) (.func (.func kf) #[] #[.pointer (some ⟨w.heap.size + k, 0, none⟩), .pointer (some ⟨w.heap.size + (k + 1), 0, none⟩)]) d f := by
  have hb := allocs_block os w k _ h1
  have hl := (Array.getElem?_eq_some_iff.1 hb).1
  have hb2 := allocs_block os w (k + 1) _ h2
  have hl2 := (Array.getElem?_eq_some_iff.1 hb2).1
  refine ⟨kf, _, fun b => b = w.heap.size + k ∨ b = w.heap.size + (k + 1), rfl, fun b hb => ⟨by rcases hb with hb | hb <;> rw [hb]; exact hl; exact hl2, fun h => by have := hF _ h; omega⟩, hcf, fun F1 w1 m p base room s n hk h hn => ?_⟩
  have g1 := (hk _ (.inl rfl)).1.trans hb
  have g2 := (hk _ (.inr rfl)).1.trans hb2
  exact hcall F1 w1 m p base room s n _ _ h (blk_cell g1 0) (blk_cell g2 0) hn
end

theorem tradd_lit (w : World) (a : Int) (b : Int) : Calls Tryz.prog 127 #[.int .i64 a, .int .i64 b] w fun e w' => e = .returned (.func (.func 166) #[] #[.pointer (some ⟨w.heap.size, 0, none⟩), .pointer (some ⟨w.heap.size + 1, 0, none⟩)]) ∧ w' = (w.alloc (.cells #[.int .i64 a] 3)).alloc (.cells #[.int .i64 b] 3) := by
  have hmf : ∀ (fn : Fn) (first cap : Array Value) (w : World), (Instr.makeFunc fn first cap).run Tryz.prog w = .ok (.func fn first cap) w := fun _ _ _ _ => rfl
  go_enter Tryz.func127, Tryz.ntmps127
  go_wp2_with fail
  go_ret
  exact ⟨rfl, rfl⟩
theorem trpush_lit (w : World) (a : Nat) : Calls Tryz.prog 130 #[fl a] w fun e w' => e = .returned (.func (.func 167) #[] #[.pointer (some ⟨w.heap.size, 0, none⟩)]) ∧ w' = w.alloc (.cells #[fl a] 61) := by
  have hmf : ∀ (fn : Fn) (first cap : Array Value) (w : World), (Instr.makeFunc fn first cap).run Tryz.prog w = .ok (.func fn first cap) w := fun _ _ _ _ => rfl
  go_enter Tryz.func130, Tryz.ntmps130
  go_wp2_with fail
  go_ret
  exact ⟨rfl, rfl⟩
theorem trto_lit (w : World) (a : Int) (b : Int) : Calls Tryz.prog 86 #[.int .i64 a, .int .i64 b] w fun e w' => e = .returned (.func (.func 135) #[] #[.pointer (some ⟨w.heap.size, 0, none⟩), .pointer (some ⟨w.heap.size + 1, 0, none⟩)]) ∧ w' = (w.alloc (.cells #[.int .i64 a] 3)).alloc (.cells #[.int .i64 b] 3) := by
  have hmf : ∀ (fn : Fn) (first cap : Array Value) (w : World), (Instr.makeFunc fn first cap).run Tryz.prog w = .ok (.func fn first cap) w := fun _ _ _ _ => rfl
  go_enter Tryz.func86, Tryz.ntmps86
  go_wp2_with fail
  go_ret
  exact ⟨rfl, rfl⟩
theorem trmark_lit (w : World) (a : Int) : Calls Tryz.prog 76 #[.int .i64 a] w fun e w' => e = .returned (.func (.func 128) #[] #[.pointer (some ⟨w.heap.size, 0, none⟩)]) ∧ w' = w.alloc (.cells #[.int .i64 a] 3) := by
  have hmf : ∀ (fn : Fn) (first cap : Array Value) (w : World), (Instr.makeFunc fn first cap).run Tryz.prog w = .ok (.func fn first cap) w := fun _ _ _ _ => rfl
  go_enter Tryz.func76, Tryz.ntmps76
  go_wp2_with fail
  go_ret
  exact ⟨rfl, rfl⟩
theorem trcell_lit (w : World) (a : Int) : Calls Tryz.prog 84 #[.int .i64 a] w fun e w' => e = .returned (.func (.func 134) #[] #[.pointer (some ⟨w.heap.size, 0, none⟩)]) ∧ w' = w.alloc (.cells #[.int .i64 a] 3) := by
  have hmf : ∀ (fn : Fn) (first cap : Array Value) (w : World), (Instr.makeFunc fn first cap).run Tryz.prog w = .ok (.func fn first cap) w := fun _ _ _ _ => rfl
  go_enter Tryz.func84, Tryz.ntmps84
  go_wp2_with fail
  go_ret
  exact ⟨rfl, rfl⟩
theorem trof_lit (w : World) (a : Int) : Calls Tryz.prog 79 #[.int .i64 a] w fun e w' => e = .returned (.func (.func 129) #[] #[.pointer (some ⟨w.heap.size, 0, none⟩)]) ∧ w' = w.alloc (.cells #[.int .i64 a] 3) := by
  have hmf : ∀ (fn : Fn) (first cap : Array Value) (w : World), (Instr.makeFunc fn first cap).run Tryz.prog w = .ok (.func fn first cap) w := fun _ _ _ _ => rfl
  go_enter Tryz.func79, Tryz.ntmps79
  go_wp2_with fail
  go_ret
  exact ⟨rfl, rfl⟩
theorem trpart_lit (w : World) (a : Int) : Calls Tryz.prog 74 #[.int .i64 a] w fun e w' => e = .returned (.func (.func 126) #[] #[.pointer (some ⟨w.heap.size, 0, none⟩)]) ∧ w' = w.alloc (.cells #[.int .i64 a] 3) := by
  have hmf : ∀ (fn : Fn) (first cap : Array Value) (w : World), (Instr.makeFunc fn first cap).run Tryz.prog w = .ok (.func fn first cap) w := fun _ _ _ _ => rfl
  go_enter Tryz.func74, Tryz.ntmps74
  go_wp2_with fail
  go_ret
  exact ⟨rfl, rfl⟩
theorem trmore_lit (w : World) (a : Nat) : Calls Tryz.prog 83 #[fl a] w fun e w' => e = .returned (.func (.func 133) #[] #[.pointer (some ⟨w.heap.size, 0, none⟩)]) ∧ w' = w.alloc (.cells #[fl a] 61) := by
  have hmf : ∀ (fn : Fn) (first cap : Array Value) (w : World), (Instr.makeFunc fn first cap).run Tryz.prog w = .ok (.func fn first cap) w := fun _ _ _ _ => rfl
  go_enter Tryz.func83, Tryz.ntmps83
  go_wp2_with fail
  go_ret
  exact ⟨rfl, rfl⟩
theorem transwer_lit (w : World) (a : Nat) : Calls Tryz.prog 80 #[fl a] w fun e w' => e = .returned (.func (.func 131) #[] #[.pointer (some ⟨w.heap.size, 0, none⟩)]) ∧ w' = w.alloc (.cells #[fl a] 61) := by
  have hmf : ∀ (fn : Fn) (first cap : Array Value) (w : World), (Instr.makeFunc fn first cap).run Tryz.prog w = .ok (.func fn first cap) w := fun _ _ _ _ => rfl
  go_enter Tryz.func80, Tryz.ntmps80
  go_wp2_with fail
  go_ret
  exact ⟨rfl, rfl⟩
theorem trmatch_lit (w : World) (a : Int) : Calls Tryz.prog 73 #[.int .i64 a] w fun e w' => e = .returned (.func (.func 125) #[] #[.pointer (some ⟨w.heap.size, 0, none⟩)]) ∧ w' = w.alloc (.cells #[.int .i64 a] 3) := by
  have hmf : ∀ (fn : Fn) (first cap : Array Value) (w : World), (Instr.makeFunc fn first cap).run Tryz.prog w = .ok (.func fn first cap) w := fun _ _ _ _ => rfl
  go_enter Tryz.func73, Tryz.ntmps73
  go_wp2_with fail
  go_ret
  exact ⟨rfl, rfl⟩
theorem trarg_lit (w : World) (a : Int) : Calls Tryz.prog 77 #[.int .i64 a] w fun e w' => e = .returned (.func (.func 166) #[] #[.pointer (some ⟨w.heap.size, 0, none⟩), .pointer (some ⟨w.heap.size + 1, 0, none⟩)]) ∧ w' = (w.alloc (.cells #[.int .i64 6] 3)).alloc (.cells #[.int .i64 a] 3) := by
  go_enter Tryz.func77, Tryz.ntmps77
  go_wp2_with fail
  refine (tradd_lit _ _ _).mono ?_
  rintro e x ⟨rfl, rfl⟩
  go_wp2_with fail
  go_ret
  exact ⟨rfl, rfl⟩
theorem trget_lit (w : World) (a : Int) : Calls Tryz.prog 78 #[.int .i64 a] w fun e w' => e = .returned (.func (.func 166) #[] #[.pointer (some ⟨w.heap.size, 0, none⟩), .pointer (some ⟨w.heap.size + 1, 0, none⟩)]) ∧ w' = (w.alloc (.cells #[.int .i64 7] 3)).alloc (.cells #[.int .i64 a] 3) := by
  go_enter Tryz.func78, Tryz.ntmps78
  go_wp2_with fail
  refine (tradd_lit _ _ _).mono ?_
  rintro e x ⟨rfl, rfl⟩
  go_wp2_with fail
  go_ret
  exact ⟨rfl, rfl⟩
theorem trset_lit (w : World) (a : Int) : Calls Tryz.prog 132 #[.int .i64 a] w fun e w' => e = .returned (.func (.func 166) #[] #[.pointer (some ⟨w.heap.size, 0, none⟩), .pointer (some ⟨w.heap.size + 1, 0, none⟩)]) ∧ w' = (w.alloc (.cells #[.int .i64 8] 3)).alloc (.cells #[.int .i64 a] 3) := by
  go_enter Tryz.func132, Tryz.ntmps132
  go_wp2_with fail
  refine (tradd_lit _ _ _).mono ?_
  rintro e x ⟨rfl, rfl⟩
  go_wp2_with fail
  go_ret
  exact ⟨rfl, rfl⟩
theorem trtwo_lit (w : World) (a : Int) : Calls Tryz.prog 88 #[.int .i64 a] w fun e w' => e = .returned (.func (.func 166) #[] #[.pointer (some ⟨w.heap.size, 0, none⟩), .pointer (some ⟨w.heap.size + 1, 0, none⟩)]) ∧ w' = (w.alloc (.cells #[.int .i64 10] 3)).alloc (.cells #[.int .i64 a] 3) := by
  go_enter Tryz.func88, Tryz.ntmps88
  go_wp2_with fail
  refine (tradd_lit _ _ _).mono ?_
  rintro e x ⟨rfl, rfl⟩
  go_wp2_with fail
  go_ret
  exact ⟨rfl, rfl⟩
theorem trplain_lit (w : World) (a : Int) : Calls Tryz.prog 75 #[.int .i64 a] w fun e w' => e = .returned (.func (.func 166) #[] #[.pointer (some ⟨w.heap.size, 0, none⟩), .pointer (some ⟨w.heap.size + 1, 0, none⟩)]) ∧ w' = (w.alloc (.cells #[.int .i64 a] 3)).alloc (.cells #[.int .i64 0] 3) := by
  go_enter Tryz.func75, Tryz.ntmps75
  go_wp2_with fail
  refine (tradd_lit _ _ _).mono ?_
  rintro e x ⟨rfl, rfl⟩
  go_wp2_with fail
  go_ret
  exact ⟨rfl, rfl⟩
set_option maxRecDepth 100000 in
theorem tradd1_any {G : Nat → Prop} {w0 w : World} {m p : Nat} {base room : Int} {s : Asm} {n b c : Nat} (x : Int) (y : Int) (h : Mk G w0 w m p base room s n) (hb : w.cell? ⟨b, 0, none⟩ = some (.int .i64 x)) (hc : w.cell? ⟨c, 0, none⟩ = some (.int .i64 y)) (hn : n + 1 < 240) :
    Calls Tryz.prog 166 #[.pointer (some ⟨m, 0, none⟩), .pointer (some ⟨b, 0, none⟩), .pointer (some ⟨c, 0, none⟩)] w fun e w' => e = .returned (.tuple #[]) ∧ Mk G w0 w' m p base room (s.add x y) (n + 1) := by
  have c0 := h.c0
  have c1 := h.c1
  have H0 := Lib.hid h
  have HN := Lib.hid hn
  clear h hn
  go_enter Tryz.func166, Tryz.ntmps166
  go_upto_region 0 with fail
  go_still_tail 6, (by kernel_rfl)
  go_wp2_with fail
  refine (mk_add (H0.out.quiet (Chg.refl _ _).drew) _ _ (by have := HN.out; omega)).mono ?_
  clear c0 c1
  rintro e w1 ⟨rfl, h⟩
  have H1 := Lib.hid h
  clear h
  go_wp2_with fail
  go_end0
  exact ⟨rfl, H1.out⟩
theorem tradd_ok {F : Nat → Prop} {w : World} {os : List Obj} (hF : ∀ k, F k → k < w.heap.size) (k : Nat) (x : Int) (y : Int) (h0 : os[k]? = some (.cells #[.int .i64 x] 3)) (h1 : os[k + 1]? = some (.cells #[.int .i64 y] 3)) :
    OprOk F (allocs w os) (.func (.func 166) #[] #[.pointer (some ⟨w.heap.size + k, 0, none⟩), .pointer (some ⟨w.heap.size + (k + 1), 0, none⟩)]) 1 (fun base room s => s.add x y) :=
  ok2 hF k h0 h1 (fun _ _ => rfl) (fun F1 w1 m p base room s n b c h hb hc hn => tradd1_any x y h hb hc hn)
set_option maxRecDepth 100000 in
theorem trpush1_any {G : Nat → Prop} {w0 w : World} {m p : Nat} {base room : Int} {s : Asm} {n b : Nat} (x : Nat) (h : Mk G w0 w m p base room s n) (hb : w.cell? ⟨b, 0, none⟩ = some (fl x)) (hn : n + 1 < 240) :
    Calls Tryz.prog 167 #[.pointer (some ⟨m, 0, none⟩), .pointer (some ⟨b, 0, none⟩)] w fun e w' => e = .returned (.tuple #[]) ∧ Mk G w0 w' m p base room (s.push x) (n + 1) := by
  have c0 := h.c0
  have c1 := h.c1
  have H0 := Lib.hid h
  have HN := Lib.hid hn
  clear h hn
  go_enter Tryz.func167, Tryz.ntmps167
  go_upto_region 0 with fail
  go_still_tail 5, (by kernel_rfl)
  go_wp2_with fail
  refine (mk_push (H0.out.quiet (Chg.refl _ _).drew) _ (by have := HN.out; omega)).mono ?_
  clear c0 c1
  rintro e w1 ⟨rfl, h⟩
  have H1 := Lib.hid h
  clear h
  go_wp2_with fail
  go_end0
  exact ⟨rfl, H1.out⟩
theorem trpush_ok {F : Nat → Prop} {w : World} {os : List Obj} (hF : ∀ k, F k → k < w.heap.size) (k : Nat) (x : Nat) (h0 : os[k]? = some (.cells #[fl x] 61)) :
    OprOk F (allocs w os) (.func (.func 167) #[] #[.pointer (some ⟨w.heap.size + k, 0, none⟩)]) 1 (fun base room s => s.push x) :=
  ok1 hF k h0 (fun _ _ => rfl) (fun F1 w1 m p base room s n b h hb hn => trpush1_any x h hb hn)
set_option maxRecDepth 100000 in
theorem trto1_any {G : Nat → Prop} {w0 w : World} {m p : Nat} {base room : Int} {s : Asm} {n b c : Nat} (x : Int) (y : Int) (h : Mk G w0 w m p base room s n) (hb : w.cell? ⟨b, 0, none⟩ = some (.int .i64 x)) (hc : w.cell? ⟨c, 0, none⟩ = some (.int .i64 y)) (hn : n + 1 < 240) :
    Calls Tryz.prog 135 #[.pointer (some ⟨m, 0, none⟩), .pointer (some ⟨b, 0, none⟩), .pointer (some ⟨c, 0, none⟩)] w fun e w' => e = .returned (.tuple #[]) ∧ Mk G w0 w' m p base room (s.to x y) (n + 1) := by
  have c0 := h.c0
  have c1 := h.c1
  have H0 := Lib.hid h
  have HN := Lib.hid hn
  clear h hn
  go_enter Tryz.func135, Tryz.ntmps135
  go_upto_region 0 with fail
  go_still_tail 6, (by kernel_rfl)
  go_wp2_with fail
  refine (mk_to (H0.out.quiet (Chg.refl _ _).drew) _ _ (by have := HN.out; omega)).mono ?_
  clear c0 c1
  rintro e w1 ⟨rfl, h⟩
  have H1 := Lib.hid h
  clear h
  go_wp2_with fail
  go_end0
  exact ⟨rfl, H1.out⟩
theorem trto_ok {F : Nat → Prop} {w : World} {os : List Obj} (hF : ∀ k, F k → k < w.heap.size) (k : Nat) (x : Int) (y : Int) (h0 : os[k]? = some (.cells #[.int .i64 x] 3)) (h1 : os[k + 1]? = some (.cells #[.int .i64 y] 3)) :
    OprOk F (allocs w os) (.func (.func 135) #[] #[.pointer (some ⟨w.heap.size + k, 0, none⟩), .pointer (some ⟨w.heap.size + (k + 1), 0, none⟩)]) 1 (fun base room s => s.to x y) :=
  ok2 hF k h0 h1 (fun _ _ => rfl) (fun F1 w1 m p base room s n b c h hb hc hn => trto1_any x y h hb hc hn)
set_option maxRecDepth 100000 in
theorem trmark1_any {G : Nat → Prop} {w0 w : World} {m p : Nat} {base room : Int} {s : Asm} {n b : Nat} (x : Int) (h : Mk G w0 w m p base room s n) (hb : w.cell? ⟨b, 0, none⟩ = some (.int .i64 x)) (hn : n + 1 < 240) :
    Calls Tryz.prog 128 #[.pointer (some ⟨m, 0, none⟩), .pointer (some ⟨b, 0, none⟩)] w fun e w' => e = .returned (.tuple #[]) ∧ Mk G w0 w' m p base room (s.mark x) (n + 1) := by
  have c0 := h.c0
  have c1 := h.c1
  have H0 := Lib.hid h
  have HN := Lib.hid hn
  clear h hn
  go_enter Tryz.func128, Tryz.ntmps128
  go_upto_region 0 with fail
  go_still_tail 5, (by kernel_rfl)
  go_wp2_with fail
  refine (mk_mark (H0.out.quiet (Chg.refl _ _).drew) _ (by have := HN.out; omega)).mono ?_
  clear c0 c1
  rintro e w1 ⟨rfl, h⟩
  have H1 := Lib.hid h
  clear h
  go_wp2_with fail
  go_end0
  exact ⟨rfl, H1.out⟩
theorem trmark_ok {F : Nat → Prop} {w : World} {os : List Obj} (hF : ∀ k, F k → k < w.heap.size) (k : Nat) (x : Int) (h0 : os[k]? = some (.cells #[.int .i64 x] 3)) :
    OprOk F (allocs w os) (.func (.func 128) #[] #[.pointer (some ⟨w.heap.size + k, 0, none⟩)]) 1 (fun base room s => s.mark x) :=
  ok1 hF k h0 (fun _ _ => rfl) (fun F1 w1 m p base room s n b h hb hn => trmark1_any x h hb hn)
set_option maxRecDepth 100000 in
theorem trcell1_any {G : Nat → Prop} {w0 w : World} {m p : Nat} {base room : Int} {s : Asm} {n b : Nat} (x : Int) (h : Mk G w0 w m p base room s n) (hb : w.cell? ⟨b, 0, none⟩ = some (.int .i64 x)) (hn : n + 1 < 240) :
    Calls Tryz.prog 134 #[.pointer (some ⟨m, 0, none⟩), .pointer (some ⟨b, 0, none⟩)] w fun e w' => e = .returned (.tuple #[]) ∧ Mk G w0 w' m p base room (s.push (floatOfInt .f64 (wrap64 (base + x)))) (n + 1) := by
  have c0 := h.c0
  have c1 := h.c1
  have H0 := Lib.hid h
  have HN := Lib.hid hn
  clear h hn
  go_enter Tryz.func134, Tryz.ntmps134
  go_upto_region 0 with fail
  go_still_tail 11, (by kernel_rfl)
  go_wp2_with fail
  refine (mk_push (H0.out.quiet (Chg.refl _ _).drew) _ (by have := HN.out; omega)).mono ?_
  clear c0 c1
  rintro e w1 ⟨rfl, h⟩
  have H1 := Lib.hid h
  clear h
  go_wp2_with fail
  go_end0
  exact ⟨rfl, H1.out⟩
theorem trcell_ok {F : Nat → Prop} {w : World} {os : List Obj} (hF : ∀ k, F k → k < w.heap.size) (k : Nat) (x : Int) (h0 : os[k]? = some (.cells #[.int .i64 x] 3)) :
    OprOk F (allocs w os) (.func (.func 134) #[] #[.pointer (some ⟨w.heap.size + k, 0, none⟩)]) 1 (fun base room s => s.push (floatOfInt .f64 (wrap64 (base + x)))) :=
  ok1 hF k h0 (fun _ _ => rfl) (fun F1 w1 m p base room s n b h hb hn => trcell1_any x h hb hn)
end Go.Proofs.YtgeapkalabijmaaGreat
