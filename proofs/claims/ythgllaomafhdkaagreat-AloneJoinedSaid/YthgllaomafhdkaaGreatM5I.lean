/- Both Runs answer the same. -/
import Derived.Test.YthgllaomafhdkaaGreatM5G
import Derived.Test.YthgllaomafhdkaaGreatM43
namespace Go.Proofs.YthgllaomafhdkaaGreat
open Go Go.RowKit
set_option maxRecDepth 100000
set_option maxHeartbeats 1000000
set_option linter.unusedVariables false
set_option linter.unusedSimpArgs false

theorem one_full {s : Mc} {fs : List Nat} (h : s.Full) (hf : ∀ y ∈ fs, y < 18446744073709551616) : (oneP s fs).Full := by
  unfold oneP
  split
  · exact Full.give (Full.step h) (getV_lt hf _)
  · exact Full.step h
theorem run_full {c t f r tag : Int} {code : List Ins} {args fs : List Nat} (hc : CfgOk c t f r) (hx : ∀ i ∈ code, i.2.2 < 18446744073709551616) (hax : ∀ y ∈ args, y < 18446744073709551616) (hf : ∀ y ∈ fs, y < 18446744073709551616) : (runP (mc0 c t f r tag code args) fs).Full :=
  runN_ind (P := Mc.Full) (fun m _ h => one_full h hf) _ _ (mc0_full hc hx hax)
/-- What a run answers, and leaves. -/
structure RV where
  how : Int × Int × Int
  out : List Nat
  reads : List (Int × Nat)
  buf : List (Int × Nat)
  used : Nat
  err : Int
  fs : List Nat
def runV (c t f r tag : Int) (code : List Ins) (args fs : List Nat) : RV :=
  if RunOk c t f r args.length fs.length then
    let s := runP (mc0 c t f r tag code args) fs
    ⟨s.how, s.out, s.reads, s.buf, s.used, 0, afterL s fs⟩
  else ⟨(0, 0, 0), [], [], [], 0, 1, fs⟩
structure RV.Ok (v : RV) (n : Nat) : Prop where
  out : v.out.length ≤ 4096
  reads : v.reads.length ≤ 4096
  buf : v.buf.length ≤ 4096
  fs : v.fs.length = n
  lt : ∀ y ∈ v.fs, y < 18446744073709551616
theorem runV_ok {c t f r tag : Int} {code : List Ins} {args fs : List Nat} (hx : ∀ i ∈ code, i.2.2 < 18446744073709551616) (hax : ∀ y ∈ args, y < 18446744073709551616) (hf : ∀ y ∈ fs, y < 18446744073709551616) : (runV c t f r tag code args fs).Ok fs.length := by
  unfold runV
  by_cases h : RunOk c t f r args.length fs.length
  · rw [if_pos h]
    have hF := run_full (tag := tag) h.1 hx hax hf
    have h1 := hF.fine.ok.outs
    have h2 := hF.fine.ok.used
    have h3 := hF.fine.ok.fuel
    have h4 := Nat.le_trans (Nat.le_add_right _ _) hF.fine.ok.rds
    have h5 := hF.rok.buf
    exact ⟨by show (runP _ _).out.length ≤ 4096; omega, by show (runP _ _).reads.length ≤ 4096; omega, by show (runP _ _).buf.length ≤ 4096; omega, after_len _ _, after_lt hF.fine.ok hf⟩
  · rw [if_neg h]
    exact ⟨by show (0 : Nat) ≤ 4096; decide, by show (0 : Nat) ≤ 4096; decide, by show (0 : Nat) ≤ 4096; decide, rfl, hf⟩
theorem arun_any (c t f r tag : Int) (ac : Option Addr) (cc : Nat) (code : List Ins) (aa : Option Addr) (na : Nat) (args : List Nat) (p : Nat) (G : Nat → Prop) (fs : List Nat) (w : World) (h : Sta w p G (fs.map fl))
    (hb : code.length * 24 ≤ 140737488355328) (hs : Sees w ac (insV code)) (ha : Sees w aa (args.map fl)) (hx : ∀ i ∈ code, i.2.2 < 18446744073709551616) (hax : ∀ y ∈ args, y < 18446744073709551616) (hfx : ∀ y ∈ fs, y < 18446744073709551616) (v : RV) (hv : v = runV c t f r tag code args fs) :
    Calls Tryz.prog 40 #[.agg #[.int .i64 c, .int .i64 t, .int .i64 f, .int .i64 r], .agg #[.int .i64 tag, .slice ac code.length cc], .slice aa args.length na, .pointer (some ⟨p, 0, none⟩)] w fun e w' => ∃ ao co ar cr aw cw,
      e = .returned (.tuple #[.agg (resA v.how (ao, v.out.length, co) (ar, v.reads.length, cr) (aw, v.buf.length, cw) (v.used : Int)), .int .i64 v.err]) ∧
      w'.ownsRow w.heap.size 33 1 (.slice ao v.out.length co) v.out.length (v.out.map fl) ∧ w'.ownsRow w.heap.size 77 2 (.slice ar v.reads.length cr) v.reads.length (tchV v.reads) ∧ w'.ownsRow w.heap.size 77 2 (.slice aw v.buf.length cw) v.buf.length (tchV v.buf) ∧
      Sta w' p G (v.fs.map fl) ∧ Chg w w' G := by
  subst hv
  unfold runV
  by_cases hok : RunOk c t f r args.length fs.length
  · rw [if_pos hok]
    refine (run_good c t f r tag ac cc code aa na args p G fs w h hok hb hs ha hx hax hfx).mono ?_
    rintro e w' ⟨s, ao, co, ar, cr, aw, cw, rfl, _, _, _, he, h1, h2, h3, h4, h5⟩
    exact ⟨ao, co, ar, cr, aw, cw, he, h1, h2, h3, h4, h5⟩
  · rw [if_neg hok]
    refine (run_bad c t f r tag ac code.length cc aa args.length na p G fs w h hok).mono ?_
    rintro e w' ⟨he, hc⟩
    exact ⟨none, 0, none, 0, none, 0, he, World.ownsRow_nil _ _ _ _, World.ownsRow_nil _ _ _ _, World.ownsRow_nil _ _ _ _, h.chg hc (fun _ _ h => h), hc.mono (fun _ _ h => h.elim)⟩
theorem rrun_any (c t f r tag : Int) (ac : Option Addr) (cc : Nat) (code : List Ins) (aa : Option Addr) (na : Nat) (args : List Nat) (C : Nat → Prop) (sg cs base : Nat) (fs : List Nat) (w : World)
    (hC : ∀ k, C k → k < w.heap.size ∧ k ≠ sg) (hcode : RRow w C (.slice ac code.length cc) code.length 3 (insV code)) (ha : Sees w aa (args.map fl)) (hx : ∀ i ∈ code, i.2.2 < 18446744073709551616) (hax : ∀ y ∈ args, y < 18446744073709551616) (hfx : ∀ y ∈ fs, y < 18446744073709551616)
    (hrow : w.ownsRow base 33 1 (.slice (some ⟨sg, 0, none⟩) fs.length cs) fs.length (fs.map fl)) (v : RV) (hv : v = runV c t f r tag code args fs) :
    Calls Tryz.prog 41 #[.agg #[.int .i64 c, .int .i64 t, .int .i64 f, .int .i64 r], .agg #[.int .i64 tag, .slice ac code.length cc], .slice aa args.length na, .slice (some ⟨sg, 0, none⟩) fs.length cs] w fun e w' => ∃ ao co ar cr aw cw,
      e = .returned (.tuple #[.agg (resA v.how (ao, v.out.length, co) (ar, v.reads.length, cr) (aw, v.buf.length, cw) (v.used : Int)), .int .i64 v.err]) ∧
      SeesB w' (fun b => (C b ∨ w.heap.size ≤ b) ∧ b ≠ sg) ao (v.out.map fl) ∧ SeesB w' (fun b => (C b ∨ w.heap.size ≤ b) ∧ b ≠ sg) ar (tchV v.reads) ∧ SeesB w' (fun b => (C b ∨ w.heap.size ≤ b) ∧ b ≠ sg) aw (tchV v.buf) ∧
      w'.ownsRow base 33 1 (.slice (some ⟨sg, 0, none⟩) fs.length cs) fs.length (v.fs.map fl) ∧ Chg w w' (fun k => k = sg) := by
  subst hv
  unfold runV
  by_cases hok : RunOk c t f r args.length fs.length
  · rw [if_pos hok]
    refine (rrun_good c t f r tag ac cc code aa na args C sg cs base fs w hok hC hcode ha hx hax hfx hrow).mono ?_
    rintro e w' ⟨s, ao, co, ar, cr, aw, cw, rfl, he, h1, h2, h3, h4, h5⟩
    exact ⟨ao, co, ar, cr, aw, cw, he, h1, h2, h3, h4, h5⟩
  · rw [if_neg hok]
    refine (rrun_bad c t f r tag ac code.length cc aa args.length na (some ⟨sg, 0, none⟩) fs.length cs w hok).mono ?_
    rintro e w' ⟨he, hc⟩
    exact ⟨none, 0, none, 0, none, 0, he, .inl rfl, .inl rfl, .inl rfl, ownsRow_heap hrow (fun k hk => hc.block k (hrow.lt k hk).2 id), hc.mono (fun _ _ h => h.elim)⟩
end Go.Proofs.YthgllaomafhdkaaGreat
