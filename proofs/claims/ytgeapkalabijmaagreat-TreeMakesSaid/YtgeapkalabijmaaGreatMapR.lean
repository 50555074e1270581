/- Maps keyed by an int, with the entries' stamps: ranging over one. -/
import Derived.Test.YtgeapkalabijmaaGreatK1
import Derived.Maps.RangeWalk
namespace Go.Proofs.YtgeapkalabijmaaGreat
open Go Go.RowKit
set_option maxRecDepth 100000
set_option maxHeartbeats 1000000
set_option linter.unusedVariables false
set_option linter.unusedSimpArgs false

/-- The stamps: each below the map's clock, no two alike. -/
def StampOk (es : Array MapEntry) (clock : Nat) : Prop := (∀ x ∈ es.toList, x.born < clock) ∧ (es.toList.map (·.born)).Nodup
/-- Block b is a map that holds these, in this order, its stamps in order. -/
def MapS (w : World) (b : Nat) (l : List (Int × Value)) : Prop := ∃ es clock, w.heap[b]? = some (.map es clock) ∧ es.toList.map (fun e => (e.key, e.val)) = l.map (fun t => (Value.int .i64 t.1, t.2)) ∧ StampOk es clock

section
variable {P : Program} {w : World} {b : Nat} {l : List (Int × Value)} {K E T : TypeId} {k : Int} {i : Nat}

theorem MapS.toI (h : MapS w b l) : MapI w b l := by obtain ⟨es, clock, h1, h2, _⟩ := h; exact ⟨es, clock, h1, h2⟩
theorem MapS.made (w : World) : MapS (w.alloc (.map #[] 0)) w.heap.size [] := ⟨#[], 0, heap_alloc_new w _, rfl, by simp, by simp⟩
theorem MapS.frame {w' : World} (h : MapS w b l) (hb : w'.heap[b]? = w.heap[b]?) : MapS w' b l := by
  obtain ⟨es, clock, h1, h2, h3⟩ := h
  exact ⟨es, clock, hb.trans h1, h2, h3⟩
theorem MapS.lt (h : MapS w b l) : b < w.heap.size := h.toI.lt

theorem MapS.put_kn (h : MapS w b l) (ht : P.underlying T = some (.map K E)) (hk : P.underlying K = some (.int .i64)) (hn : Kn l k i) (v : Value) :
    ∃ w', (Instr.mapUpdate T (.map (some b)) (.int .i64 k) v).run P w = .ok () w' ∧ MapS w' b (l.set i (k, v)) ∧ Chg w w' (fun j => j = b) := by
  obtain ⟨es, clock, hb, he, hst⟩ := h
  obtain ⟨⟨y, hy⟩, _⟩ := id hn
  have h1 : (Instr.findKey K (.int .i64 k) es.toList).run P w = .ok (some (i, y)) w := MapKept.run_findKey hk (by rw [findNow_kn 0 he hn, hy]; simp)
  have hi : (es.toList.map (fun e => (e.key, e.val)))[i]? = some (.int .i64 k, y) := by rw [he]; simp [hy]
  rw [List.getElem?_map, Option.map_eq_some_iff] at hi
  obtain ⟨e0, he0, hee⟩ := hi
  simp at hee
  have he1 : es[i]? = some e0 := by simpa using he0
  refine ⟨_, by simp [Instr.mapUpdate, run_underlying ht, MapKept.run_getObj_map hb, run_keyInt hk, h1, he1, hee.1, run_staysInt, MapKept.run_setObj_map _ hb, Result.andThen]; rfl, ⟨_, clock, (MapKept.heap_set hb).1, ?_, ?_⟩, chg_set hb⟩
  · rw [Array.toList_modify, ChangeMaps.modify_eq_set _ _ _ _ he0, List.map_set, List.map_set, he]
  · have e1 : (es.modify i fun e => { e with key := Value.int .i64 k, val := v }).toList.map (·.born) = es.toList.map (·.born) := by
      rw [Array.toList_modify, ChangeMaps.modify_eq_set _ _ _ _ he0, List.map_set]
      refine List.ext_getElem? fun j => ?_
      by_cases hj : i = j
      · subst hj
        have h2 := (List.getElem?_eq_some_iff.1 he0)
        obtain ⟨h3, h4⟩ := h2
        rw [List.getElem?_set_self (by simpa using h3), List.getElem?_map, he0]
        rfl
      · rw [List.getElem?_set_ne hj]
    refine ⟨fun x hx => ?_, by rw [e1]; exact hst.2⟩
    have : x.born ∈ es.toList.map (·.born) := by rw [← e1]; exact List.mem_map.2 ⟨x, hx, rfl⟩
    obtain ⟨y, hy, e2⟩ := List.mem_map.1 this
    rw [← e2]
    exact hst.1 y hy

theorem MapS.put_un (h : MapS w b l) (ht : P.underlying T = some (.map K E)) (hk : P.underlying K = some (.int .i64)) (hn : Un l k) (v : Value) :
    ∃ w', (Instr.mapUpdate T (.map (some b)) (.int .i64 k) v).run P w = .ok () w' ∧ MapS w' b (l ++ [(k, v)]) ∧ Chg w w' (fun j => j = b) := by
  obtain ⟨es, clock, hb, he, hst⟩ := h
  have h1 : (Instr.findKey K (.int .i64 k) es.toList).run P w = .ok none w := MapKept.run_findKey hk (findNow_un 0 he hn)
  refine ⟨_, by simp [Instr.mapUpdate, run_underlying ht, MapKept.run_getObj_map hb, run_keyInt hk, h1, MapKept.run_setObj_map _ hb, Result.andThen]; rfl, ⟨_, clock + 1, (MapKept.heap_set hb).1, ?_, ?_⟩, chg_set hb⟩
  · rw [Array.toList_push, List.map_append, List.map_append, he]
    rfl
  · refine ⟨fun x hx => ?_, ?_⟩
    · rw [Array.toList_push] at hx
      rcases List.mem_append.1 hx with hx | hx
      · have := hst.1 x hx; omega
      · simp at hx; subst hx; exact Nat.lt_succ_self _
    · rw [Array.toList_push, List.map_append, List.nodup_append]
      refine ⟨hst.2, by simp, ?_⟩
      intro x hx y hy e
      simp at hy
      obtain ⟨z, hz, rfl⟩ := List.mem_map.1 hx
      have := hst.1 z hz
      omega

/-- 'for k, v := range m' under way, nothing being written to m: Good holds of all that has come. -/
def Rng (w : World) (b r : Nat) (l : List (Int × Value)) (Good : Int → Value → Prop) : Prop :=
  ∃ es clock seen, w.heap[b]? = some (.map es clock) ∧ es.toList.map (fun e => (e.key, e.val)) = l.map (fun t => (Value.int .i64 t.1, t.2)) ∧ StampOk es clock ∧ w.heap[r]? = some (.mapIter (some b) clock seen clock) ∧
    (∀ x ∈ es.toList, seen.contains x.born = true → ∃ k, x.key = .int .i64 k ∧ Good k x.val)

theorem entries_mem {es : Array MapEntry} (he : es.toList.map (fun e => (e.key, e.val)) = l.map (fun t => (Value.int .i64 t.1, t.2))) : (∀ x ∈ es.toList, ∃ t ∈ l, x.key = .int .i64 t.1 ∧ x.val = t.2) ∧ (∀ t ∈ l, ∃ x ∈ es.toList, x.key = .int .i64 t.1 ∧ x.val = t.2) := by
  constructor
  · intro x hx
    have : (x.key, x.val) ∈ es.toList.map (fun e => (e.key, e.val)) := List.mem_map.2 ⟨x, hx, rfl⟩
    rw [he] at this
    obtain ⟨t, ht, e⟩ := List.mem_map.1 this
    simp at e
    exact ⟨t, ht, e.1.symm, e.2.symm⟩
  · intro t ht
    have : (Value.int .i64 t.1, t.2) ∈ l.map (fun t => (Value.int .i64 t.1, t.2)) := List.mem_map.2 ⟨t, ht, rfl⟩
    rw [← he] at this
    obtain ⟨x, hx, e⟩ := List.mem_map.1 this
    simp at e
    exact ⟨x, hx, e.1, e.2⟩

theorem Rng.lt {r : Nat} {Good : Int → Value → Prop} (h : Rng w b r l Good) : r < w.heap.size ∧ b < w.heap.size ∧ r ≠ b := by
  obtain ⟨es, clock, seen, h1, h2, h3, h4, h5⟩ := h
  refine ⟨blk_lt h4, blk_lt h1, ?_⟩
  rintro rfl
  rw [h1] at h4
  simp at h4

/-- 'range m', at the operation. -/
theorem wpList_range_good {ops : Array Oper} {rest : List Oper} {o : Oper} {a : Act} {Q : Exit → Act → World → Prop} (hg : o.guard = none) (m : Operand) (t : TypeId) (hop : o.op = Op.range t m) (ht : P.underlying t = some (.map K E))
    (hm : a.eval m = .map (some b)) (h : MapS w b l) (Good : Int → Value → Prop)
    (hK : ∀ w', w'.heap.size = w.heap.size + 1 → Rng w' b w.heap.size l Good → Chg w w' Nothing → wpList P ops Q rest (a.put o.dst (.pointer (some ⟨w.heap.size, 0, none⟩))) w') :
    wpList P ops Q (o :: rest) a w := by
  refine wpList_plain hg fun K' hK' => ?_
  obtain ⟨es, clock, hb, he, hst⟩ := h
  have hrun := run_range_map (P := P) w t K E b es clock ht hb
  unfold Oper.wp
  simp [execOp, hop, hm, hrun, Result.andThen]
  refine hK' _ _ (hK _ (by simp) ⟨es, clock, #[], ?_, he, hst, heap_alloc_new w _, fun x hx hc => by simp at hc⟩ ((Chg.refl _ _).alloc _))
  exact blk_alloc hb _

/-- .. and its step. -/
theorem wpList_next_good {ops : Array Oper} {rest : List Oper} {o : Oper} {a : Act} {Q : Exit → Act → World → Prop} (hg : o.guard = none) (it : Operand) (hop : o.op = Op.next it false) (r : Nat) (Good : Int → Value → Prop)
    (hit : a.eval it = .pointer (some ⟨r, 0, none⟩)) (h : Rng w b r l Good)
    (hDone : (∀ t ∈ l, Good t.1 t.2) → wpList P ops Q rest (a.put o.dst (.tuple #[.bool false])) w)
    (hMore : ∀ t ∈ l, ∀ w', (Good t.1 t.2 → Rng w' b r l Good) → w'.rangeLeft b r < w.rangeLeft b r → Chg w w' (fun j => j = r) → w'.heap.size = w.heap.size → (Instr.entry (.pointer (some ⟨r, 0, none⟩))).run P w' = .ok (.tuple #[.int .i64 t.1, t.2]) w' →
      wpList P ops Q rest (a.put o.dst (.tuple #[.bool true, .int .i64 t.1, t.2])) w') : wpList P ops Q (o :: rest) a w := by
  have hne := h.lt.2.2
  refine wpList_plain hg fun K' hK' => ?_
  obtain ⟨es, clock, seen, hb, he, hst, hr, hgood⟩ := h
  have hmem := entries_mem he
  unfold Oper.wp
  rcases run_next_at (P := P) w o.type r b clock clock seen es clock hr hb hst.1 (Nat.le_refl _) with ⟨h0, hrun⟩ | ⟨e, hel, w1, hal, hrun⟩
  · simp [execOp, hop, hit, hrun, Result.andThen]
    refine hK' _ _ (hDone fun t ht => ?_)
    obtain ⟨x, hx, e1, e2⟩ := hmem.2 t ht
    obtain ⟨k, e3, hk⟩ := hgood x hx (all_seen es seen h0 x hx)
    rw [e1] at e3
    cases e3
    rw [← e2]
    exact hk
  · obtain ⟨hem, hes⟩ := mem_left hel
    obtain ⟨t, ht, e1, e2⟩ := hmem.1 e hem
    have hr1 : w1.heap[r]? = some (.mapIter (some b) clock seen clock) := by rcases hal with rfl | rfl <;> exact hr
    have hb1 : w1.heap[b]? = some (.map es clock) := by rcases hal with rfl | rfl <;> exact hb
    have hset := MapKept.heap_set (o' := .mapIter (some b) clock (seen.push e.born) clock) hr1
    have hb' : (ChangeMaps.setBlock w1 r (.mapIter (some b) clock (seen.push e.born) clock)).heap[b]? = some (.map es clock) := (hset.2 b (fun e1 => hne e1.symm)).trans hb1
    have hen := run_entry_at (P := P) _ r b clock seen es clock e hset.1 hb' hem hst.2
    rw [e1, e2] at hrun hen
    simp [execOp, hop, hit, hrun, Result.andThen]
    refine hK' _ _ (hMore t ht _ (fun hG => ⟨es, clock, seen.push e.born, hb', he, hst, hset.1, fun x hx hc => ?_⟩) ?_ ?_ ?_ hen)
    · rw [contains_push] at hc
      simp only [Bool.or_eq_true, beq_iff_eq] at hc
      rcases hc with hc | hc
      · exact hgood x hx hc
      · have hxe : x = e := born_inj hst.2 hx hem (by first | exact hc | exact hc.symm)
        subst hxe
        exact ⟨t.1, e1, by rw [e2]; exact hG⟩
    · have h2 : (ChangeMaps.setBlock w1 r (.mapIter (some b) clock (seen.push e.born) clock)).heap[r]? = some (.mapIter (some b) clock (seen.push e.born) clock) := hset.1
      unfold World.rangeLeft
      rw [hb', h2, hb, hr]
      exact left_shrinks es seen e hel
    · rcases hal with rfl | rfl
      · exact ⟨rfl, rfl, rfl, by simp [ChangeMaps.setBlock], fun i _ hi => hset.2 i hi⟩
      · exact ⟨rfl, rfl, rfl, by simp [ChangeMaps.setBlock], fun i _ hi => hset.2 i hi⟩
    · rcases hal with rfl | rfl <;> simp [ChangeMaps.setBlock]
end
end Go.Proofs.YtgeapkalabijmaaGreat
