/- Maps keyed by an int: what they are in memory, and their operations' laws. -/
import Derived.Test.YtjjkjcoebbjgcaaBase
import Derived.Maps.Keyed
import Derived.MapKept
import Derived.Carry
namespace Go.Proofs.Ytjjkjcoebbjgcaa
open Go Go.RowKit
set_option maxRecDepth 100000
set_option maxHeartbeats 1000000
set_option linter.unusedVariables false
set_option linter.unusedSimpArgs false

/-- Block b is a map that holds these, in this order. -/
def MapI (w : World) (b : Nat) (l : List (Int × Value)) : Prop := ∃ es clock, w.heap[b]? = some (.map es clock) ∧ es.toList.map (fun e => (e.key, e.val)) = l.map (fun t => (Value.int .i64 t.1, t.2))

section
variable {α : Type}
/-- Key k stands first at i. -/
def Kn (l : List (Int × α)) (k : Int) (i : Nat) : Prop := (∃ y, l[i]? = some (k, y)) ∧ ∀ j, j < i → ∀ t, l[j]? = some t → t.1 ≠ k
def Un (l : List (Int × α)) (k : Int) : Prop := ∀ t ∈ l, t.1 ≠ k
def pos (l : List (Int × α)) (k : Int) : Option Nat := l.findIdx? (fun t => t.1 == k)

theorem pos_cons (t : Int × α) (l : List (Int × α)) (k : Int) : pos (t :: l) k = if t.1 == k then some 0 else (pos l k).map (· + 1) := by
  simp only [pos, List.findIdx?_cons]
theorem Kn.of_pos : ∀ {l : List (Int × α)} {k : Int} {i : Nat}, pos l k = some i → Kn l k i
  | [], k, i, h => by simp [pos] at h
  | t :: l, k, i, h => by
    rw [pos_cons] at h
    by_cases e : t.1 == k
    · rw [if_pos e] at h
      cases h
      exact ⟨⟨t.2, by simp at e; simp [← e]⟩, fun j hj => absurd hj (Nat.not_lt_zero _)⟩
    · rw [if_neg e] at h
      rw [Option.map_eq_some_iff] at h
      obtain ⟨j, hj, rfl⟩ := h
      obtain ⟨⟨y, hy⟩, h2⟩ := Kn.of_pos hj
      refine ⟨⟨y, by simpa using hy⟩, fun m hm u hu => ?_⟩
      cases m with
      | zero => simp at hu; subst hu; simpa using e
      | succ m => exact h2 m (by omega) u (by simpa using hu)
theorem Un.of_pos {l : List (Int × α)} {k : Int} (h : pos l k = none) : Un l k := by
  intro t ht e
  simp [pos, List.findIdx?_eq_none_iff] at h
  exact h t.1 t.2 ht e
theorem Un.pos {l : List (Int × α)} {k : Int} (h : Un l k) : pos l k = none := by
  simp [Go.Proofs.Ytjjkjcoebbjgcaa.pos, List.findIdx?_eq_none_iff]
  intro a b hm e
  exact h _ hm e
theorem Kn.tail {t : Int × α} {l : List (Int × α)} {k : Int} {i : Nat} (h : Kn (t :: l) k (i + 1)) : t.1 ≠ k ∧ Kn l k i := by
  obtain ⟨⟨y, hy⟩, h2⟩ := h
  exact ⟨h2 0 (by omega) t rfl, ⟨y, by simpa using hy⟩, fun j hj u hu => h2 (j + 1) (by omega) u (by simpa using hu)⟩
theorem Kn.pos : ∀ {l : List (Int × α)} {k : Int} {i : Nat}, Kn l k i → pos l k = some i
  | [], k, i, h => by obtain ⟨⟨y, hy⟩, _⟩ := h; simp at hy
  | t :: l, k, 0, h => by
    obtain ⟨⟨y, hy⟩, _⟩ := h
    simp at hy; subst hy
    rw [pos_cons]; simp
  | t :: l, k, i + 1, h => by
    obtain ⟨h1, h2⟩ := h.tail
    rw [pos_cons, if_neg (by simpa using h1), h2.pos]; rfl
theorem Kn.lt {l : List (Int × α)} {k : Int} {i : Nat} (h : Kn l k i) : i < l.length := by
  obtain ⟨⟨y, hy⟩, _⟩ := h
  exact (List.getElem?_eq_some_iff.1 hy).1
variable {β : Type}
theorem pos_map (f : α → β) : ∀ (l : List (Int × α)) (k : Int), pos (l.map fun t => (t.1, f t.2)) k = pos l k
  | [], k => rfl
  | t :: l, k => by rw [List.map_cons, pos_cons, pos_cons, pos_map f l k]
/-- Of distinct keys each stands first where it stands. -/
theorem Kn.of_nodup {l : List (Int × α)} (hn : (l.map (·.1)).Nodup) {i : Nat} {t : Int × α} (h : l[i]? = some t) : Kn l t.1 i := by
  refine ⟨⟨t.2, h⟩, fun j hj u hu e => ?_⟩
  have hi := (List.getElem?_eq_some_iff.1 h)
  have hj' := (List.getElem?_eq_some_iff.1 hu)
  obtain ⟨h1, h2⟩ := hi
  obtain ⟨h3, h4⟩ := hj'
  exact (List.pairwise_iff_getElem.1 hn) j i (by simpa using h3) (by simpa using h1) hj (by simp [h2, h4, e])
end

section
variable {P : Program} {w : World} {b : Nat} {l : List (Int × Value)} {K E T : TypeId} {k : Int} {i : Nat}

theorem findNow_kn : ∀ {es : List MapEntry} {l : List (Int × Value)} {k : Int} {i : Nat} (n : Nat), es.map (fun e => (e.key, e.val)) = l.map (fun t => (Value.int .i64 t.1, t.2)) → Kn l k i → Instr.findNow (.int .i64) (.int .i64 k) es n = some ((l[i]?).map fun t => (n + i, t.2))
  | [], [], k, i, n, _, h => by obtain ⟨⟨y, hy⟩, _⟩ := h; simp at hy
  | [], _ :: _, _, _, _, h, _ => by simp at h
  | _ :: _, [], _, _, _, h, _ => by simp at h
  | e :: es, t :: l, k, 0, n, he, h => by
    obtain ⟨⟨y, hy⟩, _⟩ := h
    simp at hy; subst hy
    simp at he
    simp [Instr.findNow, he.1.1, he.1.2, Instr.sameNow]
  | e :: es, t :: l, k, i + 1, n, he, h => by
    obtain ⟨h1, h2⟩ := h.tail
    simp only [List.map_cons, List.cons.injEq, Prod.mk.injEq] at he
    have := findNow_kn (n + 1) he.2 h2
    simp [Instr.findNow, he.1.1, he.1.2, Instr.sameNow, this, show (k == t.1) = false from by simpa using fun e => h1 e.symm]
    have hi := h2.lt
    simp [hi]
    omega

theorem findNow_un : ∀ {es : List MapEntry} {l : List (Int × Value)} {k : Int} (n : Nat), es.map (fun e => (e.key, e.val)) = l.map (fun t => (Value.int .i64 t.1, t.2)) → Un l k → Instr.findNow (.int .i64) (.int .i64 k) es n = some none
  | [], [], k, n, _, h => rfl
  | [], _ :: _, _, _, h, _ => by simp at h
  | _ :: _, [], _, _, h, _ => by simp at h
  | e :: es, t :: l, k, n, he, h => by
    simp only [List.map_cons, List.cons.injEq, Prod.mk.injEq] at he
    have := findNow_un (n + 1) he.2 (fun u hu => h u (by simp [hu]))
    simp [Instr.findNow, he.1.1, he.1.2, Instr.sameNow, this, show (k == t.1) = false from by simpa using fun e => h t (by simp) e.symm]

theorem run_keyInt (hk : P.underlying K = some (.int .i64)) (e : Bool) : (Instr.checkKey e 10000 K (.int .i64 k)).run P w = .ok () w := MapKept.run_checkKey (k := .int .i64 k) hk (by simp [MapKept.IsKey]) e 9999
theorem run_staysInt : (Instr.keyThatStays (.int .i64 k) (.int .i64 k)).run P w = .ok (.int .i64 k) w := by simp [Instr.keyThatStays, Instr.sameBits]

theorem MapI.look_kn (h : MapI w b l) (ht : P.underlying T = some (.map K E)) (hk : P.underlying K = some (.int .i64)) (hn : Kn l k i) (ok : Bool) {v : Value} (hv : l[i]? = some (k, v)) :
    (Instr.lookup T (.map (some b)) (.int .i64 k) ok).run P w = .ok (if ok then .tuple #[v, .bool true] else v) w := by
  obtain ⟨es, clock, hb, he⟩ := h
  have h1 : (Instr.findKey K (.int .i64 k) es.toList).run P w = .ok (some (i, v)) w := MapKept.run_findKey hk (by rw [findNow_kn 0 he hn, hv]; simp)
  simp [Instr.lookup, run_underlying ht, MapKept.run_getObj_map hb, run_keyInt hk, h1, Result.andThen]

theorem MapI.look_un (h : MapI w b l) (ht : P.underlying T = some (.map K E)) (hk : P.underlying K = some (.int .i64)) (hn : Un l k) (ok : Bool) {z : Value} (hz : (zeroValue E).run P w = .ok z w) :
    (Instr.lookup T (.map (some b)) (.int .i64 k) ok).run P w = .ok (if ok then .tuple #[z, .bool false] else z) w := by
  obtain ⟨es, clock, hb, he⟩ := h
  have h1 : (Instr.findKey K (.int .i64 k) es.toList).run P w = .ok none w := MapKept.run_findKey hk (findNow_un 0 he hn)
  simp [Instr.lookup, run_underlying ht, MapKept.run_getObj_map hb, run_keyInt hk, h1, hz, Result.andThen]

theorem chg_set {o o' : Obj} (hb : w.heap[b]? = some o) : Chg w { w with heap := w.heap.setIfInBounds b o' } (fun k => k = b) :=
  ⟨rfl, rfl, rfl, by simp, fun k hk hne => (MapKept.heap_set hb).2 k hne⟩

theorem MapI.put_kn (h : MapI w b l) (ht : P.underlying T = some (.map K E)) (hk : P.underlying K = some (.int .i64)) (hn : Kn l k i) (v : Value) :
    ∃ w', (Instr.mapUpdate T (.map (some b)) (.int .i64 k) v).run P w = .ok () w' ∧ MapI w' b (l.set i (k, v)) ∧ Chg w w' (fun j => j = b) := by
  obtain ⟨es, clock, hb, he⟩ := h
  obtain ⟨⟨y, hy⟩, _⟩ := id hn
  have h1 : (Instr.findKey K (.int .i64 k) es.toList).run P w = .ok (some (i, y)) w := MapKept.run_findKey hk (by rw [findNow_kn 0 he hn, hy]; simp)
  have hi : (es.toList.map (fun e => (e.key, e.val)))[i]? = some (.int .i64 k, y) := by rw [he]; simp [hy]
  rw [List.getElem?_map, Option.map_eq_some_iff] at hi
  obtain ⟨e0, he0, hee⟩ := hi
  simp at hee
  have he1 : es[i]? = some e0 := by simpa using he0
  refine ⟨_, by simp [Instr.mapUpdate, run_underlying ht, MapKept.run_getObj_map hb, run_keyInt hk, h1, he1, hee.1, run_staysInt, MapKept.run_setObj_map _ hb, Result.andThen]; rfl, ⟨_, clock, (MapKept.heap_set hb).1, ?_⟩, chg_set hb⟩
  rw [Array.toList_modify, ChangeMaps.modify_eq_set _ _ _ _ he0, List.map_set, List.map_set, he]

theorem MapI.put_un (h : MapI w b l) (ht : P.underlying T = some (.map K E)) (hk : P.underlying K = some (.int .i64)) (hn : Un l k) (v : Value) :
    ∃ w', (Instr.mapUpdate T (.map (some b)) (.int .i64 k) v).run P w = .ok () w' ∧ MapI w' b (l ++ [(k, v)]) ∧ Chg w w' (fun j => j = b) := by
  obtain ⟨es, clock, hb, he⟩ := h
  have h1 : (Instr.findKey K (.int .i64 k) es.toList).run P w = .ok none w := MapKept.run_findKey hk (findNow_un 0 he hn)
  refine ⟨_, by simp [Instr.mapUpdate, run_underlying ht, MapKept.run_getObj_map hb, run_keyInt hk, h1, MapKept.run_setObj_map _ hb, Result.andThen]; rfl, ⟨_, clock + 1, (MapKept.heap_set hb).1, ?_⟩, chg_set hb⟩
  rw [Array.toList_push, List.map_append, List.map_append, he]
  rfl

theorem MapI.clear (h : MapI w b l) (ht : P.underlying T = some (.map K E)) (R : TypeId) :
    ∃ w', (Builtin.clear_ #[T] R #[.map (some b)]).run P w = .ok (.tuple #[]) w' ∧ MapI w' b [] ∧ Chg w w' (fun j => j = b) := by
  obtain ⟨es, clock, hb, he⟩ := h
  refine ⟨_, by simp [Builtin.clear_, run_underlying ht, MapKept.run_getObj_map hb, MapKept.run_setObj_map _ hb, Result.andThen], ⟨#[], clock, (MapKept.heap_set hb).1, rfl⟩, chg_set hb⟩

theorem MapI.made (w : World) : MapI (w.alloc (.map #[] 0)) w.heap.size [] := ⟨#[], 0, heap_alloc_new w _, rfl⟩
theorem MapI.frame {w' : World} (h : MapI w b l) (hb : w'.heap[b]? = w.heap[b]?) : MapI w' b l := by
  obtain ⟨es, clock, h1, he⟩ := h
  exact ⟨es, clock, hb.trans h1, he⟩
theorem MapI.lt (h : MapI w b l) : b < w.heap.size := by
  obtain ⟨es, clock, h1, he⟩ := h
  exact blk_lt h1

/-- A map held against nil; a map out of an interface; the model's own clone. -/
theorem run_map_nil0 (d : Nat) (p : Option Nat) (ht : P.underlying T = some (.map K E)) : (Op.equalIn (d + 1) T (.map p) (.map none)).run P w = .ok p.isNone w := by
  cases p <;> simp [Op.equalIn, run_underlying ht]
theorem run_map_nil (p : Option Nat) (ht : P.underlying T = some (.map K E)) : (binOp .eql T (.map p) (.map none)).run P w = .ok (.bool p.isNone) w := by
  simp only [binOp]
  have h : (Op.equal T (.map p) (.map none)).run P w = .ok p.isNone w := by
    exact run_map_nil0 9999 p ht
  simp [h]
theorem run_map_assert (X : TypeId) (v : Value) (ht : P.underlying T = some (.map K E)) : (Instr.typeAssert (.iface T v) X T false).run P w = .ok v w := by
  simp [Instr.typeAssert, run_underlying ht, go_sem, Result.andThen]
theorem MapI.cloned (h : MapI w b l) : ∃ w', (Extern.MapsClone.clone #[.iface T (.map (some b))]).run P w = .ok (.iface T (.map (some w.heap.size))) w' ∧ MapI w' w.heap.size l ∧ w'.heap.size = w.heap.size + 1 ∧ Chg w w' Nothing := by
  obtain ⟨es, clock, hb, he⟩ := h
  refine ⟨w.alloc (.map es clock), ?_, ⟨es, clock, heap_alloc_new w _, he⟩, by simp, (Chg.refl _ _).alloc _⟩
  have e : Extern.MapsClone.clone #[.iface T (.map (some b))] = (getObj b >>= fun o => match o with
      | .map entries clock => (newObj (.map entries clock) >>= fun n => pure (.iface T (.map (some n))))
      | _ => stuck "maps.clone: a map expected") := rfl
  rw [e]
  simp [MapKept.run_getObj_map hb, Result.andThen, go_sem]
end
end Go.Proofs.Ytjjkjcoebbjgcaa
