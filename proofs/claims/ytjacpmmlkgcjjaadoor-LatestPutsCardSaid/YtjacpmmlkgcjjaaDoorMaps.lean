/- Maps as lists of their entries, over whatever program: what a map's block holds, and what look-up, store, length and range come to. -/
import Derived.Test.YtjacpmmlkgcjjaaDoorProg
import Derived.Maps.RangeWalk
import Derived.WalkKit
namespace Go.Proofs.YtjacpmmlkgcjjaaDoor.Given
open Go.RowKit Go.ChangeMaps Go.MapKept
open Go.Maps (Keyed)
def kvOf (e : MapEntry) : Value × Value := (e.key, e.val)
def MapAt (P : Program) (k : TypeId) (w : World) (b : Nat) (l : List (Value × Value)) : Prop :=
  ∃ es clock, w.heap[b]? = some (.map es clock) ∧ es.toList.map kvOf = l ∧ Stamped es clock ∧ ∀ e ∈ es.toList, ∃ lit, keyOf P k e.key = some lit
def PutKV (l : List (Value × Value)) (x v : Value) (l' : List (Value × Value)) : Prop :=
  ((∀ p ∈ l, p.1 ≠ x) ∧ l' = l ++ [(x, v)]) ∨ ∃ l1 u l2, l = l1 ++ (x, u) :: l2 ∧ l' = l1 ++ (x, v) :: l2
theorem nodup_inj {α : Type} {l : List α} (h : l.Nodup) {i j : Nat} (hi : i < l.length) (hj : j < l.length) (e : l[i] = l[j]) : i = j := by
  rcases Nat.lt_trichotomy i j with h1 | h1 | h1
  · exact absurd e (List.pairwise_iff_getElem.1 h i j hi hj h1)
  · exact h1
  · exact absurd e.symm (List.pairwise_iff_getElem.1 h j i hj hi h1)
section
variable {P : Program} {k t e : TypeId} {w w' : World} {b : Nat} {l : List (Value × Value)} {x v z : Value} {kl : Lit}
theorem MapAt.lt (h : MapAt P k w b l) : b < w.heap.size := by
  obtain ⟨es, clock, hb, _⟩ := h
  exact (Array.getElem?_eq_some_iff.1 hb).1
theorem MapAt.same (h : MapAt P k w b l) (hb : w'.heap[b]? = w.heap[b]?) : MapAt P k w' b l := by
  obtain ⟨es, clock, h1, h2⟩ := h
  exact ⟨es, clock, hb.trans h1, h2⟩
theorem MapAt.made (w : World) : MapAt P k (w.alloc (.map #[] 0)) w.heap.size [] :=
  ⟨#[], 0, (MapKept.heap_alloc w _).1, rfl, stamped_empty 0, by simp⟩
theorem MapAt.nodup (h : MapAt P k w b l) : (l.map (·.1)).Nodup := by
  obtain ⟨es, clock, _, rfl, hs, _⟩ := h
  have := hs.2.2
  simpa [List.map_map, Function.comp_def, kvOf] using this
theorem MapAt.look (h : MapAt P k w b l) (K : Keyed P k) (ht : P.underlying t = some (.map k e)) (hz : ∀ w, (zeroValue e).run P w = .ok z w) (hkey : keyOf P k x = some kl) :
    ((∀ p ∈ l, p.1 ≠ x) ∧ ∀ y : World, y.heap[b]? = w.heap[b]? → ∀ c, (Instr.lookup t (.map (some b)) x c).run P y = .ok (if c then .tuple #[z, .bool false] else z) y) ∨
    ∃ v, (x, v) ∈ l ∧ ∀ y : World, y.heap[b]? = w.heap[b]? → ∀ c, (Instr.lookup t (.map (some b)) x c).run P y = .ok (if c then .tuple #[v, .bool true] else v) y := by
  obtain ⟨es, clock, hb, rfl, hs, hk⟩ := h
  rcases K.find w hkey es.toList hk with ⟨h1, h2⟩ | ⟨j, e0, h1, h2, h3⟩
  · left
    refine ⟨fun p hp => ?_, fun y hy c => ?_⟩
    · obtain ⟨e0, he, rfl⟩ := List.mem_map.1 hp
      exact h2 e0 he
    · rcases K.find y hkey es.toList hk with ⟨h1', _⟩ | ⟨j', e0', _, h2', h3'⟩
      · have hb' := hy.trans hb
        simp [Instr.lookup, run_underlying ht, MapKept.run_getObj_map hb', K.check y _ hkey, h1', hz, Result.andThen]
      · exact absurd h3' (h2 e0' (List.mem_of_getElem? h2'))
  · right
    refine ⟨e0.val, List.mem_map.2 ⟨e0, List.mem_of_getElem? h2, by rw [← h3]; rfl⟩, fun y hy c => ?_⟩
    have hb' := hy.trans hb
    rcases K.find y hkey es.toList hk with ⟨_, h2'⟩ | ⟨j', e0', h1', h2', h3'⟩
    · exact absurd h3 (h2' e0 (List.mem_of_getElem? h2))
    · have : e0' = e0 := by
        have hn := hs.2.2
        rw [List.Nodup, List.pairwise_map] at hn
        exact entry_eq_of_key hn (List.mem_of_getElem? h2') (List.mem_of_getElem? h2) (h3'.trans h3.symm)
      subst this
      simp [Instr.lookup, run_underlying ht, MapKept.run_getObj_map hb', K.check y _ hkey, h1', Result.andThen]
theorem heap_set {w : World} {b : Nat} {o : Obj} (h : b < w.heap.size) : (setBlock w b o).heap[b]? = some o := by
  simp [setBlock, h]
theorem heap_set_ne {w : World} {b i : Nat} {o : Obj} (h : i ≠ b) : (setBlock w b o).heap[i]? = w.heap[i]? := by
  simp [setBlock, Ne.symm h]
theorem MapAt.put (h : MapAt P k w b l) (K : Keyed P k) (ht : P.underlying t = some (.map k e)) (hkey : keyOf P k x = some kl) (v : Value) :
    ∃ o l', PutKV l x v l' ∧ ∀ y : World, y.heap[b]? = w.heap[b]? → (Instr.mapUpdate t (.map (some b)) x v).run P y = .ok () (setBlock y b o) ∧ MapAt P k (setBlock y b o) b l' := by
  obtain ⟨es, clock, hb, rfl, hs, hk⟩ := h
  rcases K.find w hkey es.toList hk with ⟨h1, h2⟩ | ⟨j, e0, h1, h2, h3⟩
  · refine ⟨.map (es.push ⟨x, v, clock⟩) (clock + 1), _, Or.inl ⟨fun p hp => ?_, rfl⟩, fun y hy => ?_⟩
    · obtain ⟨e0, he, rfl⟩ := List.mem_map.1 hp
      exact h2 e0 he
    · have hb' := hy.trans hb
      refine ⟨?_, es.push ⟨x, v, clock⟩, clock + 1, heap_set (Array.getElem?_eq_some_iff.1 hb').1, by simp [kvOf], stamped_push hs h2, fun e0 he => ?_⟩
      · rcases K.find y hkey es.toList hk with ⟨h1', _⟩ | ⟨j', e0', _, h2', h3'⟩
        · simp [Instr.mapUpdate, run_underlying ht, MapKept.run_getObj_map hb', K.check y false hkey, h1', MapKept.run_setObj_map _ hb', Result.andThen, setBlock]
        · exact absurd h3' (h2 e0' (List.mem_of_getElem? h2'))
      · simp only [Array.toList_push, List.mem_append, List.mem_singleton] at he
        rcases he with he | rfl
        · exact hk e0 he
        · exact ⟨kl, hkey⟩
  · have hj : es[j]? = some e0 := by simpa using h2
    have hjl : j < es.toList.length := (List.getElem?_eq_some_iff.1 h2).1
    have hlist : (es.modify j (fun e' => { e' with key := x, val := v })).toList = es.toList.set j { e0 with key := x, val := v } := by rw [Array.toList_modify, modify_eq_set _ _ _ _ h2]
    have he0 : es.toList[j] = e0 := (List.getElem?_eq_some_iff.1 h2).2
    refine ⟨.map (es.modify j (fun e' => { e' with key := x, val := v })) clock, _, Or.inr ⟨(es.toList.take j).map kvOf, e0.val, (es.toList.drop (j + 1)).map kvOf, ?_, rfl⟩, fun y hy => ?_⟩
    · have h4 := List.take_append_drop j es.toList
      conv => lhs; rw [← h4]
      rw [List.map_append, List.drop_eq_getElem_cons hjl, he0, List.map_cons]
      rw [show kvOf e0 = (x, e0.val) from by rw [← h3]; rfl]
    · have hb' := hy.trans hb
      refine ⟨?_, es.modify j (fun e' => { e' with key := x, val := v }), clock, heap_set (Array.getElem?_eq_some_iff.1 hb').1, ?_, stamped_modify hs _ _ (fun _ _ => rfl) (fun e' _ he' => by rw [hj] at he'; cases he'; exact h3.symm), ?_⟩
      · rcases K.find y hkey es.toList hk with ⟨_, h2'⟩ | ⟨j', e0', h1', h2', h3'⟩
        · exact absurd h3 (h2' e0 (List.mem_of_getElem? h2))
        · have hjj : j' = j := by
            have hn := hs.2.2
            have hjl' : j' < es.toList.length := (List.getElem?_eq_some_iff.1 h2').1
            have he0' : es.toList[j'] = e0' := (List.getElem?_eq_some_iff.1 h2').2
            have e1 : (es.toList.map (·.key))[j']'(by simpa using hjl') = (es.toList.map (·.key))[j]'(by simpa using hjl) := by
              rw [List.getElem_map, List.getElem_map, he0, he0', h3, h3']
            exact nodup_inj hn _ _ e1
          subst hjj
          have : e0' = e0 := by rw [h2] at h2'; cases h2'; rfl
          subst this
          simp [Instr.mapUpdate, run_underlying ht, MapKept.run_getObj_map hb', K.check y false hkey, h1', hj, h3, K.stays y hkey, MapKept.run_setObj_map _ hb', Result.andThen, setBlock]
      · rw [hlist, List.map_set, List.set_eq_take_append_cons_drop, if_pos (by simpa using hjl), List.map_take, List.map_drop]
        rfl
      · intro e1 he1
        rw [hlist] at he1
        rcases List.mem_or_eq_of_mem_set he1 with h5 | rfl
        · exact hk e1 h5
        · exact ⟨kl, hkey⟩
theorem MapAt.len (h : MapAt P k w b l) (ht : P.underlying t = some (.map k e)) (ty : TypeId) : ∀ y : World, y.heap[b]? = w.heap[b]? → (Builtin.len_ #[t] ty #[.map (some b)]).run P y = .ok (goInt l.length) y := by
  intro y hy
  obtain ⟨es, clock, hb, rfl, hs, hk⟩ := h
  have hb' := hy.trans hb
  simp [Builtin.len_, run_underlying ht, MapKept.run_getObj_map hb', Result.andThen]
def RangeAt (P : Program) (k : TypeId) (w : World) (b r : Nat) (l rest : List (Value × Value)) : Prop :=
  ∃ es clock since seen c0, w.heap[b]? = some (.map es clock) ∧ es.toList.map kvOf = l ∧ Stamped es clock ∧ (∀ e ∈ es.toList, ∃ lit, keyOf P k e.key = some lit) ∧
    w.heap[r]? = some (.mapIter (some b) since seen c0) ∧ (∀ x ∈ es.toList, x.born < since) ∧ (leftOf es seen).toList.map kvOf = rest ∧ since ≤ c0 ∧ since ≤ clock
theorem RangeAt.map {r : Nat} {rest : List (Value × Value)} (h : RangeAt P k w b r l rest) : MapAt P k w b l := by
  obtain ⟨es, clock, since, seen, c0, hb, hl, hs, hk, _⟩ := h
  exact ⟨es, clock, hb, hl, hs, hk⟩
theorem RangeAt.same {r : Nat} {rest : List (Value × Value)} (h : RangeAt P k w b r l rest) (hb : w'.heap[b]? = w.heap[b]?) (hr : w'.heap[r]? = w.heap[r]?) : RangeAt P k w' b r l rest := by
  obtain ⟨es, clock, since, seen, c0, h1, h2, h3, h4, h5, h6⟩ := h
  exact ⟨es, clock, since, seen, c0, hb.trans h1, h2, h3, h4, hr.trans h5, h6⟩
theorem RangeAt.lt {r : Nat} {rest : List (Value × Value)} (h : RangeAt P k w b r l rest) : r < w.heap.size := by
  obtain ⟨es, clock, since, seen, c0, h1, h2, h3, h4, h5, h6⟩ := h
  exact (Array.getElem?_eq_some_iff.1 h5).1
theorem MapAt.range (h : MapAt P k w b l) (ht : P.underlying t = some (.map k e)) :
    ∃ o, (Instr.range t (.map (some b))).run P w = .ok (.pointer (some ⟨w.heap.size, 0, none⟩)) (w.alloc o) ∧ RangeAt P k (w.alloc o) b w.heap.size l l := by
  have hlt := h.lt
  obtain ⟨es, clock, hb, rfl, hs, hk⟩ := h
  refine ⟨_, run_range_map w t k e b es clock ht hb, es, clock, clock, #[], clock, ((MapKept.heap_alloc w _).2 b hlt).trans hb, rfl, hs, hk, (MapKept.heap_alloc w _).1, hs.1, ?_, Nat.le_refl _, Nat.le_refl _⟩
  simp only [leftOf, Array.toList_filter]
  rw [List.filter_eq_self.2 (by simp)]
theorem filter_born : ∀ (l : List MapEntry) (e : MapEntry), (l.map (·.born)).Nodup → e ∈ l → ∃ l1 l2, l = l1 ++ e :: l2 ∧ l.filter (fun x => !(x.born == e.born)) = l1 ++ l2
  | [], _, _, h => by cases h
  | a :: l, e, hn, h => by
    simp only [List.map_cons, List.nodup_cons] at hn
    rcases List.mem_cons.1 h with rfl | h
    · refine ⟨[], l, rfl, ?_⟩
      rw [List.filter_cons]
      simp only [beq_self_eq_true, Bool.not_true, Bool.false_eq_true, if_false, List.nil_append]
      rw [List.filter_eq_self]
      intro x hx
      have : x.born ≠ e.born := fun e1 => hn.1 (List.mem_map.2 ⟨x, hx, e1⟩)
      simp [this]
    · obtain ⟨l1, l2, h1, h2⟩ := filter_born l e hn.2 h
      refine ⟨a :: l1, l2, by rw [h1]; rfl, ?_⟩
      have : a.born ≠ e.born := fun e1 => hn.1 (List.mem_map.2 ⟨e, h, e1.symm⟩)
      rw [List.filter_cons, h2]
      simp [this]
theorem left_push (es : Array MapEntry) (seen : Array Nat) (e : MapEntry) : (leftOf es (seen.push e.born)).toList = (leftOf es seen).toList.filter (fun x => !(x.born == e.born)) := by
  simp only [leftOf, Array.toList_filter, List.filter_filter]
  congr 1
  funext x
  rw [contains_push]
  cases seen.contains x.born <;> cases (x.born == e.born) <;> rfl
structure Stepped (w w' : World) (r : Nat) : Prop where
  os : w'.os = w.os
  tape : w'.tape = w.tape
  output : w'.output = w.output
  size : w'.heap.size = w.heap.size
  block : ∀ i, i ≠ r → w'.heap[i]? = w.heap[i]?
theorem RangeAt.next {r : Nat} {rest : List (Value × Value)} (h : RangeAt P k w b r l rest) (hne : b ≠ r) (ty : TypeId) :
    (rest = [] ∧ (Instr.next (.pointer (some ⟨r, 0, none⟩)) false ty).run P w = .ok (.tuple #[.bool false]) w) ∨
    ∃ l1 p l2 w', rest = l1 ++ p :: l2 ∧ (Instr.next (.pointer (some ⟨r, 0, none⟩)) false ty).run P w = .ok (.tuple #[.bool true, p.1, p.2]) w' ∧
      RangeAt P k w' b r l (l1 ++ l2) ∧ Stepped w w' r ∧ (Instr.entry (.pointer (some ⟨r, 0, none⟩))).run P w' = .ok (.tuple #[p.1, p.2]) w' := by
  obtain ⟨es, clock, since, seen, c0, hb, hl, hs, hk, hr, hold, hrest, hsc, hsk⟩ := h
  rcases run_next_at (P := P) w ty r b since c0 seen es clock hr hb hold hsc with ⟨h0, hrun⟩ | ⟨e0, he, w1, hal, hrun⟩
  · refine Or.inl ⟨?_, hrun⟩
    rw [← hrest, List.map_eq_nil_iff]
    exact List.eq_nil_of_length_eq_zero (by simpa using h0)
  · right
    have hem : e0 ∈ es.toList := by
      simp only [leftOf, Array.toList_filter, List.mem_filter] at he
      exact he.1
    have hn : ((leftOf es seen).toList.map (·.born)).Nodup := by
      have h5 := hs.2.1
      simp only [leftOf, Array.toList_filter]
      exact List.Nodup.sublist (List.Sublist.map _ List.filter_sublist) h5
    obtain ⟨l1, l2, h1, h2⟩ := filter_born _ e0 hn he
    have hr1 : w1.heap[r]? = some (.mapIter (some b) since seen c0) := by rcases hal with rfl | rfl <;> exact hr
    have hb1 : w1.heap[b]? = some (.map es clock) := by rcases hal with rfl | rfl <;> exact hb
    have hrl : r < w1.heap.size := (Array.getElem?_eq_some_iff.1 hr1).1
    have hset : (setBlock w1 r (.mapIter (some b) since (seen.push e0.born) clock)).heap[r]? = some (.mapIter (some b) since (seen.push e0.born) clock) := heap_set hrl
    have hb' : (setBlock w1 r (.mapIter (some b) since (seen.push e0.born) clock)).heap[b]? = some (.map es clock) := (heap_set_ne hne).trans hb1
    refine ⟨l1.map kvOf, kvOf e0, l2.map kvOf, _, ?_, hrun, ⟨es, clock, since, seen.push e0.born, clock, hb', hl, hs, hk, hset, hold, ?_, hsk, hsk⟩, ?_, run_entry_at _ r b since seen es clock e0 hset hb' hem hs.2.1⟩
    · rw [← hrest, h1, List.map_append, List.map_cons]
    · rw [left_push, h2, List.map_append]
    · rcases hal with rfl | rfl <;> exact ⟨rfl, rfl, rfl, by simp [setBlock], fun i hi => heap_set_ne hi⟩
end
end Go.Proofs.YtjacpmmlkgcjjaaDoor.Given
