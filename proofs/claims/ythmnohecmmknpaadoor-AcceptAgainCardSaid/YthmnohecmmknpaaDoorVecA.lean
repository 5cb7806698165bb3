/- Vectors (sixteen numbers) and events (twenty-seven cells) as values and in memory; worlds that only grow. -/
import Derived.Test.YthmnohecmmknpaaDoorProg
import Derived.WalkKit
import Derived.WalkLawsBesides
import Derived.Below
import Derived.Deep.RegionHeld3
import Derived.Deep.DrawnRows
import Derived.Deep.MidRow
import Derived.Deep.QuietTactic
import Derived.BigQuiet
import Derived.Deep.LoopGhost
import Derived.Deep.DeepCutAuto
import Derived.Lib.Hide
import Derived.IntWalk
import Derived.Orders
import Derived.Tactics
namespace Go.Proofs.YthmnohecmmknpaaDoor.Vec
open Go.RowKit
set_option linter.unusedVariables false
set_option linter.unusedSimpArgs false
def Ext (w w' : World) : Prop := Below w.heap.size w w'
theorem Ext.of {w w' : World} (h : Below w.heap.size w w') : Ext w w' := h
theorem Ext.below {w w' : World} (h : Ext w w') : Below w.heap.size w w' := h
theorem Ext.refl (w : World) : Ext w w := Below.refl _ _
theorem Ext.le {w w' : World} (h : Ext w w') : w.heap.size ≤ w'.heap.size := Below.size h
theorem Ext.trans {a b c : World} (h : Ext a b) (k : Ext b c) : Ext a c := Below.trans h (Below.mono k h.le)
theorem Ext.alloc {a w : World} (h : Ext a w) (o : Obj) : Ext a (w.alloc o) := Below.alloc h h.le o
theorem Ext.drew {a w : World} (h : Ext a w) : Ext a w.drew := Below.drew h
theorem Ext.setCell {a w : World} (h : Ext a w) {p : Addr} (hp : a.heap.size ≤ p.block) (u : Value) : Ext a (w.setCell p u) := Below.setCell h hp u
theorem below_setCells {B b : Nat} (hb : B ≤ b) : ∀ (vs : List Value) (o : Nat) {a w : World}, Below B a w → Below B a (w.setCells b o vs)
  | [], _, _, _, h => h
  | v :: r, o, a, w, h => by
    rw [World.setCells]
    exact below_setCells hb r (o + 1) (h.setCell hb v)
theorem Ext.setCells {a w : World} (h : Ext a w) {b : Nat} (hp : a.heap.size ≤ b) (o : Nat) (vs : List Value) : Ext a (w.setCells b o vs) := below_setCells hp vs o h
theorem Ext.cell {w w' : World} (hb : Ext w w') {p : Addr} {v : Value} (h : w.cell? p = some v) : w'.cell? p = some v := by
  rw [Below.cell hb (World.block_lt_of_cell? w _ h)]
  exact h
theorem Ext.blk {w w' : World} (hb : Ext w w') {g : Nat} {o : Obj} (h : w.heap[g]? = some o) : w'.heap[g]? = some o :=
  (Below.block hb g (Array.getElem?_eq_some_iff.1 h).1).trans h
theorem Ext.range {w w' : World} (hb : Ext w w') {b o : Nat} {cs : List Value} (h : w.rangeAt b o cs) : w'.rangeAt b o cs := fun j u hu => hb.cell (h j u hu)
theorem blk_new (w : World) (o : Obj) : (w.alloc o).heap[w.heap.size]? = some o := heap_alloc_new w o
theorem blk_alloc {w : World} {g : Nat} {x : Obj} (h : w.heap[g]? = some x) (o : Obj) : (w.alloc o).heap[g]? = some x := ((Ext.refl w).alloc o).blk h
theorem blk_cell {w : World} {g : Nat} {cs : Array Value} {t : TypeId} {fr : Nat × Nat} (h : w.heap[g]? = some (.cells cs t fr)) (j : Nat) : w.cell? ⟨g, j, none⟩ = cs[j]? := cell_of_row w g j cs t fr h
theorem blk_range {w : World} {g : Nat} {cs : List Value} {t : TypeId} {fr : Nat × Nat} (h : w.heap[g]? = some (.cells cs.toArray t fr)) : w.rangeAt g 0 cs := fun j u hu => by
  rw [blk_cell h]
  simpa using hu
theorem range_new (w : World) (cs : List Value) (t : TypeId) : (w.alloc (.cells cs.toArray t)).rangeAt w.heap.size 0 cs := blk_range (blk_new _ _)
theorem range_part {w : World} {b o : Nat} {a c d : List Value} (h : w.rangeAt b o (a ++ (c ++ d))) (k : Nat) (hk : k = o + a.length) : w.rangeAt b k c := fun j u hu => by
  have := h (a.length + j) u (by
    have hj := (List.getElem?_eq_some_iff.1 hu).1
    rw [List.getElem?_append_right (by omega), Nat.add_sub_cancel_left, List.getElem?_append_left hj]
    exact hu)
  rw [← Nat.add_assoc, ← hk] at this
  exact this
theorem blk_there {w : World} {g : Nat} {cs : Array Value} {t : TypeId} (h : w.heap[g]? = some (.cells cs t (0, 0))) (o n : Nat) (hn : o + n ≤ cs.size) : w.there g o n := fun j hj =>
  ⟨by rw [blk_cell h, Array.getElem?_eq_getElem (by omega)]; rfl, frozen_of_row w g _ cs t h⟩
theorem ret_bool {a b : Bool} (h : a = b) : Ending.returned (.bool a) = .returned (.bool b) := by rw [h]
theorem ret_int {k : IntKind} {a b : Int} (h : a = b) : Ending.returned (.int k a) = .returned (.int k b) := by rw [h]
structure Vc where
  l : List Int
  len : l.length = 16
theorem Vc.ext' {a b : Vc} (h : a.l = b.l) : a = b := by
  cases a
  cases b
  simp only at h
  subst h
  rfl
instance : DecidableEq Vc := fun a b => if h : a.l = b.l then isTrue (Vc.ext' h) else isFalse (fun e => h (e ▸ rfl))
def Vc.at (v : Vc) (i : Nat) : Int := v.l.getD i 0
def vcells (v : Vc) : List Value := v.l.map (Value.int .i64)
theorem vcells_len (v : Vc) : (vcells v).length = 16 := by simp [vcells, v.len]
theorem vcells_one (v : Vc) : ∀ u ∈ vcells v, u.oneCell' = true := by
  intro u hu
  obtain ⟨n, _, rfl⟩ := List.mem_map.1 hu
  rfl
theorem vcells_at (v : Vc) (i : Nat) (h : i < 16) : (vcells v)[i]? = some (.int .i64 (v.at i)) := by
  have hl : i < v.l.length := by rw [v.len]; exact h
  simp [vcells, Vc.at, hl]
theorem vc_ext {a b : Vc} (h : ∀ i, i < 16 → a.at i = b.at i) : a = b := by
  apply Vc.ext'
  apply List.ext_getElem (by rw [a.len, b.len])
  intro i h1 h2
  have := h i (by rw [a.len] at h1; exact h1)
  simpa [Vc.at, h1, h2] using this
def Vc.set (v : Vc) (i : Nat) (x : Int) : Vc := ⟨v.l.set i x, by rw [List.length_set]; exact v.len⟩
theorem Vc.at_set (v : Vc) (i j : Nat) (x : Int) (h : i < 16) : (v.set i x).at j = if j = i then x else v.at j := by
  unfold Vc.at Vc.set
  simp only [List.getD_eq_getElem?_getD, List.getElem?_set]
  by_cases e : i = j
  · subst e
    rw [if_pos rfl, if_pos rfl, if_pos (by rw [v.len]; exact h)]
    rfl
  · rw [if_neg e, if_neg (fun h => e h.symm)]
theorem vcells_set (v : Vc) (i : Nat) (x : Int) : vcells (v.set i x) = (vcells v).set i (.int .i64 x) := by simp [vcells, Vc.set, List.map_set]
def Vc.of (f : Nat → Int) : Vc := ⟨(List.range 16).map f, by simp⟩
theorem Vc.at_of (f : Nat → Int) (i : Nat) (h : i < 16) : (Vc.of f).at i = f i := by simp [Vc.of, Vc.at, h]
def Vc.zero : Vc := Vc.of fun _ => 0
def vval (v : Vc) : Value := .agg (vcells v).toArray
theorem info26 : (Tryd.prog.info? 26).map (·.size) = some 16 := by kernel_rfl
theorem vinfo (v : Vc) : (Tryd.prog.info? 26).map (·.size) = some (vcells v).length := by rw [vcells_len]; exact info26
theorem range_at {w : World} {b o : Nat} {v : Vc} (h : w.rangeAt b o (vcells v)) (i : Nat) (hi : i < 16) : w.cell? ⟨b, o + i, none⟩ = some (.int .i64 (v.at i)) := h i _ (vcells_at v i hi)
structure Ev where
  rep : Int
  cnt : Int
  past : Vc
  op : Int
  kind : Int
  a : ByteArray
  b : ByteArray
  c : ByteArray
  d : ByteArray
  vk : Int
  vn : Int
  vt : ByteArray
deriving DecidableEq
def etail (e : Ev) : List Value := [.int .i64 e.op, .int .i64 e.kind, .string e.a, .string e.b, .string e.c, .string e.d, .int .i64 e.vk, .int .i64 e.vn, .string e.vt]
def ecells (e : Ev) : List Value := [.int .i64 e.rep, .int .i64 e.cnt] ++ (vcells e.past ++ etail e)
theorem ecells_len (e : Ev) : (ecells e).length = 27 := by simp [ecells, etail, vcells_len]
theorem ecells_one (e : Ev) : ∀ u ∈ ecells e, u.oneCell' = true := by
  intro u hu
  rcases List.mem_append.1 hu with hu | hu
  · simp at hu
    rcases hu with rfl | rfl <;> rfl
  rcases List.mem_append.1 hu with hu | hu
  · exact vcells_one _ u hu
  · simp [etail] at hu
    rcases hu with rfl | rfl | rfl | rfl | rfl | rfl | rfl | rfl | rfl <;> rfl
def evval (e : Ev) : Value := .agg (ecells e).toArray
theorem info36 : (Tryd.prog.info? 36).map (·.size) = some 27 := by kernel_rfl
theorem einfo (e : Ev) : (Tryd.prog.info? 36).map (·.size) = some (ecells e).length := by rw [ecells_len]; exact info36
structure EvAt (w : World) (b o : Nat) (e : Ev) : Prop where
  all : w.rangeAt b o (ecells e)
theorem EvAt.ext {w w' : World} {b o : Nat} {e : Ev} (h : EvAt w b o e) (hx : Ext w w') : EvAt w' b o e := ⟨hx.range h.all⟩
theorem EvAt.new (w : World) (e : Ev) (t : TypeId) : EvAt (w.alloc (.cells (ecells e).toArray t)) w.heap.size 0 e := ⟨range_new _ _ _⟩
theorem EvAt.past {w : World} {b o : Nat} {e : Ev} (h : EvAt w b o e) : w.rangeAt b (o + 2) (vcells e.past) := range_part (a := [.int .i64 e.rep, .int .i64 e.cnt]) h.all _ rfl
theorem EvAt.rep {w : World} {b o : Nat} {e : Ev} (h : EvAt w b o e) : w.cell? ⟨b, o, none⟩ = some (.int .i64 e.rep) := h.all 0 _ rfl
theorem EvAt.cnt {w : World} {b o : Nat} {e : Ev} (h : EvAt w b o e) : w.cell? ⟨b, o + 1, none⟩ = some (.int .i64 e.cnt) := h.all 1 _ rfl
theorem EvAt.tail {w : World} {b o : Nat} {e : Ev} (h : EvAt w b o e) (j : Nat) (hj : j < 9) : w.cell? ⟨b, o + (18 + j), none⟩ = (etail e)[j]? := by
  have hl : j < (etail e).length := by simpa [etail] using hj
  have hq : (ecells e)[18 + j]? = (etail e)[j]? := by
    unfold ecells
    rw [List.getElem?_append_right (by simp; omega), List.getElem?_append_right (by simp [vcells_len]; omega)]
    congr 1
    simp [vcells_len]
    omega
  rw [List.getElem?_eq_getElem hl] at hq ⊢
  exact h.all _ _ hq
def elemc (e : Ev) : List Value := [.int .i64 e.kind, .string e.a, .string e.b, .string e.c, .string e.d]
def valc (e : Ev) : List Value := [.int .i64 e.vk, .int .i64 e.vn, .string e.vt]
theorem ecells_elem (e : Ev) : ecells e = ([.int .i64 e.rep, .int .i64 e.cnt] ++ (vcells e.past ++ [.int .i64 e.op])) ++ (elemc e ++ valc e) := by simp [ecells, etail, elemc, valc]
theorem ecells_val (e : Ev) : ecells e = ([.int .i64 e.rep, .int .i64 e.cnt] ++ (vcells e.past ++ (.int .i64 e.op :: elemc e))) ++ (valc e ++ []) := by simp [ecells, etail, elemc, valc]
theorem EvAt.dotr {w : World} {b o : Nat} {e : Ev} (h : EvAt w b o e) : w.rangeAt b o [.int .i64 e.rep, .int .i64 e.cnt] := range_part (a := []) (c := [.int .i64 e.rep, .int .i64 e.cnt]) (d := vcells e.past ++ etail e) h.all _ rfl
theorem EvAt.elemr {w : World} {b o : Nat} {e : Ev} (h : EvAt w b o e) : w.rangeAt b (o + 19) (elemc e) := by
  have := h.all
  rw [ecells_elem] at this
  exact range_part this _ (by simp [vcells_len])
theorem EvAt.valr {w : World} {b o : Nat} {e : Ev} (h : EvAt w b o e) : w.rangeAt b (o + 24) (valc e) := by
  have := h.all
  rw [ecells_val] at this
  exact range_part this _ (by simp [vcells_len, elemc])
theorem EvAt.opc {w : World} {b o : Nat} {e : Ev} (h : EvAt w b o e) : w.cell? ⟨b, o + 18, none⟩ = some (.int .i64 e.op) := h.tail 0 (by decide)
theorem EvAt.sa {w : World} {b o : Nat} {e : Ev} (h : EvAt w b o e) : w.cell? ⟨b, o + 20, none⟩ = some (.string e.a) := h.tail 2 (by decide)
theorem EvAt.sb {w : World} {b o : Nat} {e : Ev} (h : EvAt w b o e) : w.cell? ⟨b, o + 21, none⟩ = some (.string e.b) := h.tail 3 (by decide)
theorem EvAt.sc {w : World} {b o : Nat} {e : Ev} (h : EvAt w b o e) : w.cell? ⟨b, o + 22, none⟩ = some (.string e.c) := h.tail 4 (by decide)
theorem EvAt.sd {w : World} {b o : Nat} {e : Ev} (h : EvAt w b o e) : w.cell? ⟨b, o + 23, none⟩ = some (.string e.d) := h.tail 5 (by decide)
theorem EvAt.st {w : World} {b o : Nat} {e : Ev} (h : EvAt w b o e) : w.cell? ⟨b, o + 26, none⟩ = some (.string e.vt) := h.tail 8 (by decide)
def evz : Ev := ⟨0, 0, Vc.zero, 0, 0, ⟨#[]⟩, ⟨#[]⟩, ⟨#[]⟩, ⟨#[]⟩, 0, 0, ⟨#[]⟩⟩
end Go.Proofs.YthmnohecmmknpaaDoor.Vec
namespace Go.Proofs.YthmnohecmmknpaaDoor.Vec
open Go.RowKit
set_option linter.unusedVariables false
set_option linter.unusedSimpArgs false
section
variable {P : Program} {ops : Array Oper} {Q : Exit → Act → World → Prop} {md : Region.Mode}
def GY (P : Program) (ops : Array Oper) (W0 : World) (o : Oper) (v : Value) (a : Act) : Prop :=
  (Region.wanted o (yielded ops a.tmps) = true ∧ ∀ w, Ext W0 w →
    (execOp a.eval o).run P w = .ok (.value v) w ∨ ∃ f args, (execOp a.eval o).run P w = .ok (.enter f args) w ∧ Calls P f args w fun e w' => e = .returned v ∧ Ext w w') ∨
  (Region.wanted o (yielded ops a.tmps) = false ∧ v = undef)
theorem GY.ext {W0 W1 : World} {o : Oper} {v : Value} {a : Act} (h : GY P ops W0 o v a) (hx : Ext W0 W1) : GY P ops W1 o v a :=
  h.imp (fun ⟨hw, hv⟩ => ⟨hw, fun w hw' => hv w (hx.trans hw')⟩) id
theorem GY.of_same {W0 : World} {o : Oper} {v : Value} {a a' : Act} (h : GY P ops W0 o v a) (he : execOp a'.eval o = execOp a.eval o)
    (hw : Region.wanted o (yielded ops a'.tmps) = Region.wanted o (yielded ops a.tmps)) : GY P ops W0 o v a' := by
  unfold GY at *
  rw [he, hw]
  exact h
theorem GY.wp {W0 : World} {o : Oper} {v : Value} {a : Act} {w : World} {K : Act → World → Prop} (h : GY P ops W0 o v a) (hw : Ext W0 w) (hK : ∀ w', Ext w w' → K (a.put o.dst v) w') :
    if Region.wanted o (yielded ops a.tmps) = true then o.wp P a w K Q else K (a.put o.dst undef) w := by
  rcases h with ⟨h1, h2⟩ | ⟨h1, rfl⟩
  · rw [if_pos h1]
    unfold Oper.wp
    rcases h2 w hw with h2 | ⟨f, args, h2, h3⟩
    · rw [h2]
      exact hK w (Ext.refl w)
    · rw [h2, Oper.upon_enter]
      refine h3.mono fun e w' ⟨he, hx⟩ => ?_
      subst he
      exact hK w' hx
  · rw [if_neg (by rw [h1]; decide)]
    exact hK w (Ext.refl w)
theorem GY.wpOp {i : Nat} {W0 : World} {o : Oper} {v : Value} {a : Act} {w : World} {K : Act → World → Prop} (hi : ops[i]? = some o) (h : GY P ops W0 o v a) (hw : Ext W0 w) (hK : ∀ w', Ext w w' → K (a.put o.dst v) w') : wpOp P ops Q i K a w := by
  have := GY.wp (Q := Q) h hw hK
  unfold Go.wpOp
  simp only [hi]
  split at this
  · rename_i hh
    rw [if_pos hh]
    exact .inl this
  · rename_i hh
    rw [if_neg hh]
    exact this
def isRead (o : Oper) : Bool := match o.op with
  | .load .. | .call .. => true
  | _ => false
theorem Yields.gy {W0 : World} {o : Oper} {v : Value} {a : Act} (h : Yields P ops o v a) : GY P ops W0 o v a := h.imp (fun ⟨hw, hv⟩ => ⟨hw, fun w _ => .inl (hv w)⟩) id
def GP (P : Program) (ops : Array Oper) (W0 : World) (o : Oper) (v : Value) (a : Act) : Prop := (isRead o = true ∧ GY P ops W0 o v a) ∨ Yields P ops o v a
theorem GP.gy {W0 : World} {o : Oper} {v : Value} {a : Act} (h : GP P ops W0 o v a) : GY P ops W0 o v a := h.elim (fun h => h.2) Yields.gy
theorem GP.ext {W0 W1 : World} {o : Oper} {v : Value} {a : Act} (h : GP P ops W0 o v a) (hx : Ext W0 W1) : GP P ops W1 o v a := h.imp (fun h => ⟨h.1, h.2.ext hx⟩) id
theorem GP.of_same {W0 : World} {o : Oper} {v : Value} {a a' : Act} (h : GP P ops W0 o v a) (he : execOp a'.eval o = execOp a.eval o)
    (hw : Region.wanted o (yielded ops a'.tmps) = Region.wanted o (yielded ops a.tmps)) : GP P ops W0 o v a' := h.imp (fun h => ⟨h.1, h.2.of_same he hw⟩) (fun h => Go.Yields.of_same h he hw)
theorem GP.rd {W0 : World} {o : Oper} {v : Value} {a : Act} (h1 : isRead o = true) (h : GY P ops W0 o v a) : GP P ops W0 o v a := .inl ⟨h1, h⟩
theorem GP.p {W0 : World} {o : Oper} {v : Value} {a : Act} (h : Yields P ops o v a) : GP P ops W0 o v a := .inr h
def barrier (md : Region.Mode) (ops : Array Oper) (i : Nat) : Bool := match ops[i]? with
  | none => false
  | some o => (List.range ops.size).all fun k => k == i || (o.after.any fun e => Region.binds md e && e.on == k) || match ops[k]? with
    | none => true
    | some ok => !isRead ok || ok.after.any fun e => Region.binds md e && e.on == i
theorem ready_lt {i : Nat} {l : Array Bool} (hi : i ∈ Region.ready md ops l) : i < ops.size := by
  obtain ⟨_, o, ho, _⟩ := mem_ready.1 hi
  exact (Array.getElem?_eq_some_iff.1 ho).1
theorem getD_false_of_true {l : Array Bool} {k : Nat} (h : l.getD k true = false) : l.getD k false = false := by
  rcases Nat.lt_or_ge k l.size with h' | h'
  · simp [h'] at h ⊢
    exact h
  · simp [Array.getElem?_eq_none h'] at h
theorem barrier_spec {i k : Nat} {l : Array Bool} {ok : Oper} (h : barrier md ops i = true) (hi : i ∈ Region.ready md ops l) (hk : k ∈ Region.ready md ops l) (hne : k ≠ i) (hok : ops[k]? = some ok) : isRead ok = false := by
  have hlt := ready_lt hk
  obtain ⟨hi0, o, ho, hall⟩ := mem_ready.1 hi
  obtain ⟨hk0, ok', hok', hallk⟩ := mem_ready.1 hk
  obtain rfl : ok' = ok := Option.some.inj (hok'.symm.trans hok)
  unfold barrier at h
  rw [ho] at h
  simp only [List.all_eq_true, List.mem_range, Bool.or_eq_true, beq_iff_eq] at h
  have h2 := h k hlt
  rw [hok] at h2
  simp only [Bool.or_eq_true, Bool.not_eq_true'] at h2
  rcases h2 with (h2 | h2) | h2 | h2
  · exact absurd h2 hne
  · obtain ⟨e, he, hb⟩ := Array.any_eq_true'.1 h2
    simp only [Bool.and_eq_true, beq_iff_eq] at hb
    have := hall e he hb.1
    rw [hb.2, getD_false_of_true hk0] at this
    cases this
  · exact h2
  · obtain ⟨e, he, hb⟩ := Array.any_eq_true'.1 h2
    simp only [Bool.and_eq_true, beq_iff_eq] at hb
    have := hallk e he hb.1
    rw [hb.2, getD_false_of_true hi0] at this
    cases this
def Good (P : Program) (md : Region.Mode) (ops : Array Oper) (Q : Exit → Act → World → Prop) : Nat → World → Array Bool → Act → Prop
  | 0, W0, l, a => Region.ready md ops l = [] ∧ ∀ w, Ext W0 w → Q .normal a w
  | n + 1, W0, l, a => (Region.ready md ops l = [] → ∀ w, Ext W0 w → Q .normal a w) ∧
    ∀ i ∈ Region.ready md ops l, ∀ w, Ext W0 w → wpOp P ops Q i (fun a' w' => (Ext w w' ∨ barrier md ops i = true) ∧ Good P md ops Q n w' (l.setIfInBounds i true) a') a w
theorem Good.mono : ∀ {n : Nat} {W0 W1 : World} {l : Array Bool} {a : Act}, Good P md ops Q n W0 l a → Ext W0 W1 → Good P md ops Q n W1 l a
  | 0, _, _, _, _, h, hx => ⟨h.1, fun w hw => h.2 w (hx.trans hw)⟩
  | n + 1, _, _, _, _, h, hx => ⟨fun hr w hw => h.1 hr w (hx.trans hw), fun i hi w hw => h.2 i hi w (hx.trans hw)⟩
theorem Good.sound : ∀ {n : Nat} {W0 : World} {l : Array Bool} {a : Act} {w : World}, Good P md ops Q n W0 l a → Ext W0 w → wpAny P md ops Q n l a w
  | 0, _, _, _, w, h, hx => ⟨h.1, h.2 w hx⟩
  | n + 1, W0, l, a, w, h, hx => ⟨fun hr => h.1 hr w hx, fun i hi => wpOp_mono (fun a' w' h' => h'.2.sound (Ext.refl _)) (h.2 i hi w hx)⟩
theorem wpOp_putG {j : Nat} {oi oj : Oper} {v : Value} (hj : ops[j]? = some oj) (hap : oi.apart ops oj = true)
    (hsi : ∀ cs b, oi.op ≠ .select cs b) (hsj : ∀ cs b, oj.op ≠ .select cs b)
    (hQ : ∀ c a w, Q (.panic c) (a.put oi.dst v) w → Q (.panic c) a w) {K : Act → World → Prop} {a : Act} {w : World} {W0 : World}
    (hy : GP P ops W0 oi v a) (h : wpOp P ops Q j K (a.put oi.dst v) w) :
    wpOp P ops Q j (fun a' w' => GP P ops W0 oi v a' ∧ K (a'.put oi.dst v) w') a w := by
  obtain ⟨h1, h2, h3⟩ := Oper.apart_spec hap
  have keep : ∀ (a : Act), GP P ops W0 oi v a → ∀ u, GP P ops W0 oi v (a.put oj.dst u) := fun a hy u =>
    hy.of_same (execOp_put oi hsi a oj.dst u h3) (wanted_put oi a oj.dst u h3)
  have keepD : ∀ d, GP P ops W0 oi v { a with defers := d :: a.defers } := fun d => hy.of_same rfl rfl
  unfold Go.wpOp at *
  simp only [hj] at *
  rw [wanted_put oj a oi.dst v h1] at h
  split
  · rename_i hw
    simp only [hw, if_true] at h
    rcases h with h | ⟨hasks, hlets⟩
    case inr => exact .inr ⟨by unfold Oper.asks at *; rw [execOp_put oj hsj a oi.dst v h1] at hasks; exact hasks, hlets⟩
    refine .inl ?_
    unfold Oper.wp at *
    rw [execOp_put oj hsj a oi.dst v h1] at h
    generalize (execOp a.eval oj).run P w = r at *
    cases r with
    | ok n w' =>
      cases n <;> simp only [Oper.upon] at h ⊢
      case value u => exact ⟨keep a hy u, by rw [← Act.put_comm a v u h2]; exact h⟩
      case skip => exact ⟨keep a hy _, by rw [← Act.put_comm a v undef h2]; exact h⟩
      case defer d =>
        refine ⟨keep _ (keepD d) _, ?_⟩
        rw [← Act.put_comm _ v undef h2, ← Act.put_defers]
        exact h
      case enter f args =>
        refine Calls.mono h fun e w'' he => ?_
        cases e with
        | returned u => exact ⟨keep a hy u, by rw [← Act.put_comm a v u h2]; exact he⟩
        | panicked c => exact hQ _ _ _ he
        | outgrown => exact he
      case row row args => exact Rows.mono h fun u w'' he => ⟨keep a hy u, by rw [← Act.put_comm a v u h2]; exact he⟩
    | halt x w' =>
      cases x <;> simp only [Oper.upon] at h ⊢
      case panic u => exact hQ _ _ _ h
  · rename_i hw
    simp only [hw] at h
    exact ⟨keep a hy _, by rw [← Act.put_comm a v undef h2]; exact h⟩
theorem Good.first {i : Nat} {oi : Oper} {v : Value} (hi : ops[i]? = some oi) (hsel : ∀ (j : Nat) (o : Oper) cs b, ops[j]? = some o → o.op ≠ .select cs b)
    (hQ : ∀ c a w, Q (.panic c) (a.put oi.dst v) w → Q (.panic c) a w) :
    ∀ (n : Nat) (W0 : World) (l : Array Bool) (a : Act),
      (∀ j oj, ops[j]? = some oj → j ≠ i → l.getD j true = false → (∀ e ∈ oj.after, Region.binds md e = true → e.on ≠ i) → oi.apart ops oj = true) →
      i ∈ Region.ready md ops l → GP P ops W0 oi v a → Good P md ops Q n W0 (l.setIfInBounds i true) (a.put oi.dst v) → Good P md ops Q (n + 1) W0 l a := by
  intro n
  induction n with
  | zero =>
    intro W0 l a _ hr hy H
    refine ⟨fun h => (by rw [h] at hr; cases hr), fun j hj w hw => ?_⟩
    by_cases hji : j = i
    · subst hji; exact hy.gy.wpOp hi hw fun w' hx => ⟨.inl hx, H.mono (hw.trans hx)⟩
    · have := ready_mono hj hji
      rw [H.1] at this
      cases this
  | succ n ih =>
    intro W0 l a hfree hr hy H
    refine ⟨fun h => (by rw [h] at hr; cases hr), fun j hj w hw => ?_⟩
    by_cases hji : j = i
    · subst hji; exact hy.gy.wpOp hi hw fun w' hx => ⟨.inl hx, H.mono (hw.trans hx)⟩
    · have h1 := H.2 j (ready_mono hj hji) w hw
      obtain ⟨hjun, oj, hoj, hall⟩ := mem_ready.1 hj
      have hnot : ∀ e ∈ oj.after, Region.binds md e = true → e.on ≠ i := fun e he hb heq => by
        have h1 := hall e he hb
        have h0 := (mem_ready.1 hr).1
        rw [heq, getD_false_of_true h0] at h1
        cases h1
      have h2 := wpOp_putG hoj (hfree j oj hoj hji hjun hnot) (fun cs b => hsel i oi cs b hi) (fun cs b => hsel j oj cs b hoj) hQ hy h1
      have hfree' : ∀ k ok, ops[k]? = some ok → k ≠ i → (l.setIfInBounds j true).getD k true = false →
          (∀ e ∈ ok.after, Region.binds md e = true → e.on ≠ i) → oi.apart ops ok = true := fun k ok hk hki hun hno => by
        refine hfree k ok hk hki ?_ hno
        by_cases hjk : j = k
        · subst hjk; exact hjun
        · rw [getD_set_ne true hjk] at hun; exact hun
      refine wpOp_mono (fun a' w' h3 => ?_) h2
      obtain ⟨h4, h5 | h5, h6⟩ := h3
      · refine ⟨.inl h5, ih w' (l.setIfInBounds j true) a' hfree' (ready_mono hr (Ne.symm hji)) (h4.ext (hw.trans h5)) ?_⟩
        rw [Array.setIfInBounds_comm _ _ hji]
        exact h6
      · refine ⟨.inr h5, ih w' (l.setIfInBounds j true) a' hfree' (ready_mono hr (Ne.symm hji)) (h4.elim (fun h => by have h7 := barrier_spec h5 hj hr (Ne.symm hji) hi; rw [h7] at h; cases h.1) .inr) ?_⟩
        rw [Array.setIfInBounds_comm _ _ hji]
        exact h6
end
def takeG (md : Region.Mode) (ops : Array Oper) (l l' : Array Bool) (i : Nat) : Bool := Region.noSelect ops && Region.free md ops l i && (Region.ready md ops l).contains i && (l.setIfInBounds i true == l')
section
variable {P : Program} {ops : Array Oper} {Q : Exit → Act → World → Prop} {md : Region.Mode}
theorem g_begin {id : Nat} {a : Act} {w W0 : World} (hm : P.follows .mixedOrders = true) (hx : Ext W0 w) (l : Array Bool) (n : Nat) (hn : ops.size = n) (hl : Array.replicate n false = l)
    (h : Good P .any ops Q n W0 l a) : (Code.region id ops true).wp P Q a w := by
  subst hn
  subst hl
  exact wp_region_any hm (h.sound (Ext.drew hx))
theorem g_take {n : Nat} {W0 : World} {l : Array Bool} {a : Act} (i : Nat) (l' : Array Bool) {N : Option Tmp} {oi : Oper} {v : Value} {a' : Act} (hi : ops[i]? = some oi) (hN : oi.dst = N) (hc : takeG md ops l l' i = true)
    (hQ : ∀ c a w, Q (.panic c) (a.put oi.dst v) w → Q (.panic c) a w) (hy : GP P ops W0 oi v a) (ha : a.put N v = a')
    (h : Good P md ops Q n W0 l' a') : Good P md ops Q (n + 1) W0 l a := by
  subst hN
  subst ha
  simp only [takeG, Bool.and_eq_true, beq_iff_eq] at hc
  obtain ⟨⟨⟨h1, h2⟩, h3⟩, h4⟩ := hc
  subst h4
  exact Good.first hi (Region.noSelect_spec h1) hQ n W0 l a (Region.free_spec hi h2) (by simpa using h3) hy h
theorem g_done {n : Nat} {W0 : World} {l : Array Bool} {a : Act} (hr : (Region.ready md ops l == []) = true) (h : ∀ w, Ext W0 w → Q .normal a w) : Good P md ops Q n W0 l a := by
  have hr' : Region.ready md ops l = [] := by simpa using hr
  cases n with
  | zero => exact ⟨hr', h⟩
  | succ n => exact ⟨fun _ => h, by rw [hr']; simp⟩
def oneG (md : Region.Mode) (ops : Array Oper) (l l' : Array Bool) (i : Nat) : Bool := (Region.ready md ops l == [i]) && (l.setIfInBounds i true == l')
theorem g_one {n : Nat} {W0 : World} {l : Array Bool} {a : Act} (i : Nat) (l' : Array Bool) {oi : Oper} (hi : ops[i]? = some oi) (hc : oneG md ops l l' i = true)
    (h : ∀ w, Ext W0 w → if Region.wanted oi (yielded ops a.tmps) = true then oi.wp P a w (fun a' w' => Ext w w' ∧ Good P md ops Q n w' l' a') Q else Good P md ops Q n w l' (a.put oi.dst undef)) : Good P md ops Q (n + 1) W0 l a := by
  simp only [oneG, Bool.and_eq_true, beq_iff_eq] at hc
  obtain ⟨h1, h2⟩ := hc
  subst h2
  refine ⟨fun h0 => (by rw [h0] at h1; cases h1), fun j hj w hw => ?_⟩
  rw [h1] at hj
  obtain rfl := List.mem_singleton.1 hj
  have := h w hw
  unfold Go.wpOp
  simp only [hi]
  split at this
  · rename_i hh
    rw [if_pos hh]
    exact .inl (Oper.wp_mono (fun _ _ hk => ⟨.inl hk.1, hk.2⟩) this)
  · rename_i hh
    rw [if_neg hh]
    exact ⟨.inl (Ext.refl _), this⟩
theorem g_barrier {n : Nat} {W0 : World} {l : Array Bool} {a : Act} (i : Nat) (l' : Array Bool) {oi : Oper} (hi : ops[i]? = some oi) (hc : oneG md ops l l' i = true) (hb : barrier md ops i = true)
    (h : ∀ w, Ext W0 w → Region.wanted oi (yielded ops a.tmps) = true ∧ oi.wp P a w (fun a' w' => Good P md ops Q n w' l' a') Q) : Good P md ops Q (n + 1) W0 l a := by
  simp only [oneG, Bool.and_eq_true, beq_iff_eq] at hc
  obtain ⟨h1, h2⟩ := hc
  subst h2
  refine ⟨fun h0 => (by rw [h0] at h1; cases h1), fun j hj w hw => ?_⟩
  rw [h1] at hj
  obtain rfl := List.mem_singleton.1 hj
  obtain ⟨h3, h4⟩ := h w hw
  unfold Go.wpOp
  simp only [hi]
  rw [if_pos h3]
  exact .inl (Oper.wp_mono (fun _ _ hk => ⟨.inr hb, hk⟩) h4)
def GoodL (P : Program) (ops : Array Oper) (Q : Exit → Act → World → Prop) (W0 : World) (rest : List Oper) (a : Act) : Prop := ∀ w, Ext W0 w → wpList P ops Q rest a w
theorem gl_begin {id : Nat} {a : Act} {w W0 : World} (hx : Ext W0 w) (h : GoodL P ops Q W0 ops.toList a) : (Code.region id ops false).wp P Q a w := wp_region_list (h w hx)
theorem gl_take {W0 : World} {rest : List Oper} {a a' : Act} {o : Oper} {N : Option Tmp} {v : Value} (hN : o.dst = N) (hy : GY P ops W0 o v a) (ha : a.put N v = a') (h : GoodL P ops Q W0 rest a') : GoodL P ops Q W0 (o :: rest) a := by
  subst hN
  subst ha
  intro w hw
  have := GY.wp (Q := Q) (K := fun a' w' => wpList P ops Q rest a' w') hy hw (fun w' hx => h w' (hw.trans hx))
  unfold wpList
  split at this
  · rename_i hh
    rw [if_pos hh]
    exact .inl this
  · rename_i hh
    rw [if_neg hh]
    exact this
theorem gl_eff {W0 : World} {rest : List Oper} {a : Act} {o : Oper} (hg : Region.wanted o (yielded ops a.tmps) = true) (h : ∀ w, Ext W0 w → o.wp P a w (fun a' w' => wpList P ops Q rest a' w') Q) : GoodL P ops Q W0 (o :: rest) a := fun w hw => by
  unfold wpList
  rw [if_pos hg]
  exact .inl (h w hw)
theorem wpl_nil {a : Act} {w : World} (h : Q .normal a w) : wpList P ops Q [] a w := by
  unfold wpList
  exact h
theorem gl_done {W0 : World} {a : Act} (h : ∀ w, Ext W0 w → Q .normal a w) : GoodL P ops Q W0 [] a := fun w hw => by
  unfold wpList
  exact h w hw
theorem gy_off {o : Oper} {a : Act} (hw : Region.wanted o (yielded ops a.tmps) = false) : Yields P ops o undef a := .inr ⟨hw, rfl⟩
theorem gy_pure {o : Oper} {v : Value} {a : Act} (hw : Region.wanted o (yielded ops a.tmps) = true) (h : ∀ w, (execOp a.eval o).run P w = .ok (.value v) w) : Yields P ops o v a := .inl ⟨hw, h⟩
theorem gy_read {W0 : World} {o : Oper} {v : Value} {a : Act} (hw : Region.wanted o (yielded ops a.tmps) = true) (h : ∀ w, Ext W0 w → (execOp a.eval o).run P w = .ok (.value v) w) : GY P ops W0 o v a := .inl ⟨hw, fun w hx => .inl (h w hx)⟩
theorem gy_load1 {W0 : World} {o : Oper} {v : Value} {a : Act} {t : TypeId} {x : Operand} {p : Addr} (hw : Region.wanted o (yielded ops a.tmps) = true) (ho : o.op = .load t x) (hx : a.eval x = .pointer (some p))
    (hagg : ∀ w, (isAgg t).run P w = .ok false w) (hc : W0.cell? p = some v) : GY P ops W0 o v a := gy_read hw fun w hx' => by
  have hc' := hx'.cell hc
  unfold execOp
  simp only [ho, hx, Instr.loadAt, Instr.sureAddr, Sem.run_bind, Sem.run_pure, Result.andThen_ok, loadVar, hagg]
  simp [hc', go_sem]
theorem gy_row {W0 : World} {o : Oper} {a : Act} {t : TypeId} {x : Operand} {b off : Nat} {cs : List Value} {d : TypeDesc} (hw : Region.wanted o (yielded ops a.tmps) = true) (ho : o.op = .load t x) (hx : a.eval x = .pointer (some ⟨b, off, none⟩))
    (hc : W0.rangeAt b off cs) (hu : P.underlying t = some d) (hd : d.isRow = true) (hi : (P.info? t).map (·.size) = some cs.length) : GY P ops W0 o (.agg cs.toArray) a := gy_read hw fun w hx' => by
  unfold execOp
  simp only [ho, hx, Instr.loadAt, Instr.sureAddr, Sem.run_bind, Sem.run_pure, Result.andThen_ok, run_loadVar_mid w b off t cs d (hx'.range hc) hu hd hi]
theorem enters0 {f : FuncId} {fn : Func} (hf : P.funcs[f]? = some fn) (hname : (fn.name == "runtime.NumGoroutine") = false) (hb : fn.body.isSome = true) (args : Array Value) (w : World) : (callFunc f args).run P w = .ok (.enter f args) w := by
  have h1 : fn.name ≠ "runtime.NumGoroutine" := by simpa using hname
  obtain ⟨c, hc⟩ := Option.isSome_iff_exists.1 hb
  simp [callFunc, hf, h1, hc]
theorem gy_call {W0 : World} {o : Oper} {v : Value} {a : Act} {f : FuncId} {fn : Func} {os : Array Operand} {ts : Array TypeId} (hw : Region.wanted o (yielded ops a.tmps) = true) (hop : o.op = .call { callee := .value (.func f), args := os, argTypes := ts })
    (hf : P.funcs[f]? = some fn) (hname : (fn.name == "runtime.NumGoroutine") = false) (hb : fn.body.isSome = true) (args : Array Value) (hargs' : os.toList.map a.eval = args.toList)
    (h : ∀ w, Ext W0 w → Calls P f args w fun e w' => e = .returned v ∧ Ext w w') : GY P ops W0 o v a := .inl ⟨hw, fun w hx => .inr ⟨f, args, by
      have he := enters0 hf hname hb args w
      have hargs : os.map a.eval = args := by
        apply Array.toList_inj.1
        rw [Array.toList_map]
        exact hargs'
      unfold execOp
      simp [hop, resolve, Deferred.ofValue, invoke, Act.eval, hargs, he], h w hx⟩⟩
theorem gy_callv {W0 : World} {o : Oper} {v : Value} {a : Act} {f : FuncId} {fn : Func} {x : Operand} {os : Array Operand} {ts : Array TypeId} {cap : Array Value} (hw : Region.wanted o (yielded ops a.tmps) = true) (hop : o.op = .call { callee := .value x, args := os, argTypes := ts })
    (hx : a.eval x = .func (.func f) #[] cap) (hf : P.funcs[f]? = some fn) (hname : (fn.name == "runtime.NumGoroutine") = false) (hb : fn.body.isSome = true) (args : Array Value) (hargs' : os.toList.map a.eval ++ cap.toList = args.toList)
    (h : ∀ w, Ext W0 w → Calls P f args w fun e w' => e = .returned v ∧ Ext w w') : GY P ops W0 o v a := .inl ⟨hw, fun w hx' => .inr ⟨f, args, by
      have he := enters0 hf hname hb args w
      have hargs : os.map a.eval ++ cap = args := by
        apply Array.toList_inj.1
        rw [Array.toList_append, Array.toList_map]
        exact hargs'
      unfold execOp
      simp [hop, resolve, Deferred.ofValue, invoke, hx, hargs, he], h w hx'⟩⟩
theorem wp_store1 {o : Oper} {a : Act} {w : World} {K : Act → World → Prop} {Q : Exit → Act → World → Prop} {t : TypeId} {x y : Operand} {p : Addr} {v old : Value} (ho : o.op = .store t x y) (hx : a.eval x = .pointer (some p)) (hy : a.eval y = v)
    (hsz : ∀ w, (sizeOf t).run P w = .ok 1 w) (h1 : v.oneCell' = true) (hp : p.spot = none) (hc : w.cell? p = some old) (hfr : w.frozen? p = false) (h : K (a.put o.dst undef) (w.setCell p v)) : o.wp P a w K Q := by
  obtain ⟨b, off, sp⟩ := p
  simp only at hp
  subst hp
  have hcs : v.cells = #[v] := by cases v <;> first | rfl | cases h1
  have hst := run_storeCells_cells (P := P) b off [v] 0 w (fun j hj => by
    have : j = 0 := by simpa using hj
    subst this
    rw [show off + 0 + 0 = off from rfl, hc]
    rfl) (fun j hj => by
    have : j = 0 := by simpa using hj
    subst this
    exact hfr) (fun u hu => by rw [List.mem_singleton.1 hu]; exact h1)
  unfold Oper.wp execOp
  simp only [ho, hx, hy, Instr.storeAt, Instr.sureAddr, Sem.run_bind, Sem.run_pure, Result.andThen_ok, storeVar, hsz, hcs]
  simp only [List.size_toArray, List.length_cons, List.length_nil, Nat.zero_add, ne_eq, not_true_eq_false, if_false, Nat.add_zero, World.setCells] at hst ⊢
  simp [hst]
  exact h
end
end Go.Proofs.YthmnohecmmknpaaDoor.Vec
namespace Go.Proofs.YthmnohecmmknpaaDoor.Vec
open Go.RowKit
set_option linter.unusedVariables false
set_option linter.unusedSimpArgs false
set_option maxRecDepth 100000
def dotB (r c : Int) : Bool := decide (0 ≤ r) && decide (r < 16) && decide (1 ≤ c) && decide (c ≤ 1048576)
theorem dotB_iff {r c : Int} : dotB r c = true ↔ 0 ≤ r ∧ r < 16 ∧ 1 ≤ c ∧ c ≤ 1048576 := by
  simp [dotB, and_assoc]
abbrev dval (r c : Int) : Value := .agg #[.int .i64 r, .int .i64 c]
set_option maxHeartbeats 400000 in
theorem Dot_calls {r c : Int} {b : Bool} (hb : dotB r c = b) (w : World) :
    Calls Tryd.prog 32 #[dval r c] w fun e w' => e = .returned (.bool b) ∧ Ext w w' := by
  have HB := Lib.hid hb
  clear hb
  go_enter Tryd.func32, Tryd.ntmps32
  go_wp2
  all_goals
    go_ret
    refine ⟨ret_bool ?_, (Ext.refl _).alloc _⟩
    rw [← HB.out, Bool.eq_iff_iff, dotB_iff]
    simp
    try omega
def knowsB (v : Vc) (r c : Int) : Bool := dotB r c && decide (c ≤ v.at r.toNat)
def nextB (v : Vc) (r c : Int) : Bool := dotB r c && decide (v.at r.toNat = c - 1)
theorem boxes_vd (w : World) (v : Vc) (r c : Int) : ∃ W0 b, ((w.alloc (.cells (vcells v).toArray 26)).alloc (.cells #[.int .i64 r, .int .i64 c] 30)) = W0 ∧ w.heap.size = b ∧ Ext w W0 ∧
    W0.heap[b]? = some (.cells (vcells v).toArray 26 (0, 0)) ∧ W0.heap[b + 1]? = some (.cells #[.int .i64 r, .int .i64 c] 30 (0, 0)) := by
  refine ⟨_, _, rfl, rfl, ((Ext.refl w).alloc _).alloc _, blk_alloc (blk_new _ _) _, ?_⟩
  have := blk_new (w.alloc (.cells (vcells v).toArray 26)) (.cells #[.int .i64 r, .int .i64 c] 30)
  simpa using this
set_option maxHeartbeats 1000000 in
theorem Knows_calls {v : Vc} {r c : Int} {b : Bool} (hb : knowsB v r c = b) (w : World) :
    Calls Tryd.prog 23 #[vval v, dval r c] w fun e w' => e = .returned (.bool b) ∧ Ext w w' := by
  obtain ⟨W0, b0, hW, hb0, hx, hv, hdt⟩ := boxes_vd w v r c
  have rd := blk_range (cs := [.int .i64 r, .int .i64 c]) hdt
  have c0 : W0.cell? ⟨b0 + 1, 0, none⟩ = some (.int .i64 r) := (blk_cell hdt 0).trans rfl
  have c1 : W0.cell? ⟨b0 + 1, 1, none⟩ = some (.int .i64 c) := (blk_cell hdt 1).trans rfl
  unfold vval
  cases hd : dotB r c with
  | false =>
    have hk : false = b := by rw [← hb, knowsB, hd, Bool.false_and]
    subst hk
    have HD := Lib.hid hd
    have HX := Lib.hid hx
    have HW := Lib.hid hW
    have HS := Lib.hid hb0
    clear hb hd hx hv hdt hW hb0
    go_enter Tryd.func23, Tryd.ntmps23
    go_wp2
    rw [HW.out, HS.out]
    refine g_begin (by kernel_rfl) (Ext.refl W0) #[false, false, false, false, false, false, false, false, false, false, false, false] 12 rfl rfl ?_
    refine g_take 0 #[true, false, false, false, false, false, false, false, false, false, false, false] (N := some 5) rfl rfl (by kernel_rfl) (fun _ _ _ h => h) (GP.rd (by rfl) (gy_row (by rfl) rfl (by rfl) (by with_reducible assumption) Tryd.underlying30 rfl (by first | exact vinfo _ | exact einfo _ | kernel_rfl))) (by simp only [Act.put, List.setIfInBounds_toArray, List.set_cons_zero, List.set_cons_succ]; rfl) ?_
    refine g_take 1 #[true, true, false, false, false, false, false, false, false, false, false, false] (N := some 6) rfl rfl (by kernel_rfl) (fun _ _ _ h => h) (GP.rd (by rfl) (gy_call (by rfl) rfl Tryd.func32 (by kernel_rfl) rfl #[_] (by rfl) (fun w _ => Dot_calls HD.out w))) (by simp only [Act.put, List.setIfInBounds_toArray, List.set_cons_zero, List.set_cons_succ]; rfl) ?_
    refine g_take 2 #[true, true, true, false, false, false, false, false, false, false, false, false] (N := some 7) rfl rfl (by kernel_rfl) (fun _ _ _ h => h) (GP.p (gy_pure (by rfl) (fun w_ => by go_simp; with_reducible rfl))) (by simp only [Act.put, List.setIfInBounds_toArray, List.set_cons_zero, List.set_cons_succ]; rfl) ?_
    refine g_take 3 #[true, true, true, true, false, false, false, false, false, false, false, false] (N := some 8) rfl rfl (by kernel_rfl) (fun _ _ _ h => h) (GP.p (gy_off (by rfl))) (by simp only [Act.put, List.setIfInBounds_toArray, List.set_cons_zero, List.set_cons_succ]; rfl) ?_
    refine g_take 4 #[true, true, true, true, true, false, false, false, false, false, false, false] (N := some 9) rfl rfl (by kernel_rfl) (fun _ _ _ h => h) (GP.p (gy_off (by rfl))) (by simp only [Act.put, List.setIfInBounds_toArray, List.set_cons_zero, List.set_cons_succ]; rfl) ?_
    refine g_take 5 #[true, true, true, true, true, true, false, false, false, false, false, false] (N := some 10) rfl rfl (by kernel_rfl) (fun _ _ _ h => h) (GP.p (gy_off (by rfl))) (by simp only [Act.put, List.setIfInBounds_toArray, List.set_cons_zero, List.set_cons_succ]; rfl) ?_
    refine g_take 6 #[true, true, true, true, true, true, true, false, false, false, false, false] (N := some 11) rfl rfl (by kernel_rfl) (fun _ _ _ h => h) (GP.p (gy_off (by rfl))) (by simp only [Act.put, List.setIfInBounds_toArray, List.set_cons_zero, List.set_cons_succ]; rfl) ?_
    refine g_take 7 #[true, true, true, true, true, true, true, true, false, false, false, false] (N := some 12) rfl rfl (by kernel_rfl) (fun _ _ _ h => h) (GP.p (gy_off (by rfl))) (by simp only [Act.put, List.setIfInBounds_toArray, List.set_cons_zero, List.set_cons_succ]; rfl) ?_
    refine g_take 8 #[true, true, true, true, true, true, true, true, true, false, false, false] (N := some 13) rfl rfl (by kernel_rfl) (fun _ _ _ h => h) (GP.p (gy_off (by rfl))) (by simp only [Act.put, List.setIfInBounds_toArray, List.set_cons_zero, List.set_cons_succ]; rfl) ?_
    refine g_take 9 #[true, true, true, true, true, true, true, true, true, true, false, false] (N := some 14) rfl rfl (by kernel_rfl) (fun _ _ _ h => h) (GP.p (gy_off (by rfl))) (by simp only [Act.put, List.setIfInBounds_toArray, List.set_cons_zero, List.set_cons_succ]; rfl) ?_
    refine g_take 10 #[true, true, true, true, true, true, true, true, true, true, true, false] (N := some 15) rfl rfl (by kernel_rfl) (fun _ _ _ h => h) (GP.p (gy_pure (by rfl) (fun w_ => by go_simp; with_reducible rfl))) (by simp only [Act.put, List.setIfInBounds_toArray, List.set_cons_zero, List.set_cons_succ]; rfl) ?_
    refine g_take 11 #[true, true, true, true, true, true, true, true, true, true, true, true] (N := some 4) rfl rfl (by kernel_rfl) (fun _ _ _ h => h) (GP.p (gy_pure (by rfl) (fun w_ => by go_simp; with_reducible rfl))) (by simp only [Act.put, List.setIfInBounds_toArray, List.set_cons_zero, List.set_cons_succ]; rfl) ?_
    refine g_done (by kernel_rfl) (fun w1 hw1 => ?_)
    go_wp2
    go_ret
    exact ⟨rfl, HX.out.trans hw1⟩
  | true =>
    obtain ⟨h0, h1, h2, h3⟩ := dotB_iff.1 hd
    obtain ⟨n, rfl⟩ : ∃ n : Nat, r = n := ⟨r.toNat, by omega⟩
    have cn := range_at (blk_range hv) n (by omega)
    rw [Nat.zero_add] at cn
    have hk : decide (c ≤ v.at n) = b := by rw [← hb, knowsB, hd, Bool.true_and, Int.toNat_natCast]
    have HK := Lib.hid hk
    have HD := Lib.hid hd
    have HX := Lib.hid hx
    have HW := Lib.hid hW
    have HS := Lib.hid hb0
    clear hb hd hx hv hdt hW hk hb0
    go_enter Tryd.func23, Tryd.ntmps23
    go_wp2
    rw [HW.out, HS.out]
    refine g_begin (by kernel_rfl) (Ext.refl W0) #[false, false, false, false, false, false, false, false, false, false, false, false] 12 rfl rfl ?_
    refine g_take 0 #[true, false, false, false, false, false, false, false, false, false, false, false] (N := some 5) rfl rfl (by kernel_rfl) (fun _ _ _ h => h) (GP.rd (by rfl) (gy_row (by rfl) rfl (by rfl) (by with_reducible assumption) Tryd.underlying30 rfl (by first | exact vinfo _ | exact einfo _ | kernel_rfl))) (by simp only [Act.put, List.setIfInBounds_toArray, List.set_cons_zero, List.set_cons_succ]; rfl) ?_
    refine g_take 1 #[true, true, false, false, false, false, false, false, false, false, false, false] (N := some 6) rfl rfl (by kernel_rfl) (fun _ _ _ h => h) (GP.rd (by rfl) (gy_call (by rfl) rfl Tryd.func32 (by kernel_rfl) rfl #[_] (by rfl) (fun w _ => Dot_calls HD.out w))) (by simp only [Act.put, List.setIfInBounds_toArray, List.set_cons_zero, List.set_cons_succ]; rfl) ?_
    refine g_take 2 #[true, true, true, false, false, false, false, false, false, false, false, false] (N := some 7) rfl rfl (by kernel_rfl) (fun _ _ _ h => h) (GP.p (gy_pure (by rfl) (fun w_ => by go_simp; with_reducible rfl))) (by simp only [Act.put, List.setIfInBounds_toArray, List.set_cons_zero, List.set_cons_succ]; rfl) ?_
    refine g_take 3 #[true, true, true, true, false, false, false, false, false, false, false, false] (N := some 8) rfl rfl (by kernel_rfl) (fun _ _ _ h => h) (GP.p (gy_pure (by rfl) (fun w_ => by go_simp; with_reducible rfl))) (by simp only [Act.put, List.setIfInBounds_toArray, List.set_cons_zero, List.set_cons_succ]; rfl) ?_
    refine g_take 4 #[true, true, true, true, true, false, false, false, false, false, false, false] (N := some 9) rfl rfl (by kernel_rfl) (fun _ _ _ h => h) (GP.rd (by rfl) (gy_load1 (by rfl) rfl (by rfl) Tryd.isAgg3 (by with_reducible assumption))) (by simp only [Act.put, List.setIfInBounds_toArray, List.set_cons_zero, List.set_cons_succ]; rfl) ?_
    refine g_take 5 #[true, true, true, true, true, true, false, false, false, false, false, false] (N := some 10) rfl rfl (by kernel_rfl) (fun _ _ _ h => h) (GP.p (gy_pure (by rfl) (fun w_ => by go_simp; with_reducible rfl))) (by simp only [Act.put, List.setIfInBounds_toArray, List.set_cons_zero, List.set_cons_succ]; rfl) ?_
    refine g_take 6 #[true, true, true, true, true, true, true, false, false, false, false, false] (N := some 11) rfl rfl (by kernel_rfl) (fun _ _ _ h => h) (GP.rd (by rfl) (gy_load1 (by rfl) rfl (by rfl) Tryd.isAgg3 (by with_reducible assumption))) (by simp only [Act.put, List.setIfInBounds_toArray, List.set_cons_zero, List.set_cons_succ]; rfl) ?_
    refine g_take 7 #[true, true, true, true, true, true, true, true, false, false, false, false] (N := some 12) rfl rfl (by kernel_rfl) (fun _ _ _ h => h) (GP.p (gy_pure (by rfl) (fun w_ => by go_simp; with_reducible rfl))) (by simp only [Act.put, List.setIfInBounds_toArray, List.set_cons_zero, List.set_cons_succ]; rfl) ?_
    refine g_take 8 #[true, true, true, true, true, true, true, true, true, false, false, false] (N := some 13) rfl rfl (by kernel_rfl) (fun _ _ _ h => h) (GP.rd (by rfl) (gy_load1 (by rfl) rfl (by rfl) Tryd.isAgg3 (by with_reducible assumption))) (by simp only [Act.put, List.setIfInBounds_toArray, List.set_cons_zero, List.set_cons_succ]; rfl) ?_
    refine g_take 9 #[true, true, true, true, true, true, true, true, true, true, false, false] (N := some 14) rfl rfl (by kernel_rfl) (fun _ _ _ h => h) (GP.p (gy_pure (by rfl) (fun w_ => by go_simp; with_reducible rfl))) (by simp only [Act.put, List.setIfInBounds_toArray, List.set_cons_zero, List.set_cons_succ]; rfl) ?_
    refine g_take 10 #[true, true, true, true, true, true, true, true, true, true, true, false] (N := some 15) rfl rfl (by kernel_rfl) (fun _ _ _ h => h) (GP.p (gy_pure (by rfl) (fun w_ => by go_simp; with_reducible rfl))) (by simp only [Act.put, List.setIfInBounds_toArray, List.set_cons_zero, List.set_cons_succ]; rfl) ?_
    refine g_take 11 #[true, true, true, true, true, true, true, true, true, true, true, true] (N := some 4) rfl rfl (by kernel_rfl) (fun _ _ _ h => h) (GP.p (gy_pure (by rfl) (fun w_ => by go_simp; with_reducible rfl))) (by simp only [Act.put, List.setIfInBounds_toArray, List.set_cons_zero, List.set_cons_succ]; rfl) ?_
    refine g_done (by kernel_rfl) (fun w1 hw1 => ?_)
    go_wp2
    go_ret
    exact ⟨ret_bool (by rw [← HK.out]), HX.out.trans hw1⟩
end Go.Proofs.YthmnohecmmknpaaDoor.Vec
