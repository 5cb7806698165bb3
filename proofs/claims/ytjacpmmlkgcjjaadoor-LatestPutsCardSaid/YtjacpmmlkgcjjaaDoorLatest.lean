/- The register of latest: New, Put, Get, walked. -/
import Derived.Test.YtjacpmmlkgcjjaaDoorPAx6
import Derived.Test.YtjacpmmlkgcjjaaDoorMaps
import Derived.Test.YtjacpmmlkgcjjaaDoorWords
import Derived.Deep.RegionHeld3
import Derived.Lib.Hide
import Derived.Carry
namespace Go.Proofs.YtjacpmmlkgcjjaaDoor.Latest
open Go.RowKit Go.ChangeMaps Go.Proofs.YtjacpmmlkgcjjaaDoorW.PrintWords Go.Proofs.YtjacpmmlkgcjjaaDoorW.PrintLast Go.Proofs.YtjacpmmlkgcjjaaDoor.Given Go.Proofs.YtjacpmmlkgcjjaaDoor.PA
open Go.Maps (Keyed string_keyed)
open Go.WideMaps
set_option linter.unusedVariables false
set_option linter.unusedSimpArgs false
def val33 (c : S33) : Value := .agg #[.string c.f0, .int .i64 c.f1.f0, .int .i64 c.f1.f1, .int .i64 c.f2.f0, .int .i64 c.f2.f1, .string c.f2.f2]
def ents (L : List S33) : List (Value × Value) := L.map fun c => (.string c.f0, val33 c)
structure RegAt (w : World) (g b : Nat) (L : List S33) : Prop where
  reg : w.heap[g]? = some (.cells #[.map (some b)] 50 (0, 0))
  map : MapAt Tryd.prog 9 w b (ents L)
theorem law9 : Keyed Tryd.prog 9 := string_keyed Tryd.underlying9
theorem zero33 (w : World) : (zeroValue 33).run Tryd.prog w = .ok (val33 z33) w := by kernel_rfl
theorem nodup_fst {α β : Type} {l : List (α × β)} (h : (l.map (·.1)).Nodup) {x : α} {u v : β} (h1 : (x, u) ∈ l) (h2 : (x, v) ∈ l) : u = v := by
  obtain ⟨i, hi, e1⟩ := List.mem_iff_getElem.1 h1
  obtain ⟨j, hj, e2⟩ := List.mem_iff_getElem.1 h2
  have : i = j := nodup_inj h (by simpa using hi) (by simpa using hj) (by simp [e1, e2])
  subst this
  rw [e1] at e2
  exact (Prod.mk.inj e2).2
theorem New_calls (w : World) : Calls Tryd.prog 9 #[] w fun e w' => e = .returned (.pointer (some ⟨w.heap.size + 1, 0, none⟩)) ∧ (w.alloc (.map #[] 0)).alloc (.cells #[.map (some w.heap.size)] 50) = w' := by
  have hmm := @run_makeMap Tryd.prog
  go_enter Tryd.func9, Tryd.ntmps9
  go_wp2
  go_ret
  exact ⟨rfl, rfl⟩
set_option maxHeartbeats 1000000 in
theorem Put_bad (k : Nat) (g : Nat) (c : S33) (w : World) (h : latest_right.f k c.f0 c.f1.f0 c.f1.f1 c.f2.f0 c.f2.f1 c.f2.f2 = some false) :
    Calls Tryd.prog 12 #[.pointer (some ⟨g, 0, none⟩), val33 c] w fun e w' => e = .returned (.tuple #[.bool false, .int .i64 1]) ∧ Below w.heap.size w w' := by
  have HR := Lib.hid h
  clear h
  unfold val33
  go_enter Tryd.func12, Tryd.ntmps12
  go_wp2_with fail
  refine (latest_right.calls k _ _ _ _ _ _ false _ HR.out).mono ?_
  rintro e w' ⟨rfl, hb⟩
  go_wp2
  go_ret2
  exact ⟨rfl, ((Below.refl _ _).alloc (Nat.le_refl _) _).trans (hb.mono (by simp))⟩
structure KeptBut (w w' : World) (b : Nat) : Prop where
  os : w'.os = w.os
  tape : w'.tape = w.tape
  output : w'.output = w.output
  size : w.heap.size ≤ w'.heap.size
  block : ∀ i, i < w.heap.size → i ≠ b → w'.heap[i]? = w.heap[i]?
def PutL (L : List S33) (c : S33) (L' : List S33) : Prop :=
  ((∀ x ∈ L, x.f0 ≠ c.f0) ∧ L' = L ++ [c]) ∨ ∃ L1 u L2, L = L1 ++ u :: L2 ∧ u.f0 = c.f0 ∧ L' = L1 ++ c :: L2
theorem PutL.of {L : List S33} {c : S33} {l' : List (Value × Value)} (h : PutKV (ents L) (.string c.f0) (val33 c) l') : ∃ L', PutL L c L' ∧ ents L' = l' := by
  rcases h with ⟨h1, rfl⟩ | ⟨l1, u, l2, h1, rfl⟩
  · refine ⟨L ++ [c], Or.inl ⟨fun x hx e => h1 (.string x.f0, val33 x) (List.mem_map.2 ⟨x, hx, rfl⟩) (by rw [e]), rfl⟩, by simp [ents]⟩
  · obtain ⟨L1, L2', rfl, rfl, h2⟩ := List.map_eq_append_iff.1 h1
    obtain ⟨a, L2, rfl, h3, rfl⟩ := List.map_eq_cons_iff.1 h2
    have h4 : a.f0 = c.f0 := by have := (Prod.mk.inj h3).1; injection this
    exact ⟨L1 ++ c :: L2, Or.inr ⟨L1, a, L2, rfl, h4, rfl⟩, by simp [ents]⟩
theorem RegAt.ne {w : World} {g b : Nat} {L : List S33} (h : RegAt w g b L) : g ≠ b := by
  rintro rfl
  obtain ⟨es, clock, hb, _⟩ := h.map
  rw [h.reg] at hb
  cases hb
theorem RegAt.below {w w' : World} {g b : Nat} {L : List S33} (h : RegAt w g b L) (hb : Below w.heap.size w w') : RegAt w' g b L :=
  ⟨blk_below h.reg hb, h.map.same (hb.block b h.map.lt)⟩
def put3.T : Bool × List (List Nat × List Nat) := (true, [([], []), ([0], [0]), ([1], [1]), ([2], [2]), ([], []), ([4], [4]), ([3, 5], [3, 5]), ([6], [6]), ([7], [7]), ([7], [7]), ([], []), ([10, 8, 0, 1, 2, 3, 4, 5, 6, 7, 8, 10], [8, 10]), ([9, 11, 0, 1, 2, 3, 4, 5, 6, 7, 8, 9, 10, 11], [9])])
def put3.B : List Nat := [0, 1, 3, 7, 0, 16, 63, 127, 255, 255, 0, 1535, 4095]
theorem put3.tab : rtab .any (opsOf Tryd.f12 3) = put3.T := by kernel_rfl
theorem put3.bits : waitsOk put3.T.2 put3.B = true := by kernel_rfl
def put4.T : Bool × List (List Nat × List Nat) := (true, [([], []), ([0], [0]), ([1], [1]), ([2, 1], [1, 2]), ([1], [1]), ([4, 1], [1, 4]), ([3, 5, 1, 1], [1, 3, 5]), ([1], [1]), ([7, 1], [1, 7]), ([1], [1]), ([9, 1], [1, 9]), ([8, 10, 6, 1], [1, 8, 10]), ([6, 11, 1], [1, 6, 11]), ([12, 11, 1], [1, 12]), ([13, 1], [1, 13]), ([1, 14], [1, 14])])
def put4.B : List Nat := [0, 1, 3, 7, 3, 19, 63, 3, 131, 3, 515, 2047, 4095, 8191, 16383, 32767]
theorem put4.tab : rtab .any (opsOf Tryd.f12 4) = put4.T := by kernel_rfl
theorem put4.bits : waitsOk put4.T.2 put4.B = true := by kernel_rfl
def put6.T : Bool × List (List Nat × List Nat) := (true, [([], []), ([0], [0]), ([1], [1]), ([2], [2]), ([], []), ([4], [4]), ([], []), ([3, 5, 6, 0, 1, 2, 3, 4, 5, 6], [3, 5, 6])])
def put6.B : List Nat := [0, 1, 3, 7, 0, 16, 0, 127]
theorem put6.tab : rtab .any (opsOf Tryd.f12 6) = put6.T := by kernel_rfl
theorem put6.bits : waitsOk put6.T.2 put6.B = true := by kernel_rfl
set_option maxHeartbeats 4000000 in
set_option maxRecDepth 100000 in
theorem Put_old (k : Nat) (g b : Nat) (L : List S33) (c : S33) (w : World) (hr : RegAt w g b L) (h : latest_right.f k c.f0 c.f1.f0 c.f1.f1 c.f2.f0 c.f2.f1 c.f2.f2 = some true) (hn : c.f0.size ≤ maxLen)
    (was : S33) (hw : was ∈ L) (hnm : was.f0 = c.f0) (o v z : Int) (ho : latest_order.f k c.f1.f0 c.f1.f1 was.f1.f0 was.f1.f1 = some o) (hv : value_Compare.f k c.f2.f0 c.f2.f1 c.f2.f2 was.f2.f0 was.f2.f1 was.f2.f2 = some v)
    (hz : cmp_Or_int.f k [o, v] = some z) (hz0 : z ≤ 0) :
    Calls Tryd.prog 12 #[.pointer (some ⟨g, 0, none⟩), val33 c] w fun e w' => e = .returned (.tuple #[.bool false, .int .i64 0]) ∧ Below w.heap.size w w' := by
  have hgb := hr.ne
  obtain ⟨hreg, hmap⟩ := hr
  have hg := (Array.getElem?_eq_some_iff.1 hreg).1
  have hbl := hmap.lt
  have hlook := hmap.look law9 Tryd.underlying27 zero33 (keyOf_string_mk Tryd.underlying9 hn)
  have hlook2 : ∀ y : World, y.heap[b]? = w.heap[b]? → (Instr.lookup 27 (.map (some b)) (.string c.f0) true).run Tryd.prog y = .ok (.tuple #[val33 was, .bool true]) y := by
    rcases hlook with ⟨hno, _⟩ | ⟨u, hu, hrun⟩
    · exact absurd (by rw [hnm] : (Value.string was.f0) = .string c.f0) (hno (.string was.f0, val33 was) (List.mem_map.2 ⟨was, hw, rfl⟩))
    · have e1 : u = val33 was := by
        have hnd := hmap.nodup
        have h1 : (Value.string c.f0, u) ∈ ents L := hu
        have h2 : (Value.string c.f0, val33 was) ∈ ents L := List.mem_map.2 ⟨was, hw, by rw [hnm]⟩
        exact nodup_fst hnd h1 h2
      intro y hy
      rw [hrun y hy true, e1]
      rfl
  have HR := Lib.hid h
  have HO := Lib.hid ho
  have HV := Lib.hid hv
  have HZ := Lib.hid hz
  have HL := Lib.hid hlook2
  have HB := Lib.hid hreg
  clear h ho hv hz hlook hlook2 hreg hmap hnm hw
  unfold val33
  go_enter Tryd.func12, Tryd.ntmps12
  go_wp2_with fail
  refine (latest_right.calls k _ _ _ _ _ _ true _ HR.out).mono ?_
  rintro e w1 ⟨rfl, hb⟩
  have hbA : w1.heap[w.heap.size]? = some (.cells #[.string c.f0, .int .i64 c.f1.f0, .int .i64 c.f1.f1, .int .i64 c.f2.f0, .int .i64 c.f2.f1, .string c.f2.f2] 33 (0, 0)) := (hb.block w.heap.size (by simp)).trans (heap_alloc_new w _)
  have hG : w1.heap[g]? = some (.cells #[.map (some b)] 50 (0, 0)) := ((hb.block g (by simp; omega)).trans (Below.heap_alloc _ _ _ hg)).trans HB.out
  have hM : w1.heap[b]? = w.heap[b]? := (hb.block b (by simp; omega)).trans (Below.heap_alloc _ _ _ hbl)
  have hW : Below w.heap.size w w1 := ((Below.refl _ _).alloc (Nat.le_refl _) _).trans (hb.mono (by simp))
  have HM := Lib.hid hM
  have HG := Lib.hid hG
  have HA := Lib.hid hbA
  have HW := Lib.hid hW
  clear hM hG hbA hW hb
  have hLK := HL.out
  unfold val33 at hLK
  go_wp2_with fail
  refine start_ (n := 13) (S := fun w' => (w'.heap[g]? = some (.cells #[.map (some b)] 50 (0, 0))) ∧ (w'.heap[w.heap.size]? = some (.cells #[.string c.f0, .int .i64 c.f1.f0, .int .i64 c.f1.f1, .int .i64 c.f2.f0, .int .i64 c.f2.f1, .string c.f2.f2] 33 (0, 0))) ∧ (w'.heap[b]? = w.heap[b]?) ∧ (Below w.heap.size w w')) (ds := []) #[false, false, false, false, false, false, false, false, false, false, false, false, false] (by kernel_rfl) rfl rfl ⟨HG.out, HA.out, HM.out, below_drew HW.out⟩ (fun hHeld => ?_); refine with_tabW put3.tab put3.bits (fun HT_ HW_ => ?_)
  generalize w1.drew = w2 at hHeld ⊢
  have H2 := Lib.hid hHeld
  have hb2 : b < w2.heap.size := Nat.lt_of_lt_of_le hbl hHeld.2.2.2.size
  refine pure_ (i := 0) (N := some 16) (v := ?_) (a' := ?_) #[true, false, false, false, false, false, false, false, false, false, false, false, false] rfl rfl (any_of HT_.out (by kernel_rfl)) (fun _ _ _ h => h) (Or.inl ⟨by rfl, ?_⟩) ?_ ?_
  rotate_left
  · intro w'
    go_simp
    with_reducible rfl
  rotate_left
  · simp only [Act.put, List.setIfInBounds_toArray, List.set_cons_zero, List.set_cons_succ, i64_w, i32_w]
    rfl
  refine pure_ (i := 1) (N := some 17) (v := ?_) (a' := ?_) #[true, true, false, false, false, false, false, false, false, false, false, false, false] rfl rfl (any_of HT_.out (by kernel_rfl)) (fun _ _ _ h => h) (Or.inl ⟨by rfl, ?_⟩) ?_ ?_
  rotate_left
  · intro w'
    go_simp
    with_reducible rfl
  rotate_left
  · simp only [Act.put, List.setIfInBounds_toArray, List.set_cons_zero, List.set_cons_succ, i64_w, i32_w]
    rfl
  refine pure_ (i := 2) (N := some 18) (v := ?_) (a' := ?_) #[true, true, true, false, false, false, false, false, false, false, false, false, false] rfl rfl (any_of HT_.out (by kernel_rfl)) (fun _ _ _ h => h) (Or.inl ⟨by rfl, ?_⟩) ?_ ?_
  rotate_left
  · intro w'
    go_simp
    with_reducible rfl
  rotate_left
  · simp only [Act.put, List.setIfInBounds_toArray, List.set_cons_zero, List.set_cons_succ, i64_w, i32_w]
    rfl
  refine pure_ (i := 4) (N := some 20) (v := ?_) (a' := ?_) #[true, true, true, false, true, false, false, false, false, false, false, false, false] rfl rfl (any_of HT_.out (by kernel_rfl)) (fun _ _ _ h => h) (Or.inl ⟨by rfl, ?_⟩) ?_ ?_
  rotate_left
  · intro w'
    go_simp
    with_reducible rfl
  rotate_left
  · simp only [Act.put, List.setIfInBounds_toArray, List.set_cons_zero, List.set_cons_succ, i64_w, i32_w]
    rfl
  refine take_ (i := 3) (N := some 19) (v := ?_) (a' := ?_) #[true, true, true, true, true, false, false, false, false, false, false, false, false] rfl rfl (take_ofW HT_.out HW_.out (by kernel_rfl)) (fun _ _ _ h => h) (Or.inl ⟨by rfl, ?_⟩) hHeld ?_ ?_
  rotate_left
  · rintro w' ⟨s0, s1, s2, s3⟩
    have c0 : w'.cell? ⟨g, 0, none⟩ = some (.map (some b)) := (blk_cell s0 0).trans rfl
    go_simp
    with_reducible rfl
  rotate_left
  · simp only [Act.put, List.setIfInBounds_toArray, List.set_cons_zero, List.set_cons_succ, i64_w, i32_w]
    rfl
  refine take_ (i := 5) (N := some 21) (v := ?_) (a' := ?_) #[true, true, true, true, true, true, false, false, false, false, false, false, false] rfl rfl (take_ofW HT_.out HW_.out (by kernel_rfl)) (fun _ _ _ h => h) (Or.inl ⟨by rfl, ?_⟩) hHeld ?_ ?_
  rotate_left
  · rintro w' ⟨s0, s1, s2, s3⟩
    have c1 : w'.cell? ⟨w.heap.size, 0, none⟩ = some (.string c.f0) := (blk_cell s1 0).trans rfl
    go_simp
    with_reducible rfl
  rotate_left
  · simp only [Act.put, List.setIfInBounds_toArray, List.set_cons_zero, List.set_cons_succ, i64_w, i32_w]
    rfl
  refine take_ (i := 6) (N := some 22) (v := ?_) (a' := ?_) #[true, true, true, true, true, true, true, false, false, false, false, false, false] rfl rfl (take_ofW HT_.out HW_.out (by kernel_rfl)) (fun _ _ _ h => h) (Or.inl ⟨by rfl, ?_⟩) hHeld ?_ ?_
  rotate_left
  · rintro w' ⟨s0, s1, s2, s3⟩
    have c2 := hLK w' s2
    go_simp
    with_reducible rfl
  rotate_left
  · simp only [Act.put, List.setIfInBounds_toArray, List.set_cons_zero, List.set_cons_succ, i64_w, i32_w]
    rfl
  refine pure_ (i := 7) (N := some 15) (v := ?_) (a' := ?_) #[true, true, true, true, true, true, true, true, false, false, false, false, false] rfl rfl (any_of HT_.out (by kernel_rfl)) (fun _ _ _ h => h) (Or.inl ⟨by rfl, ?_⟩) ?_ ?_
  rotate_left
  · intro w'
    go_simp
    with_reducible rfl
  rotate_left
  · simp only [Act.put, List.setIfInBounds_toArray, List.set_cons_zero, List.set_cons_succ, i64_w, i32_w]
    rfl
  refine pure_ (i := 8) (N := some 23) (v := ?_) (a' := ?_) #[true, true, true, true, true, true, true, true, true, false, false, false, false] rfl rfl (any_of HT_.out (by kernel_rfl)) (fun _ _ _ h => h) (Or.inl ⟨by rfl, ?_⟩) ?_ ?_
  rotate_left
  · intro w'
    go_simp
    with_reducible rfl
  rotate_left
  · simp only [Act.put, List.setIfInBounds_toArray, List.set_cons_zero, List.set_cons_succ, i64_w, i32_w]
    rfl
  refine pure_ (i := 9) (N := some 24) (v := ?_) (a' := ?_) #[true, true, true, true, true, true, true, true, true, true, false, false, false] rfl rfl (any_of HT_.out (by kernel_rfl)) (fun _ _ _ h => h) (Or.inl ⟨by rfl, ?_⟩) ?_ ?_
  rotate_left
  · intro w'
    go_simp
    with_reducible rfl
  rotate_left
  · simp only [Act.put, List.setIfInBounds_toArray, List.set_cons_zero, List.set_cons_succ, i64_w, i32_w]
    rfl
  refine one_ (i := 10) (N := some 6) #[true, true, true, true, true, true, true, true, true, true, true, false, false] rfl rfl (one_of HT_.out (by kernel_rfl)) (by decide) (fun K hK => ?_)
  refine value_ (w1 := ?_) (v := ?_) (by rfl) rfl ?_ ?_
  rotate_left 2
  · go_simp
    first | rfl | (constructor <;> rfl)
  refine hK.out _ _ ⟨blk_alloc hHeld.1 _, blk_alloc hHeld.2.1 _, (Below.heap_alloc _ _ b hb2).trans hHeld.2.2.1, below_alloc hHeld.2.2.2 _⟩ (fun hHeld => ?_)
  clear hK K
  refine norm_ (a' := ?_) ?_ ?_
  rotate_left
  · show Act.put _ (some 6) _ = _
    simp only [Act.put, List.setIfInBounds_toArray, List.set_cons_zero, List.set_cons_succ, i64_w, i32_w]
    rfl
  refine one_ (i := 11) (N := none) #[true, true, true, true, true, true, true, true, true, true, true, true, false] rfl rfl (one_of HT_.out (by kernel_rfl)) (by decide) (fun K hK => ?_)
  refine skip_ (w1 := ?_) (by rfl) rfl ?_ ?_
  rotate_left
  · go_simp
    first | rfl | (constructor <;> rfl)
  refine hK.out _ _ ⟨blk_alloc H2.out.1 _, blk_alloc H2.out.2.1 _, (Below.heap_alloc _ _ b hb2).trans H2.out.2.2.1, below_alloc H2.out.2.2.2 _⟩ (fun hHeld => ?_)
  clear hK K
  refine pure_ (i := 12) (N := some 7) (v := ?_) (a' := ?_) #[true, true, true, true, true, true, true, true, true, true, true, true, true] rfl rfl (any_of HT_.out (by kernel_rfl)) (fun _ _ _ h => h) (Or.inl ⟨by rfl, ?_⟩) ?_ ?_
  rotate_left
  · intro w'
    go_simp
    with_reducible rfl
  rotate_left
  · simp only [Act.put, List.setIfInBounds_toArray, List.set_cons_zero, List.set_cons_succ, i64_w, i32_w]
    rfl
  refine done_ (done_of HT_.out (by kernel_rfl)) ?_
  go_wp2_with fail
  have H3 : ((w2.alloc (.cells #[.string was.f0, .int .i64 was.f1.f0, .int .i64 was.f1.f1, .int .i64 was.f2.f0, .int .i64 was.f2.f1, .string was.f2.f2] 33)).heap[g]? = some (.cells #[.map (some b)] 50 (0, 0))) ∧ ((w2.alloc (.cells #[.string was.f0, .int .i64 was.f1.f0, .int .i64 was.f1.f1, .int .i64 was.f2.f0, .int .i64 was.f2.f1, .string was.f2.f2] 33)).heap[w.heap.size]? = some (.cells #[.string c.f0, .int .i64 c.f1.f0, .int .i64 c.f1.f1, .int .i64 c.f2.f0, .int .i64 c.f2.f1, .string c.f2.f2] 33 (0, 0))) ∧ ((w2.alloc (.cells #[.string was.f0, .int .i64 was.f1.f0, .int .i64 was.f1.f1, .int .i64 was.f2.f0, .int .i64 was.f2.f1, .string was.f2.f2] 33)).heap[w2.heap.size]? = some (.cells #[.string was.f0, .int .i64 was.f1.f0, .int .i64 was.f1.f1, .int .i64 was.f2.f0, .int .i64 was.f2.f1, .string was.f2.f2] 33 (0, 0))) ∧ ((w2.alloc (.cells #[.string was.f0, .int .i64 was.f1.f0, .int .i64 was.f1.f1, .int .i64 was.f2.f0, .int .i64 was.f2.f1, .string was.f2.f2] 33)).heap[b]? = w.heap[b]?) ∧ Below w.heap.size w (w2.alloc (.cells #[.string was.f0, .int .i64 was.f1.f0, .int .i64 was.f1.f1, .int .i64 was.f2.f0, .int .i64 was.f2.f1, .string was.f2.f2] 33)) := ⟨blk_alloc H2.out.1 _, blk_alloc H2.out.2.1 _, blk_new _ _, (Below.heap_alloc _ _ b hb2).trans H2.out.2.2.1, below_alloc H2.out.2.2.2 _⟩
  clear hHeld
  generalize (w2.alloc (.cells #[.string was.f0, .int .i64 was.f1.f0, .int .i64 was.f1.f1, .int .i64 was.f2.f0, .int .i64 was.f2.f1, .string was.f2.f2] 33)) = w3 at H3 ⊢
  generalize w2.heap.size = wb at H3 ⊢
  have HH3 := Lib.hid H3
  clear H3
  refine start_ (n := 16) (S := fun w' => (w'.heap[g]? = some (.cells #[.map (some b)] 50 (0, 0))) ∧ (w'.heap[w.heap.size]? = some (.cells #[.string c.f0, .int .i64 c.f1.f0, .int .i64 c.f1.f1, .int .i64 c.f2.f0, .int .i64 c.f2.f1, .string c.f2.f2] 33 (0, 0))) ∧ (w'.heap[wb]? = some (.cells #[.string was.f0, .int .i64 was.f1.f0, .int .i64 was.f1.f1, .int .i64 was.f2.f0, .int .i64 was.f2.f1, .string was.f2.f2] 33 (0, 0))) ∧ (w'.heap[b]? = w.heap[b]?) ∧ (Below w.heap.size w w')) (ds := []) #[false, false, false, false, false, false, false, false, false, false, false, false, false, false, false, false] (by kernel_rfl) rfl rfl ⟨HH3.out.1, HH3.out.2.1, HH3.out.2.2.1, HH3.out.2.2.2.1, below_drew HH3.out.2.2.2.2⟩ (fun hHeld => ?_); refine with_tabW put4.tab put4.bits (fun HT_ HW_ => ?_)
  generalize w3.drew = w4 at hHeld ⊢
  refine pure_ (i := 0) (N := some 25) (v := ?_) (a' := ?_) #[true, false, false, false, false, false, false, false, false, false, false, false, false, false, false, false] rfl rfl (any_of HT_.out (by kernel_rfl)) (fun _ _ _ h => h) (Or.inl ⟨by rfl, ?_⟩) ?_ ?_
  rotate_left
  · intro w'
    go_simp
    with_reducible rfl
  rotate_left
  · simp only [Act.put, List.setIfInBounds_toArray, List.set_cons_zero, List.set_cons_succ, i64_w, i32_w]
    rfl
  refine pure_ (i := 1) (N := some 26) (v := ?_) (a' := ?_) #[true, true, false, false, false, false, false, false, false, false, false, false, false, false, false, false] rfl rfl (any_of HT_.out (by kernel_rfl)) (fun _ _ _ h => h) (Or.inl ⟨by rfl, ?_⟩) ?_ ?_
  rotate_left
  · intro w'
    go_simp
    with_reducible rfl
  rotate_left
  · simp only [Act.put, List.setIfInBounds_toArray, List.set_cons_zero, List.set_cons_succ, i64_w, i32_w]
    rfl
  refine pure_ (i := 2) (N := some 27) (v := ?_) (a' := ?_) #[true, true, true, false, false, false, false, false, false, false, false, false, false, false, false, false] rfl rfl (any_of HT_.out (by kernel_rfl)) (fun _ _ _ h => h) (Or.inl ⟨by rfl, ?_⟩) ?_ ?_
  rotate_left
  · intro w'
    go_simp
    with_reducible rfl
  rotate_left
  · simp only [Act.put, List.setIfInBounds_toArray, List.set_cons_zero, List.set_cons_succ, i64_w, i32_w]
    rfl
  refine pure_ (i := 4) (N := some 29) (v := ?_) (a' := ?_) #[true, true, true, false, true, false, false, false, false, false, false, false, false, false, false, false] rfl rfl (any_of HT_.out (by kernel_rfl)) (fun _ _ _ h => h) (Or.inl ⟨by rfl, ?_⟩) ?_ ?_
  rotate_left
  · intro w'
    go_simp
    with_reducible rfl
  rotate_left
  · simp only [Act.put, List.setIfInBounds_toArray, List.set_cons_zero, List.set_cons_succ, i64_w, i32_w]
    rfl
  refine pure_ (i := 7) (N := some 32) (v := ?_) (a' := ?_) #[true, true, true, false, true, false, false, true, false, false, false, false, false, false, false, false] rfl rfl (any_of HT_.out (by kernel_rfl)) (fun _ _ _ h => h) (Or.inl ⟨by rfl, ?_⟩) ?_ ?_
  rotate_left
  · intro w'
    go_simp
    with_reducible rfl
  rotate_left
  · simp only [Act.put, List.setIfInBounds_toArray, List.set_cons_zero, List.set_cons_succ, i64_w, i32_w]
    rfl
  refine pure_ (i := 9) (N := some 34) (v := ?_) (a' := ?_) #[true, true, true, false, true, false, false, true, false, true, false, false, false, false, false, false] rfl rfl (any_of HT_.out (by kernel_rfl)) (fun _ _ _ h => h) (Or.inl ⟨by rfl, ?_⟩) ?_ ?_
  rotate_left
  · intro w'
    go_simp
    with_reducible rfl
  rotate_left
  · simp only [Act.put, List.setIfInBounds_toArray, List.set_cons_zero, List.set_cons_succ, i64_w, i32_w]
    rfl
  refine take_ (i := 3) (N := some 28) (v := ?_) (a' := ?_) #[true, true, true, true, true, false, false, true, false, true, false, false, false, false, false, false] rfl rfl (take_ofW HT_.out HW_.out (by kernel_rfl)) (fun _ _ _ h => h) (Or.inl ⟨by rfl, ?_⟩) hHeld ?_ ?_
  rotate_left
  · rintro w' ⟨s0, s1, s2, s3, s4⟩
    have cs1_1 : w'.cell? ⟨w.heap.size, 1, none⟩ = some (.int .i64 c.f1.f0) := (blk_cell s1 1).trans rfl
    have cs1_2 : w'.cell? ⟨w.heap.size, 2, none⟩ = some (.int .i64 c.f1.f1) := (blk_cell s1 2).trans rfl
    go_simp
    with_reducible rfl
  rotate_left
  · simp only [Act.put, List.setIfInBounds_toArray, List.set_cons_zero, List.set_cons_succ, i64_w, i32_w]
    rfl
  refine take_ (i := 5) (N := some 30) (v := ?_) (a' := ?_) #[true, true, true, true, true, true, false, true, false, true, false, false, false, false, false, false] rfl rfl (take_ofW HT_.out HW_.out (by kernel_rfl)) (fun _ _ _ h => h) (Or.inl ⟨by rfl, ?_⟩) hHeld ?_ ?_
  rotate_left
  · rintro w' ⟨s0, s1, s2, s3, s4⟩
    have cs2_1 : w'.cell? ⟨wb, 1, none⟩ = some (.int .i64 was.f1.f0) := (blk_cell s2 1).trans rfl
    have cs2_2 : w'.cell? ⟨wb, 2, none⟩ = some (.int .i64 was.f1.f1) := (blk_cell s2 2).trans rfl
    go_simp
    with_reducible rfl
  rotate_left
  · simp only [Act.put, List.setIfInBounds_toArray, List.set_cons_zero, List.set_cons_succ, i64_w, i32_w]
    rfl
  refine take_ (i := 8) (N := some 33) (v := ?_) (a' := ?_) #[true, true, true, true, true, true, false, true, true, true, false, false, false, false, false, false] rfl rfl (take_ofW HT_.out HW_.out (by kernel_rfl)) (fun _ _ _ h => h) (Or.inl ⟨by rfl, ?_⟩) hHeld ?_ ?_
  rotate_left
  · rintro w' ⟨s0, s1, s2, s3, s4⟩
    have cs1_3 : w'.cell? ⟨w.heap.size, 3, none⟩ = some (.int .i64 c.f2.f0) := (blk_cell s1 3).trans rfl
    have cs1_4 : w'.cell? ⟨w.heap.size, 4, none⟩ = some (.int .i64 c.f2.f1) := (blk_cell s1 4).trans rfl
    have cs1_5 : w'.cell? ⟨w.heap.size, 5, none⟩ = some (.string c.f2.f2) := (blk_cell s1 5).trans rfl
    go_simp
    with_reducible rfl
  rotate_left
  · simp only [Act.put, List.setIfInBounds_toArray, List.set_cons_zero, List.set_cons_succ, i64_w, i32_w]
    rfl
  refine take_ (i := 10) (N := some 35) (v := ?_) (a' := ?_) #[true, true, true, true, true, true, false, true, true, true, true, false, false, false, false, false] rfl rfl (take_ofW HT_.out HW_.out (by kernel_rfl)) (fun _ _ _ h => h) (Or.inl ⟨by rfl, ?_⟩) hHeld ?_ ?_
  rotate_left
  · rintro w' ⟨s0, s1, s2, s3, s4⟩
    have cs2_3 : w'.cell? ⟨wb, 3, none⟩ = some (.int .i64 was.f2.f0) := (blk_cell s2 3).trans rfl
    have cs2_4 : w'.cell? ⟨wb, 4, none⟩ = some (.int .i64 was.f2.f1) := (blk_cell s2 4).trans rfl
    have cs2_5 : w'.cell? ⟨wb, 5, none⟩ = some (.string was.f2.f2) := (blk_cell s2 5).trans rfl
    go_simp
    with_reducible rfl
  rotate_left
  · simp only [Act.put, List.setIfInBounds_toArray, List.set_cons_zero, List.set_cons_succ, i64_w, i32_w]
    rfl
  refine one_ (i := 6) (N := some 31) #[true, true, true, true, true, true, true, true, true, true, true, false, false, false, false, false] rfl rfl (one_of HT_.out (by kernel_rfl)) (by decide) (fun K hK => ?_)
  refine goes_ Tryd.func23 (by kernel_rfl) rfl #[.agg #[.int .i64 c.f1.f0, .int .i64 c.f1.f1], .agg #[.int .i64 was.f1.f0, .int .i64 was.f1.f1]] (by rfl) rfl rfl (by (try simp only [List.map_toArray, List.map_cons, List.map_nil]); first | done | rfl) ?_
  with_reducible refine (latest_order.calls k _ _ _ _ o _ HO.out).mono ?_
  rintro e w5 ⟨rfl, hb⟩
  refine ⟨_, rfl, ?_⟩
  refine hK.out _ _ ⟨blk_below hHeld.1 hb, blk_below hHeld.2.1 hb, blk_below hHeld.2.2.1 hb, block_step hbl hHeld.2.2.2.2 hb hHeld.2.2.2.1, below_step hHeld.2.2.2.2 hb⟩ (fun hHeld => ?_)
  clear hK K
  refine norm_ (a' := ?_) ?_ ?_
  rotate_left
  · show Act.put _ (some 31) _ = _
    simp only [Act.put, List.setIfInBounds_toArray, List.set_cons_zero, List.set_cons_succ, i64_w, i32_w]
    rfl
  refine one_ (i := 11) (N := some 36) #[true, true, true, true, true, true, true, true, true, true, true, true, false, false, false, false] rfl rfl (one_of HT_.out (by kernel_rfl)) (by decide) (fun K hK => ?_)
  refine goes_ Tryd.func24 (by kernel_rfl) rfl #[.agg #[.int .i64 c.f2.f0, .int .i64 c.f2.f1, .string c.f2.f2], .agg #[.int .i64 was.f2.f0, .int .i64 was.f2.f1, .string was.f2.f2]] (by rfl) rfl rfl (by (try simp only [List.map_toArray, List.map_cons, List.map_nil]); first | done | rfl) ?_
  with_reducible refine (value_Compare.calls k _ _ _ _ _ _ v _ HV.out).mono ?_
  rintro e w6 ⟨rfl, hb⟩
  refine ⟨_, rfl, ?_⟩
  refine hK.out _ _ ⟨blk_below hHeld.1 hb, blk_below hHeld.2.1 hb, blk_below hHeld.2.2.1 hb, block_step hbl hHeld.2.2.2.2 hb hHeld.2.2.2.1, below_step hHeld.2.2.2.2 hb⟩ (fun hHeld => ?_)
  clear hK K
  refine norm_ (a' := ?_) ?_ ?_
  rotate_left
  · show Act.put _ (some 36) _ = _
    simp only [Act.put, List.setIfInBounds_toArray, List.set_cons_zero, List.set_cons_succ, i64_w, i32_w]
    rfl
  refine one_ (i := 12) (N := some 37) #[true, true, true, true, true, true, true, true, true, true, true, true, true, false, false, false] rfl rfl (one_of HT_.out (by kernel_rfl)) (by decide) (fun K hK => ?_)
  refine value_ (w1 := ?_) (v := ?_) (by rfl) rfl ?_ ?_
  rotate_left 2
  · go_simp
    first | rfl | (constructor <;> rfl)
  have hOr : Calls Tryd.prog 22 #[.slice (some ⟨w6.heap.size, 0, none⟩) 2 2] (w6.alloc (.cells #[.int .i64 o, .int .i64 v] 3)) (fun e w' => e = .returned (.int .i64 z) ∧ Drawn0 (w6.alloc (.cells #[.int .i64 o, .int .i64 v] 3)) w') := cmp_Or_int.calls k _ 2 [o, v] z _ (lit_reads w6 3 [o, v] (by simp)) (by simp) HZ.out
  refine hK.out _ _ ⟨blk_below hHeld.1 (below_alloc (Below.refl _ _) _), blk_below hHeld.2.1 (below_alloc (Below.refl _ _) _), blk_below hHeld.2.2.1 (below_alloc (Below.refl _ _) _), block_step hbl hHeld.2.2.2.2 (below_alloc (Below.refl _ _) _) hHeld.2.2.2.1, below_step hHeld.2.2.2.2 (below_alloc (Below.refl _ _) _)⟩ (fun hHeld => ?_)
  clear hK K
  refine norm_ (a' := ?_) ?_ ?_
  rotate_left
  · show Act.put _ (some 37) _ = _
    simp only [Act.put, List.setIfInBounds_toArray, List.set_cons_zero, List.set_cons_succ, i64_w, i32_w]
    rfl
  refine one_ (i := 13) (N := some 38) #[true, true, true, true, true, true, true, true, true, true, true, true, true, true, false, false] rfl rfl (one_of HT_.out (by kernel_rfl)) (by decide) (fun K hK => ?_)
  refine goes_ Tryd.func22 (by kernel_rfl) rfl #[.slice (some ⟨w6.heap.size, 0, none⟩) 2 2] (by rfl) rfl rfl (by (try simp only [List.map_toArray, List.map_cons, List.map_nil]); first | done | rfl) ?_
  with_reducible refine hOr.mono ?_
  rintro e w7 ⟨rfl, hd⟩
  have hb := hd.below
  refine ⟨_, rfl, ?_⟩
  refine hK.out _ _ ⟨blk_below hHeld.1 hb, blk_below hHeld.2.1 hb, blk_below hHeld.2.2.1 hb, block_step hbl hHeld.2.2.2.2 hb hHeld.2.2.2.1, below_step hHeld.2.2.2.2 hb⟩ (fun hHeld => ?_)
  clear hK K
  refine norm_ (a' := ?_) ?_ ?_
  rotate_left
  · show Act.put _ (some 38) _ = _
    simp only [Act.put, List.setIfInBounds_toArray, List.set_cons_zero, List.set_cons_succ, i64_w, i32_w]
    rfl
  refine pure_ (i := 14) (N := some 39) (v := ?_) (a' := ?_) #[true, true, true, true, true, true, true, true, true, true, true, true, true, true, true, false] rfl rfl (any_of HT_.out (by kernel_rfl)) (fun _ _ _ h => h) (Or.inl ⟨by rfl, ?_⟩) ?_ ?_
  rotate_left
  · intro w'
    have hzz : decide (z ≤ 0) = true := decide_eq_true (by omega)
    go_simp
    with_reducible rfl
  rotate_left
  · simp only [Act.put, List.setIfInBounds_toArray, List.set_cons_zero, List.set_cons_succ, i64_w, i32_w]
    rfl
  refine pure_ (i := 15) (N := some 40) (v := ?_) (a' := ?_) #[true, true, true, true, true, true, true, true, true, true, true, true, true, true, true, true] rfl rfl (any_of HT_.out (by kernel_rfl)) (fun _ _ _ h => h) (Or.inl ⟨by rfl, ?_⟩) ?_ ?_
  rotate_left
  · intro w'
    go_simp
    with_reducible rfl
  rotate_left
  · simp only [Act.put, List.setIfInBounds_toArray, List.set_cons_zero, List.set_cons_succ, i64_w, i32_w]
    rfl
  refine done_ (done_of HT_.out (by kernel_rfl)) ?_
  go_wp2
  go_ret2
  exact ⟨rfl, hHeld.2.2.2.2⟩
set_option maxHeartbeats 4000000 in
set_option maxRecDepth 100000 in
theorem Put_absent (k : Nat) (g b : Nat) (L : List S33) (c : S33) (w : World) (hr : RegAt w g b L) (h : latest_right.f k c.f0 c.f1.f0 c.f1.f1 c.f2.f0 c.f2.f1 c.f2.f2 = some true) (hn : c.f0.size ≤ maxLen)
    (hw : ∀ x ∈ L, x.f0 ≠ c.f0) :
    Calls Tryd.prog 12 #[.pointer (some ⟨g, 0, none⟩), val33 c] w fun e w' => e = .returned (.tuple #[.bool true, .int .i64 0]) ∧ ∃ L', PutL L c L' ∧ RegAt w' g b L' ∧ KeptBut w w' b := by
  have hgb := hr.ne
  obtain ⟨hreg, hmap⟩ := hr
  have hg := (Array.getElem?_eq_some_iff.1 hreg).1
  have hbl := hmap.lt
  have hlook := hmap.look law9 Tryd.underlying27 zero33 (keyOf_string_mk Tryd.underlying9 hn)
  obtain ⟨ob, l', hputr, hput⟩ := hmap.put law9 Tryd.underlying27 (keyOf_string_mk Tryd.underlying9 hn) (val33 c)
  obtain ⟨L', hL', rfl⟩ := PutL.of hputr
  unfold val33 at hput
  have HP := Lib.hid hput
  have HLL := Lib.hid hL'
  clear hputr hput hL'
  have hlook2 : ∀ y : World, y.heap[b]? = w.heap[b]? → (Instr.lookup 27 (.map (some b)) (.string c.f0) true).run Tryd.prog y = .ok (.tuple #[val33 z33, .bool false]) y := by
    rcases hlook with ⟨_, hrun⟩ | ⟨u, hu, _⟩
    · intro y hy
      exact hrun y hy true
    · obtain ⟨x, hx, e⟩ := List.mem_map.1 hu
      have := (Prod.mk.inj e).1
      injection this with e2
      exact absurd e2 (hw x hx)
  have HR := Lib.hid h
  have HL := Lib.hid hlook2
  have HB := Lib.hid hreg
  clear h hlook hlook2 hreg hmap hw
  unfold val33
  go_enter Tryd.func12, Tryd.ntmps12
  go_wp2_with fail
  refine (latest_right.calls k _ _ _ _ _ _ true _ HR.out).mono ?_
  rintro e w1 ⟨rfl, hb⟩
  have hbA : w1.heap[w.heap.size]? = some (.cells #[.string c.f0, .int .i64 c.f1.f0, .int .i64 c.f1.f1, .int .i64 c.f2.f0, .int .i64 c.f2.f1, .string c.f2.f2] 33 (0, 0)) := (hb.block w.heap.size (by simp)).trans (heap_alloc_new w _)
  have hG : w1.heap[g]? = some (.cells #[.map (some b)] 50 (0, 0)) := ((hb.block g (by simp; omega)).trans (Below.heap_alloc _ _ _ hg)).trans HB.out
  have hM : w1.heap[b]? = w.heap[b]? := (hb.block b (by simp; omega)).trans (Below.heap_alloc _ _ _ hbl)
  have hW : Below w.heap.size w w1 := ((Below.refl _ _).alloc (Nat.le_refl _) _).trans (hb.mono (by simp))
  have HM := Lib.hid hM
  have HG := Lib.hid hG
  have HA := Lib.hid hbA
  have HW := Lib.hid hW
  clear hM hG hbA hW hb
  have hLK := HL.out
  unfold val33 at hLK
  go_wp2_with fail
  refine start_ (n := 13) (S := fun w' => (w'.heap[g]? = some (.cells #[.map (some b)] 50 (0, 0))) ∧ (w'.heap[w.heap.size]? = some (.cells #[.string c.f0, .int .i64 c.f1.f0, .int .i64 c.f1.f1, .int .i64 c.f2.f0, .int .i64 c.f2.f1, .string c.f2.f2] 33 (0, 0))) ∧ (w'.heap[b]? = w.heap[b]?) ∧ (Below w.heap.size w w')) (ds := []) #[false, false, false, false, false, false, false, false, false, false, false, false, false] (by kernel_rfl) rfl rfl ⟨HG.out, HA.out, HM.out, below_drew HW.out⟩ (fun hHeld => ?_); refine with_tabW put3.tab put3.bits (fun HT_ HW_ => ?_)
  generalize w1.drew = w2 at hHeld ⊢
  have H2 := Lib.hid hHeld
  have hb2 : b < w2.heap.size := Nat.lt_of_lt_of_le hbl hHeld.2.2.2.size
  refine pure_ (i := 0) (N := some 16) (v := ?_) (a' := ?_) #[true, false, false, false, false, false, false, false, false, false, false, false, false] rfl rfl (any_of HT_.out (by kernel_rfl)) (fun _ _ _ h => h) (Or.inl ⟨by rfl, ?_⟩) ?_ ?_
  rotate_left
  · intro w'
    go_simp
    with_reducible rfl
  rotate_left
  · simp only [Act.put, List.setIfInBounds_toArray, List.set_cons_zero, List.set_cons_succ, i64_w, i32_w]
    rfl
  refine pure_ (i := 1) (N := some 17) (v := ?_) (a' := ?_) #[true, true, false, false, false, false, false, false, false, false, false, false, false] rfl rfl (any_of HT_.out (by kernel_rfl)) (fun _ _ _ h => h) (Or.inl ⟨by rfl, ?_⟩) ?_ ?_
  rotate_left
  · intro w'
    go_simp
    with_reducible rfl
  rotate_left
  · simp only [Act.put, List.setIfInBounds_toArray, List.set_cons_zero, List.set_cons_succ, i64_w, i32_w]
    rfl
  refine pure_ (i := 2) (N := some 18) (v := ?_) (a' := ?_) #[true, true, true, false, false, false, false, false, false, false, false, false, false] rfl rfl (any_of HT_.out (by kernel_rfl)) (fun _ _ _ h => h) (Or.inl ⟨by rfl, ?_⟩) ?_ ?_
  rotate_left
  · intro w'
    go_simp
    with_reducible rfl
  rotate_left
  · simp only [Act.put, List.setIfInBounds_toArray, List.set_cons_zero, List.set_cons_succ, i64_w, i32_w]
    rfl
  refine pure_ (i := 4) (N := some 20) (v := ?_) (a' := ?_) #[true, true, true, false, true, false, false, false, false, false, false, false, false] rfl rfl (any_of HT_.out (by kernel_rfl)) (fun _ _ _ h => h) (Or.inl ⟨by rfl, ?_⟩) ?_ ?_
  rotate_left
  · intro w'
    go_simp
    with_reducible rfl
  rotate_left
  · simp only [Act.put, List.setIfInBounds_toArray, List.set_cons_zero, List.set_cons_succ, i64_w, i32_w]
    rfl
  refine take_ (i := 3) (N := some 19) (v := ?_) (a' := ?_) #[true, true, true, true, true, false, false, false, false, false, false, false, false] rfl rfl (take_ofW HT_.out HW_.out (by kernel_rfl)) (fun _ _ _ h => h) (Or.inl ⟨by rfl, ?_⟩) hHeld ?_ ?_
  rotate_left
  · rintro w' ⟨s0, s1, s2, s3⟩
    have c0 : w'.cell? ⟨g, 0, none⟩ = some (.map (some b)) := (blk_cell s0 0).trans rfl
    go_simp
    with_reducible rfl
  rotate_left
  · simp only [Act.put, List.setIfInBounds_toArray, List.set_cons_zero, List.set_cons_succ, i64_w, i32_w]
    rfl
  refine take_ (i := 5) (N := some 21) (v := ?_) (a' := ?_) #[true, true, true, true, true, true, false, false, false, false, false, false, false] rfl rfl (take_ofW HT_.out HW_.out (by kernel_rfl)) (fun _ _ _ h => h) (Or.inl ⟨by rfl, ?_⟩) hHeld ?_ ?_
  rotate_left
  · rintro w' ⟨s0, s1, s2, s3⟩
    have c1 : w'.cell? ⟨w.heap.size, 0, none⟩ = some (.string c.f0) := (blk_cell s1 0).trans rfl
    go_simp
    with_reducible rfl
  rotate_left
  · simp only [Act.put, List.setIfInBounds_toArray, List.set_cons_zero, List.set_cons_succ, i64_w, i32_w]
    rfl
  refine take_ (i := 6) (N := some 22) (v := ?_) (a' := ?_) #[true, true, true, true, true, true, true, false, false, false, false, false, false] rfl rfl (take_ofW HT_.out HW_.out (by kernel_rfl)) (fun _ _ _ h => h) (Or.inl ⟨by rfl, ?_⟩) hHeld ?_ ?_
  rotate_left
  · rintro w' ⟨s0, s1, s2, s3⟩
    have c2 := hLK w' s2
    go_simp
    with_reducible rfl
  rotate_left
  · simp only [Act.put, List.setIfInBounds_toArray, List.set_cons_zero, List.set_cons_succ, i64_w, i32_w]
    rfl
  refine pure_ (i := 7) (N := some 15) (v := ?_) (a' := ?_) #[true, true, true, true, true, true, true, true, false, false, false, false, false] rfl rfl (any_of HT_.out (by kernel_rfl)) (fun _ _ _ h => h) (Or.inl ⟨by rfl, ?_⟩) ?_ ?_
  rotate_left
  · intro w'
    go_simp
    with_reducible rfl
  rotate_left
  · simp only [Act.put, List.setIfInBounds_toArray, List.set_cons_zero, List.set_cons_succ, i64_w, i32_w]
    rfl
  refine pure_ (i := 8) (N := some 23) (v := ?_) (a' := ?_) #[true, true, true, true, true, true, true, true, true, false, false, false, false] rfl rfl (any_of HT_.out (by kernel_rfl)) (fun _ _ _ h => h) (Or.inl ⟨by rfl, ?_⟩) ?_ ?_
  rotate_left
  · intro w'
    go_simp
    with_reducible rfl
  rotate_left
  · simp only [Act.put, List.setIfInBounds_toArray, List.set_cons_zero, List.set_cons_succ, i64_w, i32_w]
    rfl
  refine pure_ (i := 9) (N := some 24) (v := ?_) (a' := ?_) #[true, true, true, true, true, true, true, true, true, true, false, false, false] rfl rfl (any_of HT_.out (by kernel_rfl)) (fun _ _ _ h => h) (Or.inl ⟨by rfl, ?_⟩) ?_ ?_
  rotate_left
  · intro w'
    go_simp
    with_reducible rfl
  rotate_left
  · simp only [Act.put, List.setIfInBounds_toArray, List.set_cons_zero, List.set_cons_succ, i64_w, i32_w]
    rfl
  refine one_ (i := 10) (N := some 6) #[true, true, true, true, true, true, true, true, true, true, true, false, false] rfl rfl (one_of HT_.out (by kernel_rfl)) (by decide) (fun K hK => ?_)
  refine value_ (w1 := ?_) (v := ?_) (by rfl) rfl ?_ ?_
  rotate_left 2
  · go_simp
    first | rfl | (constructor <;> rfl)
  refine hK.out _ _ ⟨blk_alloc hHeld.1 _, blk_alloc hHeld.2.1 _, (Below.heap_alloc _ _ b hb2).trans hHeld.2.2.1, below_alloc hHeld.2.2.2 _⟩ (fun hHeld => ?_)
  clear hK K
  refine norm_ (a' := ?_) ?_ ?_
  rotate_left
  · show Act.put _ (some 6) _ = _
    simp only [Act.put, List.setIfInBounds_toArray, List.set_cons_zero, List.set_cons_succ, i64_w, i32_w]
    rfl
  refine one_ (i := 11) (N := none) #[true, true, true, true, true, true, true, true, true, true, true, true, false] rfl rfl (one_of HT_.out (by kernel_rfl)) (by decide) (fun K hK => ?_)
  refine skip_ (w1 := ?_) (by rfl) rfl ?_ ?_
  rotate_left
  · go_simp
    first | rfl | (constructor <;> rfl)
  refine hK.out _ _ ⟨blk_alloc H2.out.1 _, blk_alloc H2.out.2.1 _, (Below.heap_alloc _ _ b hb2).trans H2.out.2.2.1, below_alloc H2.out.2.2.2 _⟩ (fun hHeld => ?_)
  clear hK K
  refine pure_ (i := 12) (N := some 7) (v := ?_) (a' := ?_) #[true, true, true, true, true, true, true, true, true, true, true, true, true] rfl rfl (any_of HT_.out (by kernel_rfl)) (fun _ _ _ h => h) (Or.inl ⟨by rfl, ?_⟩) ?_ ?_
  rotate_left
  · intro w'
    go_simp
    with_reducible rfl
  rotate_left
  · simp only [Act.put, List.setIfInBounds_toArray, List.set_cons_zero, List.set_cons_succ, i64_w, i32_w]
    rfl
  refine done_ (done_of HT_.out (by kernel_rfl)) ?_
  go_wp2_with fail
  have H3 : ((w2.alloc (.cells #[.string z33.f0, .int .i64 z33.f1.f0, .int .i64 z33.f1.f1, .int .i64 z33.f2.f0, .int .i64 z33.f2.f1, .string z33.f2.f2] 33)).heap[g]? = some (.cells #[.map (some b)] 50 (0, 0))) ∧ ((w2.alloc (.cells #[.string z33.f0, .int .i64 z33.f1.f0, .int .i64 z33.f1.f1, .int .i64 z33.f2.f0, .int .i64 z33.f2.f1, .string z33.f2.f2] 33)).heap[w.heap.size]? = some (.cells #[.string c.f0, .int .i64 c.f1.f0, .int .i64 c.f1.f1, .int .i64 c.f2.f0, .int .i64 c.f2.f1, .string c.f2.f2] 33 (0, 0))) ∧ ((w2.alloc (.cells #[.string z33.f0, .int .i64 z33.f1.f0, .int .i64 z33.f1.f1, .int .i64 z33.f2.f0, .int .i64 z33.f2.f1, .string z33.f2.f2] 33)).heap[w2.heap.size]? = some (.cells #[.string z33.f0, .int .i64 z33.f1.f0, .int .i64 z33.f1.f1, .int .i64 z33.f2.f0, .int .i64 z33.f2.f1, .string z33.f2.f2] 33 (0, 0))) ∧ ((w2.alloc (.cells #[.string z33.f0, .int .i64 z33.f1.f0, .int .i64 z33.f1.f1, .int .i64 z33.f2.f0, .int .i64 z33.f2.f1, .string z33.f2.f2] 33)).heap[b]? = w.heap[b]?) ∧ Below w.heap.size w (w2.alloc (.cells #[.string z33.f0, .int .i64 z33.f1.f0, .int .i64 z33.f1.f1, .int .i64 z33.f2.f0, .int .i64 z33.f2.f1, .string z33.f2.f2] 33)) := ⟨blk_alloc H2.out.1 _, blk_alloc H2.out.2.1 _, blk_new _ _, (Below.heap_alloc _ _ b hb2).trans H2.out.2.2.1, below_alloc H2.out.2.2.2 _⟩
  clear hHeld
  generalize (w2.alloc (.cells #[.string z33.f0, .int .i64 z33.f1.f0, .int .i64 z33.f1.f1, .int .i64 z33.f2.f0, .int .i64 z33.f2.f1, .string z33.f2.f2] 33)) = w3 at H3 ⊢
  generalize w2.heap.size = wb at H3 ⊢
  have HH3 := Lib.hid H3
  clear H3
  refine start_ (n := 16) (S := fun w' => (w'.heap[g]? = some (.cells #[.map (some b)] 50 (0, 0))) ∧ (w'.heap[w.heap.size]? = some (.cells #[.string c.f0, .int .i64 c.f1.f0, .int .i64 c.f1.f1, .int .i64 c.f2.f0, .int .i64 c.f2.f1, .string c.f2.f2] 33 (0, 0))) ∧ (w'.heap[wb]? = some (.cells #[.string z33.f0, .int .i64 z33.f1.f0, .int .i64 z33.f1.f1, .int .i64 z33.f2.f0, .int .i64 z33.f2.f1, .string z33.f2.f2] 33 (0, 0))) ∧ (w'.heap[b]? = w.heap[b]?) ∧ (Below w.heap.size w w')) (ds := []) #[false, false, false, false, false, false, false, false, false, false, false, false, false, false, false, false] (by kernel_rfl) rfl rfl ⟨HH3.out.1, HH3.out.2.1, HH3.out.2.2.1, HH3.out.2.2.2.1, below_drew HH3.out.2.2.2.2⟩ (fun hHeld => ?_); refine with_tabW put4.tab put4.bits (fun HT_ HW_ => ?_)
  generalize w3.drew = w4 at hHeld ⊢
  refine pure_ (i := 0) (N := some 25) (v := ?_) (a' := ?_) #[true, false, false, false, false, false, false, false, false, false, false, false, false, false, false, false] rfl rfl (any_of HT_.out (by kernel_rfl)) (fun _ _ _ h => h) (Or.inl ⟨by rfl, ?_⟩) ?_ ?_
  rotate_left
  · intro w'
    go_simp
    with_reducible rfl
  rotate_left
  · simp only [Act.put, List.setIfInBounds_toArray, List.set_cons_zero, List.set_cons_succ, i64_w, i32_w]
    rfl
  refine pure_ (i := 1) (N := some 26) (v := ?_) (a' := ?_) #[true, true, false, false, false, false, false, false, false, false, false, false, false, false, false, false] rfl rfl (any_of HT_.out (by kernel_rfl)) (fun _ _ _ h => h) (Or.inl ⟨by rfl, ?_⟩) ?_ ?_
  rotate_left
  · intro w'
    go_simp
    with_reducible rfl
  rotate_left
  · simp only [Act.put, List.setIfInBounds_toArray, List.set_cons_zero, List.set_cons_succ, i64_w, i32_w]
    rfl
  refine pure_ (i := 2) (N := some 27) (v := undef) (a' := ?_) #[true, true, true, false, false, false, false, false, false, false, false, false, false, false, false, false] rfl rfl (any_of HT_.out (by kernel_rfl)) (fun _ _ _ h => h) (Or.inr ⟨by rfl, rfl⟩) ?_ ?_
  rotate_left
  · simp only [Act.put, List.setIfInBounds_toArray, List.set_cons_zero, List.set_cons_succ, i64_w, i32_w]
    rfl
  refine pure_ (i := 3) (N := some 28) (v := undef) (a' := ?_) #[true, true, true, true, false, false, false, false, false, false, false, false, false, false, false, false] rfl rfl (any_of HT_.out (by kernel_rfl)) (fun _ _ _ h => h) (Or.inr ⟨by rfl, rfl⟩) ?_ ?_
  rotate_left
  · simp only [Act.put, List.setIfInBounds_toArray, List.set_cons_zero, List.set_cons_succ, i64_w, i32_w]
    rfl
  refine pure_ (i := 4) (N := some 29) (v := undef) (a' := ?_) #[true, true, true, true, true, false, false, false, false, false, false, false, false, false, false, false] rfl rfl (any_of HT_.out (by kernel_rfl)) (fun _ _ _ h => h) (Or.inr ⟨by rfl, rfl⟩) ?_ ?_
  rotate_left
  · simp only [Act.put, List.setIfInBounds_toArray, List.set_cons_zero, List.set_cons_succ, i64_w, i32_w]
    rfl
  refine pure_ (i := 5) (N := some 30) (v := undef) (a' := ?_) #[true, true, true, true, true, true, false, false, false, false, false, false, false, false, false, false] rfl rfl (any_of HT_.out (by kernel_rfl)) (fun _ _ _ h => h) (Or.inr ⟨by rfl, rfl⟩) ?_ ?_
  rotate_left
  · simp only [Act.put, List.setIfInBounds_toArray, List.set_cons_zero, List.set_cons_succ, i64_w, i32_w]
    rfl
  refine pure_ (i := 6) (N := some 31) (v := undef) (a' := ?_) #[true, true, true, true, true, true, true, false, false, false, false, false, false, false, false, false] rfl rfl (any_of HT_.out (by kernel_rfl)) (fun _ _ _ h => h) (Or.inr ⟨by rfl, rfl⟩) ?_ ?_
  rotate_left
  · simp only [Act.put, List.setIfInBounds_toArray, List.set_cons_zero, List.set_cons_succ, i64_w, i32_w]
    rfl
  refine pure_ (i := 7) (N := some 32) (v := undef) (a' := ?_) #[true, true, true, true, true, true, true, true, false, false, false, false, false, false, false, false] rfl rfl (any_of HT_.out (by kernel_rfl)) (fun _ _ _ h => h) (Or.inr ⟨by rfl, rfl⟩) ?_ ?_
  rotate_left
  · simp only [Act.put, List.setIfInBounds_toArray, List.set_cons_zero, List.set_cons_succ, i64_w, i32_w]
    rfl
  refine pure_ (i := 8) (N := some 33) (v := undef) (a' := ?_) #[true, true, true, true, true, true, true, true, true, false, false, false, false, false, false, false] rfl rfl (any_of HT_.out (by kernel_rfl)) (fun _ _ _ h => h) (Or.inr ⟨by rfl, rfl⟩) ?_ ?_
  rotate_left
  · simp only [Act.put, List.setIfInBounds_toArray, List.set_cons_zero, List.set_cons_succ, i64_w, i32_w]
    rfl
  refine pure_ (i := 9) (N := some 34) (v := undef) (a' := ?_) #[true, true, true, true, true, true, true, true, true, true, false, false, false, false, false, false] rfl rfl (any_of HT_.out (by kernel_rfl)) (fun _ _ _ h => h) (Or.inr ⟨by rfl, rfl⟩) ?_ ?_
  rotate_left
  · simp only [Act.put, List.setIfInBounds_toArray, List.set_cons_zero, List.set_cons_succ, i64_w, i32_w]
    rfl
  refine pure_ (i := 10) (N := some 35) (v := undef) (a' := ?_) #[true, true, true, true, true, true, true, true, true, true, true, false, false, false, false, false] rfl rfl (any_of HT_.out (by kernel_rfl)) (fun _ _ _ h => h) (Or.inr ⟨by rfl, rfl⟩) ?_ ?_
  rotate_left
  · simp only [Act.put, List.setIfInBounds_toArray, List.set_cons_zero, List.set_cons_succ, i64_w, i32_w]
    rfl
  refine pure_ (i := 11) (N := some 36) (v := undef) (a' := ?_) #[true, true, true, true, true, true, true, true, true, true, true, true, false, false, false, false] rfl rfl (any_of HT_.out (by kernel_rfl)) (fun _ _ _ h => h) (Or.inr ⟨by rfl, rfl⟩) ?_ ?_
  rotate_left
  · simp only [Act.put, List.setIfInBounds_toArray, List.set_cons_zero, List.set_cons_succ, i64_w, i32_w]
    rfl
  refine pure_ (i := 12) (N := some 37) (v := undef) (a' := ?_) #[true, true, true, true, true, true, true, true, true, true, true, true, true, false, false, false] rfl rfl (any_of HT_.out (by kernel_rfl)) (fun _ _ _ h => h) (Or.inr ⟨by rfl, rfl⟩) ?_ ?_
  rotate_left
  · simp only [Act.put, List.setIfInBounds_toArray, List.set_cons_zero, List.set_cons_succ, i64_w, i32_w]
    rfl
  refine pure_ (i := 13) (N := some 38) (v := undef) (a' := ?_) #[true, true, true, true, true, true, true, true, true, true, true, true, true, true, false, false] rfl rfl (any_of HT_.out (by kernel_rfl)) (fun _ _ _ h => h) (Or.inr ⟨by rfl, rfl⟩) ?_ ?_
  rotate_left
  · simp only [Act.put, List.setIfInBounds_toArray, List.set_cons_zero, List.set_cons_succ, i64_w, i32_w]
    rfl
  refine pure_ (i := 14) (N := some 39) (v := undef) (a' := ?_) #[true, true, true, true, true, true, true, true, true, true, true, true, true, true, true, false] rfl rfl (any_of HT_.out (by kernel_rfl)) (fun _ _ _ h => h) (Or.inr ⟨by rfl, rfl⟩) ?_ ?_
  rotate_left
  · simp only [Act.put, List.setIfInBounds_toArray, List.set_cons_zero, List.set_cons_succ, i64_w, i32_w]
    rfl
  refine pure_ (i := 15) (N := some 40) (v := ?_) (a' := ?_) #[true, true, true, true, true, true, true, true, true, true, true, true, true, true, true, true] rfl rfl (any_of HT_.out (by kernel_rfl)) (fun _ _ _ h => h) (Or.inl ⟨by rfl, ?_⟩) ?_ ?_
  rotate_left
  · intro w'
    go_simp
    with_reducible rfl
  rotate_left
  · simp only [Act.put, List.setIfInBounds_toArray, List.set_cons_zero, List.set_cons_succ, i64_w, i32_w]
    rfl
  refine done_ (done_of HT_.out (by kernel_rfl)) ?_
  go_wp2_with fail
  have H5 := (⟨hHeld.1, hHeld.2.1, hHeld.2.2.2.1, hHeld.2.2.2.2⟩ : _ ∧ _ ∧ _ ∧ _)
  clear hHeld
  generalize w4 = w5 at H5 ⊢
  have HH5 := Lib.hid H5
  clear H5
  refine start_ (n := 8) (S := fun w' => (w'.heap[g]? = some (.cells #[.map (some b)] 50 (0, 0))) ∧ (w'.heap[w.heap.size]? = some (.cells #[.string c.f0, .int .i64 c.f1.f0, .int .i64 c.f1.f1, .int .i64 c.f2.f0, .int .i64 c.f2.f1, .string c.f2.f2] 33 (0, 0))) ∧ (w'.heap[b]? = w.heap[b]?) ∧ (Below w.heap.size w w')) (ds := [7]) #[false, false, false, false, false, false, false, false] (by kernel_rfl) rfl rfl ⟨HH5.out.1, HH5.out.2.1, HH5.out.2.2.1, below_drew HH5.out.2.2.2⟩ (fun hHeld => ?_); refine with_tabW put6.tab put6.bits (fun HT_ HW_ => ?_)
  generalize w5.drew = w8 at hHeld ⊢
  have H8 := Lib.hid hHeld
  refine pure_ (i := 0) (N := some 41) (v := ?_) (a' := ?_) #[true, false, false, false, false, false, false, false] rfl rfl (any_of HT_.out (by kernel_rfl)) (fun _ _ _ h => h) (Or.inl ⟨by rfl, ?_⟩) ?_ ?_
  rotate_left
  · intro w'
    go_simp
    with_reducible rfl
  rotate_left
  · simp only [Act.put, List.setIfInBounds_toArray, List.set_cons_zero, List.set_cons_succ, i64_w, i32_w]
    rfl
  refine pure_ (i := 1) (N := some 42) (v := ?_) (a' := ?_) #[true, true, false, false, false, false, false, false] rfl rfl (any_of HT_.out (by kernel_rfl)) (fun _ _ _ h => h) (Or.inl ⟨by rfl, ?_⟩) ?_ ?_
  rotate_left
  · intro w'
    go_simp
    with_reducible rfl
  rotate_left
  · simp only [Act.put, List.setIfInBounds_toArray, List.set_cons_zero, List.set_cons_succ, i64_w, i32_w]
    rfl
  refine pure_ (i := 2) (N := some 43) (v := ?_) (a' := ?_) #[true, true, true, false, false, false, false, false] rfl rfl (any_of HT_.out (by kernel_rfl)) (fun _ _ _ h => h) (Or.inl ⟨by rfl, ?_⟩) ?_ ?_
  rotate_left
  · intro w'
    go_simp
    with_reducible rfl
  rotate_left
  · simp only [Act.put, List.setIfInBounds_toArray, List.set_cons_zero, List.set_cons_succ, i64_w, i32_w]
    rfl
  refine pure_ (i := 4) (N := some 45) (v := ?_) (a' := ?_) #[true, true, true, false, true, false, false, false] rfl rfl (any_of HT_.out (by kernel_rfl)) (fun _ _ _ h => h) (Or.inl ⟨by rfl, ?_⟩) ?_ ?_
  rotate_left
  · intro w'
    go_simp
    with_reducible rfl
  rotate_left
  · simp only [Act.put, List.setIfInBounds_toArray, List.set_cons_zero, List.set_cons_succ, i64_w, i32_w]
    rfl
  refine take_ (i := 3) (N := some 44) (v := ?_) (a' := ?_) #[true, true, true, true, true, false, false, false] rfl rfl (take_ofW HT_.out HW_.out (by kernel_rfl)) (fun _ _ _ h => h) (Or.inl ⟨by rfl, ?_⟩) hHeld ?_ ?_
  rotate_left
  · rintro w' ⟨s0, s1, s2, s3⟩
    have c0 : w'.cell? ⟨g, 0, none⟩ = some (.map (some b)) := (blk_cell s0 0).trans rfl
    go_simp
    with_reducible rfl
  rotate_left
  · simp only [Act.put, List.setIfInBounds_toArray, List.set_cons_zero, List.set_cons_succ, i64_w, i32_w]
    rfl
  refine take_ (i := 5) (N := some 46) (v := ?_) (a' := ?_) #[true, true, true, true, true, true, false, false] rfl rfl (take_ofW HT_.out HW_.out (by kernel_rfl)) (fun _ _ _ h => h) (Or.inl ⟨by rfl, ?_⟩) hHeld ?_ ?_
  rotate_left
  · rintro w' ⟨s0, s1, s2, s3⟩
    have c1 : w'.cell? ⟨w.heap.size, 0, none⟩ = some (.string c.f0) := (blk_cell s1 0).trans rfl
    go_simp
    with_reducible rfl
  rotate_left
  · simp only [Act.put, List.setIfInBounds_toArray, List.set_cons_zero, List.set_cons_succ, i64_w, i32_w]
    rfl
  refine take_ (i := 6) (N := some 47) (v := ?_) (a' := ?_) #[true, true, true, true, true, true, true, false] rfl rfl (take_ofW HT_.out HW_.out (by kernel_rfl)) (fun _ _ _ h => h) (Or.inl ⟨by rfl, ?_⟩) hHeld ?_ ?_
  rotate_left
  · rintro w' ⟨s0, s1, s2, s3⟩
    have c1_0 : w'.cell? ⟨w.heap.size, 0, none⟩ = some (.string c.f0) := (blk_cell s1 0).trans rfl
    have c1_1 : w'.cell? ⟨w.heap.size, 1, none⟩ = some (.int .i64 c.f1.f0) := (blk_cell s1 1).trans rfl
    have c1_2 : w'.cell? ⟨w.heap.size, 2, none⟩ = some (.int .i64 c.f1.f1) := (blk_cell s1 2).trans rfl
    have c1_3 : w'.cell? ⟨w.heap.size, 3, none⟩ = some (.int .i64 c.f2.f0) := (blk_cell s1 3).trans rfl
    have c1_4 : w'.cell? ⟨w.heap.size, 4, none⟩ = some (.int .i64 c.f2.f1) := (blk_cell s1 4).trans rfl
    have c1_5 : w'.cell? ⟨w.heap.size, 5, none⟩ = some (.string c.f2.f2) := (blk_cell s1 5).trans rfl
    go_simp
    with_reducible rfl
  rotate_left
  · simp only [Act.put, List.setIfInBounds_toArray, List.set_cons_zero, List.set_cons_succ, i64_w, i32_w]
    rfl
  refine last_ (i := 7) (N := none) #[true, true, true, true, true, true, true, true] rfl rfl (one_of HT_.out (by kernel_rfl)) (by decide) (fun K hK => ?_)
  obtain ⟨hrun8, hmap8⟩ := HP.out w8 hHeld.2.2.1
  refine skip_ (w1 := ?_) (by rfl) rfl ?_ ?_
  rotate_left
  · go_simp
    first | rfl | (constructor <;> rfl)
  refine hK.out _ _ ?_
  clear hK K
  refine done_ (done_of HT_.out (by kernel_rfl)) ?_
  go_wp2
  go_ret2
  exact ⟨rfl, L', HLL.out, ⟨(heap_set_ne hgb).trans H8.out.1, hmap8⟩, ⟨H8.out.2.2.2.os, H8.out.2.2.2.tape, H8.out.2.2.2.output, by simpa [setBlock] using H8.out.2.2.2.size, fun i hi hib => (heap_set_ne hib).trans (H8.out.2.2.2.block i hi)⟩⟩
set_option maxHeartbeats 4000000 in
set_option maxRecDepth 100000 in
theorem Put_there (k : Nat) (g b : Nat) (L : List S33) (c : S33) (w : World) (hr : RegAt w g b L) (h : latest_right.f k c.f0 c.f1.f0 c.f1.f1 c.f2.f0 c.f2.f1 c.f2.f2 = some true) (hn : c.f0.size ≤ maxLen)
    (was : S33) (hw : was ∈ L) (hnm : was.f0 = c.f0) (o v z : Int) (ho : latest_order.f k c.f1.f0 c.f1.f1 was.f1.f0 was.f1.f1 = some o) (hv : value_Compare.f k c.f2.f0 c.f2.f1 c.f2.f2 was.f2.f0 was.f2.f1 was.f2.f2 = some v)
    (hz : cmp_Or_int.f k [o, v] = some z) (hz0 : ¬ z ≤ 0) :
    Calls Tryd.prog 12 #[.pointer (some ⟨g, 0, none⟩), val33 c] w fun e w' => e = .returned (.tuple #[.bool true, .int .i64 0]) ∧ ∃ L', PutL L c L' ∧ RegAt w' g b L' ∧ KeptBut w w' b := by
  have hgb := hr.ne
  obtain ⟨hreg, hmap⟩ := hr
  have hg := (Array.getElem?_eq_some_iff.1 hreg).1
  have hbl := hmap.lt
  have hlook := hmap.look law9 Tryd.underlying27 zero33 (keyOf_string_mk Tryd.underlying9 hn)
  obtain ⟨ob, l', hputr, hput⟩ := hmap.put law9 Tryd.underlying27 (keyOf_string_mk Tryd.underlying9 hn) (val33 c)
  obtain ⟨L', hL', rfl⟩ := PutL.of hputr
  unfold val33 at hput
  have HP := Lib.hid hput
  have HLL := Lib.hid hL'
  clear hputr hput hL'
  have hlook2 : ∀ y : World, y.heap[b]? = w.heap[b]? → (Instr.lookup 27 (.map (some b)) (.string c.f0) true).run Tryd.prog y = .ok (.tuple #[val33 was, .bool true]) y := by
    rcases hlook with ⟨hno, _⟩ | ⟨u, hu, hrun⟩
    · exact absurd (by rw [hnm] : (Value.string was.f0) = .string c.f0) (hno (.string was.f0, val33 was) (List.mem_map.2 ⟨was, hw, rfl⟩))
    · have e1 : u = val33 was := by
        have hnd := hmap.nodup
        have h1 : (Value.string c.f0, u) ∈ ents L := hu
        have h2 : (Value.string c.f0, val33 was) ∈ ents L := List.mem_map.2 ⟨was, hw, by rw [hnm]⟩
        exact nodup_fst hnd h1 h2
      intro y hy
      rw [hrun y hy true, e1]
      rfl
  have HR := Lib.hid h
  have HO := Lib.hid ho
  have HV := Lib.hid hv
  have HZ := Lib.hid hz
  have HL := Lib.hid hlook2
  have HB := Lib.hid hreg
  clear h ho hv hz hlook hlook2 hreg hmap hnm hw
  unfold val33
  go_enter Tryd.func12, Tryd.ntmps12
  go_wp2_with fail
  refine (latest_right.calls k _ _ _ _ _ _ true _ HR.out).mono ?_
  rintro e w1 ⟨rfl, hb⟩
  have hbA : w1.heap[w.heap.size]? = some (.cells #[.string c.f0, .int .i64 c.f1.f0, .int .i64 c.f1.f1, .int .i64 c.f2.f0, .int .i64 c.f2.f1, .string c.f2.f2] 33 (0, 0)) := (hb.block w.heap.size (by simp)).trans (heap_alloc_new w _)
  have hG : w1.heap[g]? = some (.cells #[.map (some b)] 50 (0, 0)) := ((hb.block g (by simp; omega)).trans (Below.heap_alloc _ _ _ hg)).trans HB.out
  have hM : w1.heap[b]? = w.heap[b]? := (hb.block b (by simp; omega)).trans (Below.heap_alloc _ _ _ hbl)
  have hW : Below w.heap.size w w1 := ((Below.refl _ _).alloc (Nat.le_refl _) _).trans (hb.mono (by simp))
  have HM := Lib.hid hM
  have HG := Lib.hid hG
  have HA := Lib.hid hbA
  have HW := Lib.hid hW
  clear hM hG hbA hW hb
  have hLK := HL.out
  unfold val33 at hLK
  go_wp2_with fail
  refine start_ (n := 13) (S := fun w' => (w'.heap[g]? = some (.cells #[.map (some b)] 50 (0, 0))) ∧ (w'.heap[w.heap.size]? = some (.cells #[.string c.f0, .int .i64 c.f1.f0, .int .i64 c.f1.f1, .int .i64 c.f2.f0, .int .i64 c.f2.f1, .string c.f2.f2] 33 (0, 0))) ∧ (w'.heap[b]? = w.heap[b]?) ∧ (Below w.heap.size w w')) (ds := []) #[false, false, false, false, false, false, false, false, false, false, false, false, false] (by kernel_rfl) rfl rfl ⟨HG.out, HA.out, HM.out, below_drew HW.out⟩ (fun hHeld => ?_); refine with_tabW put3.tab put3.bits (fun HT_ HW_ => ?_)
  generalize w1.drew = w2 at hHeld ⊢
  have H2 := Lib.hid hHeld
  have hb2 : b < w2.heap.size := Nat.lt_of_lt_of_le hbl hHeld.2.2.2.size
  refine pure_ (i := 0) (N := some 16) (v := ?_) (a' := ?_) #[true, false, false, false, false, false, false, false, false, false, false, false, false] rfl rfl (any_of HT_.out (by kernel_rfl)) (fun _ _ _ h => h) (Or.inl ⟨by rfl, ?_⟩) ?_ ?_
  rotate_left
  · intro w'
    go_simp
    with_reducible rfl
  rotate_left
  · simp only [Act.put, List.setIfInBounds_toArray, List.set_cons_zero, List.set_cons_succ, i64_w, i32_w]
    rfl
  refine pure_ (i := 1) (N := some 17) (v := ?_) (a' := ?_) #[true, true, false, false, false, false, false, false, false, false, false, false, false] rfl rfl (any_of HT_.out (by kernel_rfl)) (fun _ _ _ h => h) (Or.inl ⟨by rfl, ?_⟩) ?_ ?_
  rotate_left
  · intro w'
    go_simp
    with_reducible rfl
  rotate_left
  · simp only [Act.put, List.setIfInBounds_toArray, List.set_cons_zero, List.set_cons_succ, i64_w, i32_w]
    rfl
  refine pure_ (i := 2) (N := some 18) (v := ?_) (a' := ?_) #[true, true, true, false, false, false, false, false, false, false, false, false, false] rfl rfl (any_of HT_.out (by kernel_rfl)) (fun _ _ _ h => h) (Or.inl ⟨by rfl, ?_⟩) ?_ ?_
  rotate_left
  · intro w'
    go_simp
    with_reducible rfl
  rotate_left
  · simp only [Act.put, List.setIfInBounds_toArray, List.set_cons_zero, List.set_cons_succ, i64_w, i32_w]
    rfl
  refine pure_ (i := 4) (N := some 20) (v := ?_) (a' := ?_) #[true, true, true, false, true, false, false, false, false, false, false, false, false] rfl rfl (any_of HT_.out (by kernel_rfl)) (fun _ _ _ h => h) (Or.inl ⟨by rfl, ?_⟩) ?_ ?_
  rotate_left
  · intro w'
    go_simp
    with_reducible rfl
  rotate_left
  · simp only [Act.put, List.setIfInBounds_toArray, List.set_cons_zero, List.set_cons_succ, i64_w, i32_w]
    rfl
  refine take_ (i := 3) (N := some 19) (v := ?_) (a' := ?_) #[true, true, true, true, true, false, false, false, false, false, false, false, false] rfl rfl (take_ofW HT_.out HW_.out (by kernel_rfl)) (fun _ _ _ h => h) (Or.inl ⟨by rfl, ?_⟩) hHeld ?_ ?_
  rotate_left
  · rintro w' ⟨s0, s1, s2, s3⟩
    have c0 : w'.cell? ⟨g, 0, none⟩ = some (.map (some b)) := (blk_cell s0 0).trans rfl
    go_simp
    with_reducible rfl
  rotate_left
  · simp only [Act.put, List.setIfInBounds_toArray, List.set_cons_zero, List.set_cons_succ, i64_w, i32_w]
    rfl
  refine take_ (i := 5) (N := some 21) (v := ?_) (a' := ?_) #[true, true, true, true, true, true, false, false, false, false, false, false, false] rfl rfl (take_ofW HT_.out HW_.out (by kernel_rfl)) (fun _ _ _ h => h) (Or.inl ⟨by rfl, ?_⟩) hHeld ?_ ?_
  rotate_left
  · rintro w' ⟨s0, s1, s2, s3⟩
    have c1 : w'.cell? ⟨w.heap.size, 0, none⟩ = some (.string c.f0) := (blk_cell s1 0).trans rfl
    go_simp
    with_reducible rfl
  rotate_left
  · simp only [Act.put, List.setIfInBounds_toArray, List.set_cons_zero, List.set_cons_succ, i64_w, i32_w]
    rfl
  refine take_ (i := 6) (N := some 22) (v := ?_) (a' := ?_) #[true, true, true, true, true, true, true, false, false, false, false, false, false] rfl rfl (take_ofW HT_.out HW_.out (by kernel_rfl)) (fun _ _ _ h => h) (Or.inl ⟨by rfl, ?_⟩) hHeld ?_ ?_
  rotate_left
  · rintro w' ⟨s0, s1, s2, s3⟩
    have c2 := hLK w' s2
    go_simp
    with_reducible rfl
  rotate_left
  · simp only [Act.put, List.setIfInBounds_toArray, List.set_cons_zero, List.set_cons_succ, i64_w, i32_w]
    rfl
  refine pure_ (i := 7) (N := some 15) (v := ?_) (a' := ?_) #[true, true, true, true, true, true, true, true, false, false, false, false, false] rfl rfl (any_of HT_.out (by kernel_rfl)) (fun _ _ _ h => h) (Or.inl ⟨by rfl, ?_⟩) ?_ ?_
  rotate_left
  · intro w'
    go_simp
    with_reducible rfl
  rotate_left
  · simp only [Act.put, List.setIfInBounds_toArray, List.set_cons_zero, List.set_cons_succ, i64_w, i32_w]
    rfl
  refine pure_ (i := 8) (N := some 23) (v := ?_) (a' := ?_) #[true, true, true, true, true, true, true, true, true, false, false, false, false] rfl rfl (any_of HT_.out (by kernel_rfl)) (fun _ _ _ h => h) (Or.inl ⟨by rfl, ?_⟩) ?_ ?_
  rotate_left
  · intro w'
    go_simp
    with_reducible rfl
  rotate_left
  · simp only [Act.put, List.setIfInBounds_toArray, List.set_cons_zero, List.set_cons_succ, i64_w, i32_w]
    rfl
  refine pure_ (i := 9) (N := some 24) (v := ?_) (a' := ?_) #[true, true, true, true, true, true, true, true, true, true, false, false, false] rfl rfl (any_of HT_.out (by kernel_rfl)) (fun _ _ _ h => h) (Or.inl ⟨by rfl, ?_⟩) ?_ ?_
  rotate_left
  · intro w'
    go_simp
    with_reducible rfl
  rotate_left
  · simp only [Act.put, List.setIfInBounds_toArray, List.set_cons_zero, List.set_cons_succ, i64_w, i32_w]
    rfl
  refine one_ (i := 10) (N := some 6) #[true, true, true, true, true, true, true, true, true, true, true, false, false] rfl rfl (one_of HT_.out (by kernel_rfl)) (by decide) (fun K hK => ?_)
  refine value_ (w1 := ?_) (v := ?_) (by rfl) rfl ?_ ?_
  rotate_left 2
  · go_simp
    first | rfl | (constructor <;> rfl)
  refine hK.out _ _ ⟨blk_alloc hHeld.1 _, blk_alloc hHeld.2.1 _, (Below.heap_alloc _ _ b hb2).trans hHeld.2.2.1, below_alloc hHeld.2.2.2 _⟩ (fun hHeld => ?_)
  clear hK K
  refine norm_ (a' := ?_) ?_ ?_
  rotate_left
  · show Act.put _ (some 6) _ = _
    simp only [Act.put, List.setIfInBounds_toArray, List.set_cons_zero, List.set_cons_succ, i64_w, i32_w]
    rfl
  refine one_ (i := 11) (N := none) #[true, true, true, true, true, true, true, true, true, true, true, true, false] rfl rfl (one_of HT_.out (by kernel_rfl)) (by decide) (fun K hK => ?_)
  refine skip_ (w1 := ?_) (by rfl) rfl ?_ ?_
  rotate_left
  · go_simp
    first | rfl | (constructor <;> rfl)
  refine hK.out _ _ ⟨blk_alloc H2.out.1 _, blk_alloc H2.out.2.1 _, (Below.heap_alloc _ _ b hb2).trans H2.out.2.2.1, below_alloc H2.out.2.2.2 _⟩ (fun hHeld => ?_)
  clear hK K
  refine pure_ (i := 12) (N := some 7) (v := ?_) (a' := ?_) #[true, true, true, true, true, true, true, true, true, true, true, true, true] rfl rfl (any_of HT_.out (by kernel_rfl)) (fun _ _ _ h => h) (Or.inl ⟨by rfl, ?_⟩) ?_ ?_
  rotate_left
  · intro w'
    go_simp
    with_reducible rfl
  rotate_left
  · simp only [Act.put, List.setIfInBounds_toArray, List.set_cons_zero, List.set_cons_succ, i64_w, i32_w]
    rfl
  refine done_ (done_of HT_.out (by kernel_rfl)) ?_
  go_wp2_with fail
  have H3 : ((w2.alloc (.cells #[.string was.f0, .int .i64 was.f1.f0, .int .i64 was.f1.f1, .int .i64 was.f2.f0, .int .i64 was.f2.f1, .string was.f2.f2] 33)).heap[g]? = some (.cells #[.map (some b)] 50 (0, 0))) ∧ ((w2.alloc (.cells #[.string was.f0, .int .i64 was.f1.f0, .int .i64 was.f1.f1, .int .i64 was.f2.f0, .int .i64 was.f2.f1, .string was.f2.f2] 33)).heap[w.heap.size]? = some (.cells #[.string c.f0, .int .i64 c.f1.f0, .int .i64 c.f1.f1, .int .i64 c.f2.f0, .int .i64 c.f2.f1, .string c.f2.f2] 33 (0, 0))) ∧ ((w2.alloc (.cells #[.string was.f0, .int .i64 was.f1.f0, .int .i64 was.f1.f1, .int .i64 was.f2.f0, .int .i64 was.f2.f1, .string was.f2.f2] 33)).heap[w2.heap.size]? = some (.cells #[.string was.f0, .int .i64 was.f1.f0, .int .i64 was.f1.f1, .int .i64 was.f2.f0, .int .i64 was.f2.f1, .string was.f2.f2] 33 (0, 0))) ∧ ((w2.alloc (.cells #[.string was.f0, .int .i64 was.f1.f0, .int .i64 was.f1.f1, .int .i64 was.f2.f0, .int .i64 was.f2.f1, .string was.f2.f2] 33)).heap[b]? = w.heap[b]?) ∧ Below w.heap.size w (w2.alloc (.cells #[.string was.f0, .int .i64 was.f1.f0, .int .i64 was.f1.f1, .int .i64 was.f2.f0, .int .i64 was.f2.f1, .string was.f2.f2] 33)) := ⟨blk_alloc H2.out.1 _, blk_alloc H2.out.2.1 _, blk_new _ _, (Below.heap_alloc _ _ b hb2).trans H2.out.2.2.1, below_alloc H2.out.2.2.2 _⟩
  clear hHeld
  generalize (w2.alloc (.cells #[.string was.f0, .int .i64 was.f1.f0, .int .i64 was.f1.f1, .int .i64 was.f2.f0, .int .i64 was.f2.f1, .string was.f2.f2] 33)) = w3 at H3 ⊢
  generalize w2.heap.size = wb at H3 ⊢
  have HH3 := Lib.hid H3
  clear H3
  refine start_ (n := 16) (S := fun w' => (w'.heap[g]? = some (.cells #[.map (some b)] 50 (0, 0))) ∧ (w'.heap[w.heap.size]? = some (.cells #[.string c.f0, .int .i64 c.f1.f0, .int .i64 c.f1.f1, .int .i64 c.f2.f0, .int .i64 c.f2.f1, .string c.f2.f2] 33 (0, 0))) ∧ (w'.heap[wb]? = some (.cells #[.string was.f0, .int .i64 was.f1.f0, .int .i64 was.f1.f1, .int .i64 was.f2.f0, .int .i64 was.f2.f1, .string was.f2.f2] 33 (0, 0))) ∧ (w'.heap[b]? = w.heap[b]?) ∧ (Below w.heap.size w w')) (ds := []) #[false, false, false, false, false, false, false, false, false, false, false, false, false, false, false, false] (by kernel_rfl) rfl rfl ⟨HH3.out.1, HH3.out.2.1, HH3.out.2.2.1, HH3.out.2.2.2.1, below_drew HH3.out.2.2.2.2⟩ (fun hHeld => ?_); refine with_tabW put4.tab put4.bits (fun HT_ HW_ => ?_)
  generalize w3.drew = w4 at hHeld ⊢
  refine pure_ (i := 0) (N := some 25) (v := ?_) (a' := ?_) #[true, false, false, false, false, false, false, false, false, false, false, false, false, false, false, false] rfl rfl (any_of HT_.out (by kernel_rfl)) (fun _ _ _ h => h) (Or.inl ⟨by rfl, ?_⟩) ?_ ?_
  rotate_left
  · intro w'
    go_simp
    with_reducible rfl
  rotate_left
  · simp only [Act.put, List.setIfInBounds_toArray, List.set_cons_zero, List.set_cons_succ, i64_w, i32_w]
    rfl
  refine pure_ (i := 1) (N := some 26) (v := ?_) (a' := ?_) #[true, true, false, false, false, false, false, false, false, false, false, false, false, false, false, false] rfl rfl (any_of HT_.out (by kernel_rfl)) (fun _ _ _ h => h) (Or.inl ⟨by rfl, ?_⟩) ?_ ?_
  rotate_left
  · intro w'
    go_simp
    with_reducible rfl
  rotate_left
  · simp only [Act.put, List.setIfInBounds_toArray, List.set_cons_zero, List.set_cons_succ, i64_w, i32_w]
    rfl
  refine pure_ (i := 2) (N := some 27) (v := ?_) (a' := ?_) #[true, true, true, false, false, false, false, false, false, false, false, false, false, false, false, false] rfl rfl (any_of HT_.out (by kernel_rfl)) (fun _ _ _ h => h) (Or.inl ⟨by rfl, ?_⟩) ?_ ?_
  rotate_left
  · intro w'
    go_simp
    with_reducible rfl
  rotate_left
  · simp only [Act.put, List.setIfInBounds_toArray, List.set_cons_zero, List.set_cons_succ, i64_w, i32_w]
    rfl
  refine pure_ (i := 4) (N := some 29) (v := ?_) (a' := ?_) #[true, true, true, false, true, false, false, false, false, false, false, false, false, false, false, false] rfl rfl (any_of HT_.out (by kernel_rfl)) (fun _ _ _ h => h) (Or.inl ⟨by rfl, ?_⟩) ?_ ?_
  rotate_left
  · intro w'
    go_simp
    with_reducible rfl
  rotate_left
  · simp only [Act.put, List.setIfInBounds_toArray, List.set_cons_zero, List.set_cons_succ, i64_w, i32_w]
    rfl
  refine pure_ (i := 7) (N := some 32) (v := ?_) (a' := ?_) #[true, true, true, false, true, false, false, true, false, false, false, false, false, false, false, false] rfl rfl (any_of HT_.out (by kernel_rfl)) (fun _ _ _ h => h) (Or.inl ⟨by rfl, ?_⟩) ?_ ?_
  rotate_left
  · intro w'
    go_simp
    with_reducible rfl
  rotate_left
  · simp only [Act.put, List.setIfInBounds_toArray, List.set_cons_zero, List.set_cons_succ, i64_w, i32_w]
    rfl
  refine pure_ (i := 9) (N := some 34) (v := ?_) (a' := ?_) #[true, true, true, false, true, false, false, true, false, true, false, false, false, false, false, false] rfl rfl (any_of HT_.out (by kernel_rfl)) (fun _ _ _ h => h) (Or.inl ⟨by rfl, ?_⟩) ?_ ?_
  rotate_left
  · intro w'
    go_simp
    with_reducible rfl
  rotate_left
  · simp only [Act.put, List.setIfInBounds_toArray, List.set_cons_zero, List.set_cons_succ, i64_w, i32_w]
    rfl
  refine take_ (i := 3) (N := some 28) (v := ?_) (a' := ?_) #[true, true, true, true, true, false, false, true, false, true, false, false, false, false, false, false] rfl rfl (take_ofW HT_.out HW_.out (by kernel_rfl)) (fun _ _ _ h => h) (Or.inl ⟨by rfl, ?_⟩) hHeld ?_ ?_
  rotate_left
  · rintro w' ⟨s0, s1, s2, s3, s4⟩
    have cs1_1 : w'.cell? ⟨w.heap.size, 1, none⟩ = some (.int .i64 c.f1.f0) := (blk_cell s1 1).trans rfl
    have cs1_2 : w'.cell? ⟨w.heap.size, 2, none⟩ = some (.int .i64 c.f1.f1) := (blk_cell s1 2).trans rfl
    go_simp
    with_reducible rfl
  rotate_left
  · simp only [Act.put, List.setIfInBounds_toArray, List.set_cons_zero, List.set_cons_succ, i64_w, i32_w]
    rfl
  refine take_ (i := 5) (N := some 30) (v := ?_) (a' := ?_) #[true, true, true, true, true, true, false, true, false, true, false, false, false, false, false, false] rfl rfl (take_ofW HT_.out HW_.out (by kernel_rfl)) (fun _ _ _ h => h) (Or.inl ⟨by rfl, ?_⟩) hHeld ?_ ?_
  rotate_left
  · rintro w' ⟨s0, s1, s2, s3, s4⟩
    have cs2_1 : w'.cell? ⟨wb, 1, none⟩ = some (.int .i64 was.f1.f0) := (blk_cell s2 1).trans rfl
    have cs2_2 : w'.cell? ⟨wb, 2, none⟩ = some (.int .i64 was.f1.f1) := (blk_cell s2 2).trans rfl
    go_simp
    with_reducible rfl
  rotate_left
  · simp only [Act.put, List.setIfInBounds_toArray, List.set_cons_zero, List.set_cons_succ, i64_w, i32_w]
    rfl
  refine take_ (i := 8) (N := some 33) (v := ?_) (a' := ?_) #[true, true, true, true, true, true, false, true, true, true, false, false, false, false, false, false] rfl rfl (take_ofW HT_.out HW_.out (by kernel_rfl)) (fun _ _ _ h => h) (Or.inl ⟨by rfl, ?_⟩) hHeld ?_ ?_
  rotate_left
  · rintro w' ⟨s0, s1, s2, s3, s4⟩
    have cs1_3 : w'.cell? ⟨w.heap.size, 3, none⟩ = some (.int .i64 c.f2.f0) := (blk_cell s1 3).trans rfl
    have cs1_4 : w'.cell? ⟨w.heap.size, 4, none⟩ = some (.int .i64 c.f2.f1) := (blk_cell s1 4).trans rfl
    have cs1_5 : w'.cell? ⟨w.heap.size, 5, none⟩ = some (.string c.f2.f2) := (blk_cell s1 5).trans rfl
    go_simp
    with_reducible rfl
  rotate_left
  · simp only [Act.put, List.setIfInBounds_toArray, List.set_cons_zero, List.set_cons_succ, i64_w, i32_w]
    rfl
  refine take_ (i := 10) (N := some 35) (v := ?_) (a' := ?_) #[true, true, true, true, true, true, false, true, true, true, true, false, false, false, false, false] rfl rfl (take_ofW HT_.out HW_.out (by kernel_rfl)) (fun _ _ _ h => h) (Or.inl ⟨by rfl, ?_⟩) hHeld ?_ ?_
  rotate_left
  · rintro w' ⟨s0, s1, s2, s3, s4⟩
    have cs2_3 : w'.cell? ⟨wb, 3, none⟩ = some (.int .i64 was.f2.f0) := (blk_cell s2 3).trans rfl
    have cs2_4 : w'.cell? ⟨wb, 4, none⟩ = some (.int .i64 was.f2.f1) := (blk_cell s2 4).trans rfl
    have cs2_5 : w'.cell? ⟨wb, 5, none⟩ = some (.string was.f2.f2) := (blk_cell s2 5).trans rfl
    go_simp
    with_reducible rfl
  rotate_left
  · simp only [Act.put, List.setIfInBounds_toArray, List.set_cons_zero, List.set_cons_succ, i64_w, i32_w]
    rfl
  refine one_ (i := 6) (N := some 31) #[true, true, true, true, true, true, true, true, true, true, true, false, false, false, false, false] rfl rfl (one_of HT_.out (by kernel_rfl)) (by decide) (fun K hK => ?_)
  refine goes_ Tryd.func23 (by kernel_rfl) rfl #[.agg #[.int .i64 c.f1.f0, .int .i64 c.f1.f1], .agg #[.int .i64 was.f1.f0, .int .i64 was.f1.f1]] (by rfl) rfl rfl (by (try simp only [List.map_toArray, List.map_cons, List.map_nil]); first | done | rfl) ?_
  with_reducible refine (latest_order.calls k _ _ _ _ o _ HO.out).mono ?_
  rintro e w5 ⟨rfl, hb⟩
  refine ⟨_, rfl, ?_⟩
  refine hK.out _ _ ⟨blk_below hHeld.1 hb, blk_below hHeld.2.1 hb, blk_below hHeld.2.2.1 hb, block_step hbl hHeld.2.2.2.2 hb hHeld.2.2.2.1, below_step hHeld.2.2.2.2 hb⟩ (fun hHeld => ?_)
  clear hK K
  refine norm_ (a' := ?_) ?_ ?_
  rotate_left
  · show Act.put _ (some 31) _ = _
    simp only [Act.put, List.setIfInBounds_toArray, List.set_cons_zero, List.set_cons_succ, i64_w, i32_w]
    rfl
  refine one_ (i := 11) (N := some 36) #[true, true, true, true, true, true, true, true, true, true, true, true, false, false, false, false] rfl rfl (one_of HT_.out (by kernel_rfl)) (by decide) (fun K hK => ?_)
  refine goes_ Tryd.func24 (by kernel_rfl) rfl #[.agg #[.int .i64 c.f2.f0, .int .i64 c.f2.f1, .string c.f2.f2], .agg #[.int .i64 was.f2.f0, .int .i64 was.f2.f1, .string was.f2.f2]] (by rfl) rfl rfl (by (try simp only [List.map_toArray, List.map_cons, List.map_nil]); first | done | rfl) ?_
  with_reducible refine (value_Compare.calls k _ _ _ _ _ _ v _ HV.out).mono ?_
  rintro e w6 ⟨rfl, hb⟩
  refine ⟨_, rfl, ?_⟩
  refine hK.out _ _ ⟨blk_below hHeld.1 hb, blk_below hHeld.2.1 hb, blk_below hHeld.2.2.1 hb, block_step hbl hHeld.2.2.2.2 hb hHeld.2.2.2.1, below_step hHeld.2.2.2.2 hb⟩ (fun hHeld => ?_)
  clear hK K
  refine norm_ (a' := ?_) ?_ ?_
  rotate_left
  · show Act.put _ (some 36) _ = _
    simp only [Act.put, List.setIfInBounds_toArray, List.set_cons_zero, List.set_cons_succ, i64_w, i32_w]
    rfl
  refine one_ (i := 12) (N := some 37) #[true, true, true, true, true, true, true, true, true, true, true, true, true, false, false, false] rfl rfl (one_of HT_.out (by kernel_rfl)) (by decide) (fun K hK => ?_)
  refine value_ (w1 := ?_) (v := ?_) (by rfl) rfl ?_ ?_
  rotate_left 2
  · go_simp
    first | rfl | (constructor <;> rfl)
  have hOr : Calls Tryd.prog 22 #[.slice (some ⟨w6.heap.size, 0, none⟩) 2 2] (w6.alloc (.cells #[.int .i64 o, .int .i64 v] 3)) (fun e w' => e = .returned (.int .i64 z) ∧ Drawn0 (w6.alloc (.cells #[.int .i64 o, .int .i64 v] 3)) w') := cmp_Or_int.calls k _ 2 [o, v] z _ (lit_reads w6 3 [o, v] (by simp)) (by simp) HZ.out
  refine hK.out _ _ ⟨blk_below hHeld.1 (below_alloc (Below.refl _ _) _), blk_below hHeld.2.1 (below_alloc (Below.refl _ _) _), blk_below hHeld.2.2.1 (below_alloc (Below.refl _ _) _), block_step hbl hHeld.2.2.2.2 (below_alloc (Below.refl _ _) _) hHeld.2.2.2.1, below_step hHeld.2.2.2.2 (below_alloc (Below.refl _ _) _)⟩ (fun hHeld => ?_)
  clear hK K
  refine norm_ (a' := ?_) ?_ ?_
  rotate_left
  · show Act.put _ (some 37) _ = _
    simp only [Act.put, List.setIfInBounds_toArray, List.set_cons_zero, List.set_cons_succ, i64_w, i32_w]
    rfl
  refine one_ (i := 13) (N := some 38) #[true, true, true, true, true, true, true, true, true, true, true, true, true, true, false, false] rfl rfl (one_of HT_.out (by kernel_rfl)) (by decide) (fun K hK => ?_)
  refine goes_ Tryd.func22 (by kernel_rfl) rfl #[.slice (some ⟨w6.heap.size, 0, none⟩) 2 2] (by rfl) rfl rfl (by (try simp only [List.map_toArray, List.map_cons, List.map_nil]); first | done | rfl) ?_
  with_reducible refine hOr.mono ?_
  rintro e w7 ⟨rfl, hd⟩
  have hb := hd.below
  refine ⟨_, rfl, ?_⟩
  refine hK.out _ _ ⟨blk_below hHeld.1 hb, blk_below hHeld.2.1 hb, blk_below hHeld.2.2.1 hb, block_step hbl hHeld.2.2.2.2 hb hHeld.2.2.2.1, below_step hHeld.2.2.2.2 hb⟩ (fun hHeld => ?_)
  clear hK K
  refine norm_ (a' := ?_) ?_ ?_
  rotate_left
  · show Act.put _ (some 38) _ = _
    simp only [Act.put, List.setIfInBounds_toArray, List.set_cons_zero, List.set_cons_succ, i64_w, i32_w]
    rfl
  refine pure_ (i := 14) (N := some 39) (v := ?_) (a' := ?_) #[true, true, true, true, true, true, true, true, true, true, true, true, true, true, true, false] rfl rfl (any_of HT_.out (by kernel_rfl)) (fun _ _ _ h => h) (Or.inl ⟨by rfl, ?_⟩) ?_ ?_
  rotate_left
  · intro w'
    have hzz : decide (z ≤ 0) = false := decide_eq_false (by omega)
    go_simp
    with_reducible rfl
  rotate_left
  · simp only [Act.put, List.setIfInBounds_toArray, List.set_cons_zero, List.set_cons_succ, i64_w, i32_w]
    rfl
  refine pure_ (i := 15) (N := some 40) (v := ?_) (a' := ?_) #[true, true, true, true, true, true, true, true, true, true, true, true, true, true, true, true] rfl rfl (any_of HT_.out (by kernel_rfl)) (fun _ _ _ h => h) (Or.inl ⟨by rfl, ?_⟩) ?_ ?_
  rotate_left
  · intro w'
    go_simp
    with_reducible rfl
  rotate_left
  · simp only [Act.put, List.setIfInBounds_toArray, List.set_cons_zero, List.set_cons_succ, i64_w, i32_w]
    rfl
  refine done_ (done_of HT_.out (by kernel_rfl)) ?_
  go_wp2_with fail
  have H5 := (⟨hHeld.1, hHeld.2.1, hHeld.2.2.2.1, hHeld.2.2.2.2⟩ : _ ∧ _ ∧ _ ∧ _)
  clear hHeld
  generalize w7 = w5 at H5 ⊢
  have HH5 := Lib.hid H5
  clear H5
  refine start_ (n := 8) (S := fun w' => (w'.heap[g]? = some (.cells #[.map (some b)] 50 (0, 0))) ∧ (w'.heap[w.heap.size]? = some (.cells #[.string c.f0, .int .i64 c.f1.f0, .int .i64 c.f1.f1, .int .i64 c.f2.f0, .int .i64 c.f2.f1, .string c.f2.f2] 33 (0, 0))) ∧ (w'.heap[b]? = w.heap[b]?) ∧ (Below w.heap.size w w')) (ds := [7]) #[false, false, false, false, false, false, false, false] (by kernel_rfl) rfl rfl ⟨HH5.out.1, HH5.out.2.1, HH5.out.2.2.1, below_drew HH5.out.2.2.2⟩ (fun hHeld => ?_); refine with_tabW put6.tab put6.bits (fun HT_ HW_ => ?_)
  generalize w5.drew = w8 at hHeld ⊢
  have H8 := Lib.hid hHeld
  refine pure_ (i := 0) (N := some 41) (v := ?_) (a' := ?_) #[true, false, false, false, false, false, false, false] rfl rfl (any_of HT_.out (by kernel_rfl)) (fun _ _ _ h => h) (Or.inl ⟨by rfl, ?_⟩) ?_ ?_
  rotate_left
  · intro w'
    go_simp
    with_reducible rfl
  rotate_left
  · simp only [Act.put, List.setIfInBounds_toArray, List.set_cons_zero, List.set_cons_succ, i64_w, i32_w]
    rfl
  refine pure_ (i := 1) (N := some 42) (v := ?_) (a' := ?_) #[true, true, false, false, false, false, false, false] rfl rfl (any_of HT_.out (by kernel_rfl)) (fun _ _ _ h => h) (Or.inl ⟨by rfl, ?_⟩) ?_ ?_
  rotate_left
  · intro w'
    go_simp
    with_reducible rfl
  rotate_left
  · simp only [Act.put, List.setIfInBounds_toArray, List.set_cons_zero, List.set_cons_succ, i64_w, i32_w]
    rfl
  refine pure_ (i := 2) (N := some 43) (v := ?_) (a' := ?_) #[true, true, true, false, false, false, false, false] rfl rfl (any_of HT_.out (by kernel_rfl)) (fun _ _ _ h => h) (Or.inl ⟨by rfl, ?_⟩) ?_ ?_
  rotate_left
  · intro w'
    go_simp
    with_reducible rfl
  rotate_left
  · simp only [Act.put, List.setIfInBounds_toArray, List.set_cons_zero, List.set_cons_succ, i64_w, i32_w]
    rfl
  refine pure_ (i := 4) (N := some 45) (v := ?_) (a' := ?_) #[true, true, true, false, true, false, false, false] rfl rfl (any_of HT_.out (by kernel_rfl)) (fun _ _ _ h => h) (Or.inl ⟨by rfl, ?_⟩) ?_ ?_
  rotate_left
  · intro w'
    go_simp
    with_reducible rfl
  rotate_left
  · simp only [Act.put, List.setIfInBounds_toArray, List.set_cons_zero, List.set_cons_succ, i64_w, i32_w]
    rfl
  refine take_ (i := 3) (N := some 44) (v := ?_) (a' := ?_) #[true, true, true, true, true, false, false, false] rfl rfl (take_ofW HT_.out HW_.out (by kernel_rfl)) (fun _ _ _ h => h) (Or.inl ⟨by rfl, ?_⟩) hHeld ?_ ?_
  rotate_left
  · rintro w' ⟨s0, s1, s2, s3⟩
    have c0 : w'.cell? ⟨g, 0, none⟩ = some (.map (some b)) := (blk_cell s0 0).trans rfl
    go_simp
    with_reducible rfl
  rotate_left
  · simp only [Act.put, List.setIfInBounds_toArray, List.set_cons_zero, List.set_cons_succ, i64_w, i32_w]
    rfl
  refine take_ (i := 5) (N := some 46) (v := ?_) (a' := ?_) #[true, true, true, true, true, true, false, false] rfl rfl (take_ofW HT_.out HW_.out (by kernel_rfl)) (fun _ _ _ h => h) (Or.inl ⟨by rfl, ?_⟩) hHeld ?_ ?_
  rotate_left
  · rintro w' ⟨s0, s1, s2, s3⟩
    have c1 : w'.cell? ⟨w.heap.size, 0, none⟩ = some (.string c.f0) := (blk_cell s1 0).trans rfl
    go_simp
    with_reducible rfl
  rotate_left
  · simp only [Act.put, List.setIfInBounds_toArray, List.set_cons_zero, List.set_cons_succ, i64_w, i32_w]
    rfl
  refine take_ (i := 6) (N := some 47) (v := ?_) (a' := ?_) #[true, true, true, true, true, true, true, false] rfl rfl (take_ofW HT_.out HW_.out (by kernel_rfl)) (fun _ _ _ h => h) (Or.inl ⟨by rfl, ?_⟩) hHeld ?_ ?_
  rotate_left
  · rintro w' ⟨s0, s1, s2, s3⟩
    have c1_0 : w'.cell? ⟨w.heap.size, 0, none⟩ = some (.string c.f0) := (blk_cell s1 0).trans rfl
    have c1_1 : w'.cell? ⟨w.heap.size, 1, none⟩ = some (.int .i64 c.f1.f0) := (blk_cell s1 1).trans rfl
    have c1_2 : w'.cell? ⟨w.heap.size, 2, none⟩ = some (.int .i64 c.f1.f1) := (blk_cell s1 2).trans rfl
    have c1_3 : w'.cell? ⟨w.heap.size, 3, none⟩ = some (.int .i64 c.f2.f0) := (blk_cell s1 3).trans rfl
    have c1_4 : w'.cell? ⟨w.heap.size, 4, none⟩ = some (.int .i64 c.f2.f1) := (blk_cell s1 4).trans rfl
    have c1_5 : w'.cell? ⟨w.heap.size, 5, none⟩ = some (.string c.f2.f2) := (blk_cell s1 5).trans rfl
    go_simp
    with_reducible rfl
  rotate_left
  · simp only [Act.put, List.setIfInBounds_toArray, List.set_cons_zero, List.set_cons_succ, i64_w, i32_w]
    rfl
  refine last_ (i := 7) (N := none) #[true, true, true, true, true, true, true, true] rfl rfl (one_of HT_.out (by kernel_rfl)) (by decide) (fun K hK => ?_)
  obtain ⟨hrun8, hmap8⟩ := HP.out w8 hHeld.2.2.1
  refine skip_ (w1 := ?_) (by rfl) rfl ?_ ?_
  rotate_left
  · go_simp
    first | rfl | (constructor <;> rfl)
  refine hK.out _ _ ?_
  clear hK K
  refine done_ (done_of HT_.out (by kernel_rfl)) ?_
  go_wp2
  go_ret2
  exact ⟨rfl, L', HLL.out, ⟨(heap_set_ne hgb).trans H8.out.1, hmap8⟩, ⟨H8.out.2.2.2.os, H8.out.2.2.2.tape, H8.out.2.2.2.output, by simpa [setBlock] using H8.out.2.2.2.size, fun i hi hib => (heap_set_ne hib).trans (H8.out.2.2.2.block i hi)⟩⟩
end Go.Proofs.YtjacpmmlkgcjjaaDoor.Latest
