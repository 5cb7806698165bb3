/- The register of latest: Get and All, walked. -/
import Derived.Test.YtjacpmmlkgcjjaaDoorLatest
import Derived.Test.YtjacpmmlkgcjjaaDoorVal
import Derived.Test.YtjacpmmlkgcjjaaDoorSortK
import Derived.Test.YtjacpmmlkgcjjaaDoorShelf
import Derived.Deep.LoopGhost
namespace Go.Proofs.YtjacpmmlkgcjjaaDoor.Latest
open Go.RowKit Go.ChangeMaps Go.Shelf Go.Sort Go.Proofs.YtjacpmmlkgcjjaaDoorW.PrintWords Go.Proofs.YtjacpmmlkgcjjaaDoorW.PrintLast Go.Proofs.YtjacpmmlkgcjjaaDoor.Given Go.Proofs.YtjacpmmlkgcjjaaDoor.PA Go.Proofs.YtjacpmmlkgcjjaaDoor.Val
open Go.Maps (Keyed string_keyed)
open Go.WideMaps
set_option linter.unusedVariables false
set_option linter.unusedSimpArgs false
def getL (L : List S33) (s : ByteArray) : Option S33 := L.find? fun c => decide (c.f0 = s)
theorem RegAt.nodup {w : World} {g b : Nat} {L : List S33} (h : RegAt w g b L) : (L.map (·.f0)).Nodup := by
  have h1 := h.map.nodup
  rw [ents, List.map_map] at h1
  have h2 : (L.map (Value.string ∘ fun c : S33 => c.f0)).Nodup := h1
  rw [← List.map_map] at h2
  exact (List.pairwise_map.1 h2).imp fun h e => h (by rw [e])
theorem getL_some {L : List S33} {s : ByteArray} {c : S33} (h : getL L s = some c) : c ∈ L ∧ c.f0 = s := by
  have h1 := List.mem_of_find?_eq_some h
  have h2 := List.find?_some h
  exact ⟨h1, by simpa using h2⟩
theorem getL_none {L : List S33} {s : ByteArray} (h : getL L s = none) : ∀ c ∈ L, c.f0 ≠ s := by
  intro c hc e
  have := List.find?_eq_none.1 h c hc
  simp [e] at this
theorem getL_mem {L : List S33} (hn : (L.map (·.f0)).Nodup) {c : S33} (hc : c ∈ L) : getL L c.f0 = some c := by
  cases h : getL L c.f0 with
  | none => exact absurd rfl (getL_none h c hc)
  | some d =>
    obtain ⟨h1, h2⟩ := getL_some h
    obtain ⟨i, hi, e1⟩ := List.mem_iff_getElem.1 hc
    obtain ⟨j, hj, e2⟩ := List.mem_iff_getElem.1 h1
    have : i = j := nodup_inj hn (by simpa using hi) (by simpa using hj) (by simp [e1, e2, h2])
    subst this
    rw [← e1, ← e2]
set_option maxHeartbeats 1000000 in
set_option maxRecDepth 100000 in
theorem Get_calls (g b : Nat) (L : List S33) (s : ByteArray) (w : World) (hr : RegAt w g b L) (hs : s.size ≤ maxLen) :
    Calls Tryd.prog 14 #[.pointer (some ⟨g, 0, none⟩), .string s] w fun e w' => e = .returned (.tuple #[val33 ((getL L s).getD z33), .bool (getL L s).isSome]) ∧ Below w.heap.size w w' := by
  have hnd := hr.nodup
  obtain ⟨hreg, hmap⟩ := hr
  have hg := (Array.getElem?_eq_some_iff.1 hreg).1
  have hbl := hmap.lt
  have hlook := hmap.look law9 Tryd.underlying27 zero33 (keyOf_string_mk Tryd.underlying9 hs)
  have hlk : ∀ y : World, y.heap[b]? = w.heap[b]? → (Instr.lookup 27 (.map (some b)) (.string s) true).run Tryd.prog y = .ok (.tuple #[val33 ((getL L s).getD z33), .bool (getL L s).isSome]) y := by
    intro y hy
    rcases hlook with ⟨hno, hrun⟩ | ⟨u, hu, hrun⟩
    · have : getL L s = none := by
        cases h : getL L s with
        | none => rfl
        | some d =>
          obtain ⟨h1, h2⟩ := getL_some h
          exact absurd (by rw [h2]) (hno (.string d.f0, val33 d) (List.mem_map.2 ⟨d, h1, rfl⟩))
      rw [this]
      exact hrun y hy true
    · obtain ⟨d, hd, e⟩ := List.mem_map.1 hu
      obtain ⟨e1, rfl⟩ := Prod.mk.inj e
      injection e1 with e2
      subst e2
      rw [getL_mem hnd hd]
      exact hrun y hy true
  generalize (getL L s).getD z33 = c at hlk ⊢
  generalize (getL L s).isSome = ok at hlk ⊢
  unfold val33 at hlk ⊢
  have hc0 : w.cell? ⟨g, 0, none⟩ = some (.map (some b)) := (blk_cell hreg 0).trans rfl
  have n0 := World.new_ne w ⟨g, 0, none⟩ hc0
  have h1 : ∀ o, (Instr.lookup 27 (.map (some b)) (.string s) true).run Tryd.prog (w.alloc o) = .ok (.tuple #[.agg #[.string c.f0, .int .i64 c.f1.f0, .int .i64 c.f1.f1, .int .i64 c.f2.f0, .int .i64 c.f2.f1, .string c.f2.f2], .bool ok]) (w.alloc o) := fun o => hlk _ (Below.heap_alloc _ _ _ hbl)
  clear hlk hlook hmap hreg hnd
  go_enter Tryd.func14, Tryd.ntmps14
  go_wp2
  exact bodyPost_ret (v := .tuple #[.agg #[.string c.f0, .int .i64 c.f1.f0, .int .i64 c.f1.f1, .int .i64 c.f2.f0, .int .i64 c.f2.f1, .string c.f2.f2], .bool ok]) (by simp [results, Tryd.results14, go_sem]) rfl ⟨rfl, ((Below.refl _ _).alloc (Nat.le_refl _) _).alloc (by simp) _⟩
theorem info33 : (Tryd.prog.info? 33).map (fun i => (i.zero, i.size, i.bytes)) = some (some (.agg #[.string ⟨#[]⟩, .int .i64 0, .int .i64 0, .int .i64 0, .int .i64 0, .string ⟨#[]⟩]), 6, 64) := by kernel_rfl
def cells33 (c : S33) : List Value := [.string c.f0, .int .i64 c.f1.f0, .int .i64 c.f1.f1, .int .i64 c.f2.f0, .int .i64 c.f2.f1, .string c.f2.f2]
theorem isAgg33 (w : World) : (isAgg 33).run Tryd.prog w = .ok true w := Tryd.isAgg33 w
theorem sizeOf33 (w : World) : (Go.sizeOf 33).run Tryd.prog w = .ok 6 w := Tryd.sizeOf33 w
set_option maxHeartbeats 1000000 in
theorem All1_calls (x y : S33) (W : World) : Calls Tryd.prog 26 #[.agg (cells33 x).toArray, .agg (cells33 y).toArray] W fun e w' => e = .returned (.int .i64 (cmpStr x.f0 y.f0)) ∧ ∃ q os', w' = Sort.grow (W.drewN q) os' := by
  have hcon := fun W' => cmp_Compare_string.calls x.f0 y.f0 (cmpStr x.f0 y.f0) W' rfl
  generalize cmpStr x.f0 y.f0 = r at hcon ⊢
  unfold cells33
  go_enter Tryd.func26, Tryd.ntmps26
  go_wp2_with (go_at_call 27; refine (hcon _).mono ?_; rintro e w' ⟨rfl, n, rfl⟩)
  go_ret
  refine ⟨rfl, n, #[.cells (cells33 x).toArray 33, .cells (cells33 y).toArray 33], ?_⟩
  rfl
instance : Inhabited S33 := ⟨z33⟩
theorem cells_len (c : S33) : (cells33 c).length = 6 := rfl
theorem cells_one (c : S33) : ∀ v ∈ cells33 c, v.oneCell' = true := by
  intro v hv
  simp [cells33] at hv
  rcases hv with rfl | rfl | rfl | rfl | rfl | rfl <;> rfl
theorem R_own {w : World} {base : Nat} {ok : Nat → Prop} {v : Value} {xs : List S33} (h : Kd.R k33 33 w base ok v xs) : w.ownsRow base 33 6 v xs.length (xs.flatMap cells33) := by
  obtain ⟨_, inner, ho, hr⟩ := h
  have := reps_flat (enc := cells33) cells_len (fun p c hc => k33_openM hc) hr
  rw [← this]
  exact ho
theorem own_R {w : World} {base : Nat} {ok : Nat → Prop} {v : Value} {xs : List S33} (h : w.ownsRow base 33 6 v xs.length (xs.flatMap cells33)) (hok : ∀ k, v.ownBlock = some k → ok k) : Kd.R k33 33 w base ok v xs :=
  ⟨hok, _, h, flat_reps cells_len (fun p => k33_mkM _ _ _ p) xs⟩
def byName (x y : S33) : Int := cmpStr x.f0 y.f0
theorem lt_true {x y : S33} : ltOf byName x y = true ↔ cmpStr x.f0 y.f0 < 0 := decide_eq_true_iff
theorem lt_false {x y : S33} : ltOf byName x y = false ↔ ¬ cmpStr x.f0 y.f0 < 0 := decide_eq_false_iff_not
theorem swo : Go.Sort.SWO (ltOf byName) where
  irrefl x := by rw [lt_false, cmpStr_self]; decide
  trans x y z h1 h2 := by
    rw [lt_true] at *
    exact cmpStr_lt h1 (by omega)
  ntrans x y z h1 h2 := by
    rw [lt_false] at *
    rw [cmpStr_neg] at h1 h2 ⊢
    rcases Int.lt_or_eq_of_le (show cmpStr z.f0 y.f0 ≤ 0 by omega) with h | h
    · have := cmpStr_lt h (show cmpStr y.f0 x.f0 ≤ 0 by omega)
      omega
    · rw [cmpStr_eq h]; omega
set_option maxHeartbeats 1000000 in
theorem SortCells (xs : List S33) (g n cap base : Nat) (w : World) (ho : w.ownsRow base 33 6 (.slice (some ⟨g, 0, none⟩) n cap) n (xs.flatMap cells33)) (hn : n = xs.length) (hlt : n < 4611686018427387904) :
    Calls Tryd.prog 25 #[.slice (some ⟨g, 0, none⟩) n cap, .func (.func 26) #[] #[]] w fun e w' => e = .returned (.tuple #[]) ∧
      ∃ ys : List S33, ys.Perm xs ∧ ys.Pairwise (fun a b => byName a b ≤ 0) ∧ w'.ownsRow base 33 6 (.slice (some ⟨g, 0, none⟩) n cap) n (ys.flatMap cells33) ∧ Given.Sorted w w' g := by
  have eg : ∀ args w, (callFunc 26 args).run Tryd.prog w = .ok (.enter 26 args) w := enters_of Tryd.func26 (by kernel_rfl) rfl
  have hH := holdsK_own cells_len ho hn
  have hg : g < w.heap.size := by
    obtain ⟨_, h | ⟨g', cap', cur, hv, hb, hw, _⟩⟩ := ho
    · cases h.1
    · injection hv with ha
      injection ha with ha
      injection ha with ha
      subst ha
      exact (Array.getElem?_eq_some_iff.1 hw).1
  have hsz : xs.toArray.size = n := by simp [hn]
  have hcon := AnyQ.slices_SortFunc Tryd.sortCell 6 isAgg33 sizeOf33 cells33 cells_len cells_one byName swo 26 #[] g 0 cap xs.toArray w eg (fun _ _ _ _ x y => All1_calls x y _) hH hg (by rw [hsz]; exact hlt)
  rw [hsz] at hcon
  refine Calls.mono (show Calls Tryd.prog 25 _ _ _ from hcon) ?_
  rintro e w' ⟨rfl, d', m, os, hp, hs, rfl⟩
  have hd : d'.size = n := by rw [hp.1, hsz]
  obtain ⟨h1, h2⟩ := own_sorted (m := m) (d' := d') (os := os) cells_len ho hd
  refine ⟨rfl, d'.toList, ?_, ?_, h1, h2⟩
  · have h3 := hp.2.2
    rw [← hsz] at h3
    have e1 : d'.extract 0 xs.toArray.size = d' := by rw [hsz, ← hd]; simp
    rw [e1] at h3
    simpa using h3
  · rw [List.pairwise_iff_getElem]
    intro i j hi hj hij
    have h4 := hs i j (Nat.zero_le _) hij (by simp at hj; omega)
    rw [getElem!_pos d' i (by simpa using hi), getElem!_pos d' j (by simpa using hj)] at h4
    rw [lt_false] at h4
    have h5 : byName d'[i] d'[j] = - byName d'[j] d'[i] := cmpStr_neg _ _
    have h6 : ¬ byName d'[j] d'[i] < 0 := h4
    simp only [Array.getElem_toList]
    omega
end Go.Proofs.YtjacpmmlkgcjjaaDoor.Latest
