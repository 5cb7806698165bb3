/- A row of the call's own whose elements have k cells each: as slices.SortFunc's contract wants it, and as it is behind the sort. -/
import Derived.Shelf.SlSortCmp.WholeK
import Derived.Shelf.SlSortCmp.NoneTotal
import Derived.Test.YtjacpmmlkgcjjaaDoorWMore
namespace Go.Proofs.YtjacpmmlkgcjjaaDoor.Given
open Go.RowKit Go.Sort Go.Proofs Go.Proofs.YtjacpmmlkgcjjaaDoorW.PrintWords
set_option linter.unusedVariables false
set_option linter.unusedSimpArgs false
section
variable {α : Type} [Inhabited α] {enc : α → List Value} {k : Nat}
omit [Inhabited α] in
theorem flat_length (hk : ∀ x, (enc x).length = k) : ∀ l : List α, (l.flatMap enc).length = l.length * k
  | [] => by simp
  | x :: l => by rw [List.flatMap_cons, List.length_append, hk, flat_length hk l, List.length_cons, Nat.succ_mul]; omega
omit [Inhabited α] in
theorem flat_get (hk : ∀ x, (enc x).length = k) : ∀ (l : List α) (j : Nat), j < l.length * k → (l.flatMap enc)[j]? = (l[j / k]?).bind fun x => (enc x)[j % k]?
  | [], j, h => by simp at h
  | x :: l, j, h => by
    have hk0 : 0 < k := by
      rcases Nat.eq_zero_or_pos k with e | e
      · subst e; simp at h
      · exact e
    rw [List.flatMap_cons]
    by_cases hj : j < k
    · rw [List.getElem?_append_left (by rw [hk]; exact hj), Nat.div_eq_of_lt hj, Nat.mod_eq_of_lt hj]
      rfl
    · rw [List.getElem?_append_right (by rw [hk]; omega), hk, flat_get hk l (j - k) (by rw [List.length_cons, Nat.succ_mul] at h; omega)]
      have e1 : j / k = (j - k) / k + 1 := by rw [Nat.div_eq_sub_div hk0 (by omega)]
      have e2 : j % k = (j - k) % k := by rw [Nat.mod_eq_sub_mod (by omega)]
      rw [e1, e2]
      rfl
theorem flatK_list (hk : ∀ x, (enc x).length = k) (d : Array α) : (flatK enc k d).toList = d.toList.flatMap enc := by
  apply List.ext_getElem?
  intro j
  by_cases h : j < d.size * k
  · have hk0 : 0 < k := by
      rcases Nat.eq_zero_or_pos k with e | e
      · subst e; simp at h
      · exact e
    have hd : j / k < d.size := Nat.div_lt_of_lt_mul (by rw [Nat.mul_comm]; exact h)
    rw [flat_get hk d.toList j (by simpa using h)]
    have h1 := get_flatK enc k d j h
    have h2 : j < (flatK enc k d).toList.length := by simpa using h
    rw [List.getElem?_eq_getElem h2]
    have h3 : (flatK enc k d).toList[j] = (flatK enc k d)[j]! := by
      rw [getElem!_pos _ j (by simpa using h)]; simp
    rw [h3, h1]
    have h4 : d.toList[j / k]? = some d[j / k]! := by
      rw [List.getElem?_eq_getElem (by simpa using hd), getElem!_pos d (j / k) hd]; simp
    rw [h4]
    simp only [Option.bind_some]
    have h5 : j % k < (enc d[j / k]!).length := by rw [hk]; exact Nat.mod_lt _ hk0
    rw [List.getElem?_eq_getElem h5, getElem!_pos (enc d[j / k]!) (j % k) h5]
  · rw [List.getElem?_eq_none (by simp; omega), List.getElem?_eq_none (by rw [flat_length hk]; simp; omega)]
theorem holdsK_own {w : World} {base e g n cap : Nat} {xs : List α} (hk : ∀ x, (enc x).length = k) (h : w.ownsRow base e k (.slice (some ⟨g, 0, none⟩) n cap) n (xs.flatMap enc)) (hn : n = xs.length) : HoldsK enc k w g 0 xs.toArray := by
  obtain ⟨hl, h | ⟨g', cap', cur, hv, hb, hw, h1, h2, h3, h4⟩⟩ := h
  · cases h.1
  · injection hv with ha hb1 hc1
    injection ha with ha
    injection ha with ha
    subst ha hc1
    unfold HoldsK Holds
    intro j hj
    have hj' : j < n * k := by simpa [hn] using hj
    have hjx : j < (xs.flatMap enc).length := by rw [hl]; exact hj'
    have hF : (flatK enc k xs.toArray)[j]! = (xs.flatMap enc)[j] := by
      rw [getElem!_pos (flatK enc k xs.toArray) j (by simpa using hj)]
      have := flatK_list hk xs.toArray
      rw [← Array.getElem_toList]
      simp [this]
    refine ⟨?_, by simp [World.frozen?, hw]⟩
    rw [hF]
    have hc : cur.toList[j]? = some (xs.flatMap enc)[j] := by
      rw [← List.getElem?_take_of_lt hj', h4, List.getElem?_eq_getElem hjx]
    show w.cell? ⟨g, 0 + j, none⟩ = _
    simp only [World.cell?, hw, Nat.zero_add]
    simpa using hc
structure Sorted (w w' : World) (g : Nat) : Prop where
  os : w'.os = w.os
  tape : w'.tape = w.tape
  output : w'.output = w.output
  size : w.heap.size ≤ w'.heap.size
  block : ∀ i, i < w.heap.size → i ≠ g → w'.heap[i]? = w.heap[i]?
theorem Sorted.refl (w : World) (g : Nat) : Sorted w w g := ⟨rfl, rfl, rfl, Nat.le_refl _, fun _ _ _ => rfl⟩
theorem own_sorted {w : World} {base e g n cap m : Nat} {xs : List α} {d' : Array α} {os : Array Obj} (hk : ∀ x, (enc x).length = k) (h : w.ownsRow base e k (.slice (some ⟨g, 0, none⟩) n cap) n (xs.flatMap enc)) (hd : d'.size = n) :
    (sortWorldK enc k w g 0 m d' os).ownsRow base e k (.slice (some ⟨g, 0, none⟩) n cap) n (d'.toList.flatMap enc) ∧ Sorted w (sortWorldK enc k w g 0 m d' os) g := by
  obtain ⟨hl, h | ⟨g', cap', cur, hv, hb, hw, h1, h2, h3, h4⟩⟩ := h
  · cases h.1
  · injection hv with ha hb1 hc1
    injection ha with ha
    injection ha with ha
    subst ha hc1
    have hg : g < w.heap.size := (Array.getElem?_eq_some_iff.1 hw).1
    have hgrow : ∀ (W : World) (i : Nat), i < W.heap.size → (grow W os).heap[i]? = W.heap[i]? := fun W i hi => by simp [grow, Array.getElem?_append, hi]
    have hsz : (putRowK enc k (Sort.ahead w m) g 0 d').heap.size = w.heap.size := by simp [putRowK, putRow, mapBlock, Sort.ahead]
    have hblk : (putRowK enc k (Sort.ahead w m) g 0 d').heap[g]? = some (.cells (putCells id 0 (flatK enc k d') cur) e (0, 0)) := by
      simp [putRowK, putRow, mapBlock, Sort.ahead, Array.getElem?_modify, hw, onCells]
    refine ⟨⟨by rw [flat_length hk]; simp [hd], Or.inr ⟨g, cap, putCells id 0 (flatK enc k d') cur, rfl, hb, ?_, h1, h2, ?_, ?_⟩⟩, rfl, rfl, rfl, ?_, ?_⟩
    · unfold sortWorldK
      rw [hgrow _ _ (by rw [hsz]; exact hg)]
      exact hblk
    · simp [putCells, h3]
    · rw [← flatK_list hk]
      have hF : (flatK enc k d').size = n * k := by simp [hd]
      have hcur : n * k ≤ cur.size := by rw [h3]; exact Nat.mul_le_mul_right _ h1
      apply List.ext_getElem?
      intro j
      by_cases hj : j < n * k
      · rw [List.getElem?_take_of_lt hj]
        have hj2 : j < cur.size := by omega
        have hj3 : j < (flatK enc k d').size := by omega
        have hj4 : j < d'.size * k := by rw [hd]; exact hj
        have hj5 : (flatK enc k d')[j]! = (flatK enc k d')[j] := getElem!_pos _ j hj3
        simp [putCells, hj2, hj4, hj5, hj3]
      · rw [List.getElem?_eq_none (by simp; omega), List.getElem?_eq_none (by simp [hd]; omega)]
    · unfold sortWorldK
      simp only [grow, Array.size_append]
      rw [hsz]
      omega
    · intro i hi hne
      unfold sortWorldK
      rw [hgrow _ _ (by rw [hsz]; exact hi)]
      simp [putRowK, putRow, mapBlock, Sort.ahead, Array.getElem?_modify, Ne.symm hne]
omit [Inhabited α] in
theorem flat_drop (hk : ∀ x, (enc x).length = k) : ∀ (l : List α) (j : Nat) (p : α), l[j]? = some p → ((l.flatMap enc).drop (j * k)).take k = enc p
  | [], j, p, h => by simp at h
  | x :: l, 0, p, h => by
    simp at h
    subst h
    rw [Nat.zero_mul, List.drop_zero, List.flatMap_cons, List.take_append_of_le_length (by rw [hk]; exact Nat.le_refl _), ← hk x, List.take_length]
  | x :: l, j + 1, p, h => by
    have ih := flat_drop hk l j p (by simpa using h)
    rw [List.flatMap_cons, Nat.succ_mul, Nat.add_comm, ← List.drop_drop]
    rw [show ((enc x) ++ l.flatMap enc).drop k = l.flatMap enc from by rw [← hk x, List.drop_left]]
    exact ih
omit [Inhabited α] in
theorem reps_flat {R : α → List Value → Prop} (hk : ∀ x, (enc x).length = k) (hR : ∀ p c, R p c → c = enc p) {ps : List α} {cs : List Value} (h : Reps R k ps cs) : cs = ps.flatMap enc := by
  obtain ⟨hl, hr⟩ := h
  induction ps generalizing cs with
  | nil => simp at hl; simpa using hl
  | cons x l ih =>
    have h0 := hR _ _ (hr 0 x (by simp))
    rw [Nat.zero_mul, List.drop_zero] at h0
    rw [List.flatMap_cons, ← h0]
    have h1 := ih (cs := cs.drop k) (by rw [List.length_drop, hl, List.length_cons, Nat.succ_mul]; omega) (fun j p hj => by
      have := hr (j + 1) p (by simpa using hj)
      rw [List.drop_drop]
      rwa [Nat.succ_mul, Nat.add_comm] at this)
    rw [← h1, List.take_append_drop]
omit [Inhabited α] in
theorem flat_reps {R : α → List Value → Prop} (hk : ∀ x, (enc x).length = k) (hR : ∀ p, R p (enc p)) (ps : List α) : Reps R k ps (ps.flatMap enc) :=
  ⟨flat_length hk ps, fun j p hj => by rw [flat_drop hk ps j p hj]; exact hR p⟩
end
end Go.Proofs.YtjacpmmlkgcjjaaDoor.Given
