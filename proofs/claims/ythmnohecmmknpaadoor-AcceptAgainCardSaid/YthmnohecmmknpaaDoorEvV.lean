/- Elements in plain words: the program's test and the reference's are the same. -/
import Derived.Test.YthmnohecmmknpaaDoorRefN
namespace Go.Proofs.YthmnohecmmknpaaDoor.Val
open Go.RowKit Go.Proofs.YthmnohecmmknpaaDoorW.PrintWords Go.Proofs.YthmnohecmmknpaaDoorW.PrintLast Go.Proofs.YthmnohecmmknpaaDoor.Given Go.Proofs.YthmnohecmmknpaaDoor.PA
set_option linter.unusedVariables false
set_option linter.unusedSimpArgs false
def emptyB (s : ByteArray) : Bool := decide (s.size = 0)
def elemB (k : Int) (a b c d : ByteArray) : Bool :=
  if k = 1 then nameB a && (emptyB b && emptyB c && emptyB d) else if k = 2 ∨ k = 4 then nameB a && nameB d && (emptyB b && emptyB c)
  else if k = 3 then nameB a && nameB b && nameB c && emptyB d else if k = 5 then nameB a && nameB b && nameB c && nameB d else false
theorem names_loop (l : List ByteArray) (hl : l.length ≤ 100) : ∀ (d k i : Nat), i + d = l.length → d + 20 < k → value_names.l0 k l (l.length : Int) (i : Int) = some ((l.drop i).all nameB)
  | 0, k, i, he, hk => by
    obtain ⟨k, rfl⟩ : ∃ m, k = m + 1 := ⟨k - 1, by omega⟩
    simp only [value_names.l0]
    rw [if_neg (by omega), List.drop_of_length_le (by omega)]
    rfl
  | d + 1, k, i, he, hk => by
    obtain ⟨k, rfl⟩ : ∃ m, k = m + 1 := ⟨k - 1, by omega⟩
    simp only [value_names.l0]
    have hi : i < l.length := by omega
    have hrd : rdOf ByteArray.empty l (i : Int) = l[i] := by simp [rdOf, hi]
    rw [if_pos (by omega), if_pos (by omega), if_pos (by omega), hrd, name_is _ k (by omega), List.drop_eq_getElem_cons hi, List.all_cons]
    simp only [Option.bind_some]
    cases nameB l[i]
    · simp
    · have h := names_loop l hl d k (i + 1) (by omega) (by omega)
      rw [w64 (by omega) (by omega), show ((i : Int) + 1) = ((i + 1 : Nat) : Int) by omega, h]
      simp
theorem names_is (l : List ByteArray) (hl : l.length ≤ 100) (k : Nat) (hk : 200 ≤ k) : value_names.f k l = some (l.all nameB) := by
  unfold value_names.f
  have := names_loop l hl l.length k 0 (by omega) (by omega)
  simpa using this
theorem inter_empty : ∀ l : List (List UInt8), (l.intersperse []).flatten = l.flatten
  | [] => rfl
  | [x] => rfl
  | x :: y :: l => by
    have ih := inter_empty (y :: l)
    show x ++ ([] ++ ((y :: l).intersperse []).flatten) = x ++ (y :: l).flatten
    rw [ih, List.nil_append]
theorem join_empty (l : List (List UInt8)) : Lib.join l [] = l.flatten := inter_empty l
theorem empty_is (l : List ByteArray) (hl : l.length ≤ 100) (hs : ∀ s ∈ l, s.size ≤ 1000) : value_empty.f l = some (l.all emptyB) := by
  have hj : joinL l ⟨#[]⟩ = (l.map (·.data.toList)).flatten := by
    unfold joinL
    exact join_empty _
  have hlen : (joinL l ⟨#[]⟩).length ≤ 140737488355328 := by
    rw [hj, List.length_flatten, List.map_map]
    have : ∀ l : List ByteArray, (∀ s ∈ l, s.size ≤ 1000) → (l.map (List.length ∘ fun s => s.data.toList)).sum ≤ 1000 * l.length := by
      intro l
      induction l with
      | nil => intro _; simp
      | cons s l ih =>
        intro h
        have h1 := ih (fun s hs => h s (List.mem_cons_of_mem _ hs))
        have h2 := h s List.mem_cons_self
        rw [← size_toL] at h2
        simp only [List.map_cons, List.sum_cons, List.length_cons, Function.comp_apply]
        omega
    have := this l hs
    omega
  unfold value_empty.f strings_Join.f
  rw [if_pos ⟨by omega, hlen⟩]
  simp only [Option.bind_some]
  have he : ((⟨(joinL l ⟨#[]⟩).toArray⟩ : ByteArray).toList == ([] : List UInt8)) = l.all emptyB := by
    have e1 : (⟨(joinL l ⟨#[]⟩).toArray⟩ : ByteArray).toList = joinL l ⟨#[]⟩ := by rw [Lib.toList_data]
    rw [e1, hj, Bool.eq_iff_iff]
    simp only [beq_iff_eq, List.flatten_eq_nil_iff, List.all_eq_true, List.mem_map, emptyB, decide_eq_true_eq]
    constructor
    · intro h s hs
      have := h _ ⟨s, hs, rfl⟩
      rw [← size_toL, this]
      rfl
    · rintro h _ ⟨s, hs, rfl⟩
      have := h s hs
      rw [← size_toL] at this
      exact List.length_eq_zero_iff.1 this
  rw [he]
theorem elem_is (kd : Int) (a b c d : ByteArray) (ha : a.size ≤ 1000) (hb : b.size ≤ 1000) (hc : c.size ≤ 1000) (hd : d.size ≤ 1000) (k : Nat) (hk : 2000 ≤ k) : value_Elem.f k kd a b c d = some (elemB kd a b c d) := by
  obtain ⟨k, rfl⟩ : ∃ m, k = m + 1 := ⟨k - 1, by omega⟩
  have n1 := fun x => names_is [x] (by simp) (k + 1) (by omega)
  have n1k := fun x y => names_is [x, y] (by simp) k (by omega)
  have n3 := fun x y z => names_is [x, y, z] (by simp) k (by omega)
  have n4 := fun x y z u => names_is [x, y, z, u] (by simp) k (by omega)
  have e1 := empty_is [d] (by simp) (by simp [hd])
  have e2 := empty_is [b, c] (by simp) (by simp [hb, hc])
  have e3 := empty_is [b, c, d] (by simp) (by simp [hb, hc, hd])
  unfold value_Elem.f elemB
  simp only [value_Elem.j0, n1, n1k, n3, n4, e1, e2, e3, Option.bind_some, List.all_cons, List.all_nil, Bool.and_true]
  by_cases h1 : kd = 1
  · simp only [h1, if_true]
    cases nameB a <;> simp [Bool.and_assoc]
  · simp only [h1, if_false]
    by_cases h2 : kd = 2
    · simp only [h2, if_true, true_or]
      cases nameB a <;> cases nameB d <;> simp
    · by_cases h4 : kd = 4
      · subst h4
        simp only [show ¬ ((4 : Int) = 2) by decide, if_false, or_true, if_true]
        cases nameB a <;> cases nameB d <;> simp
      · by_cases h3 : kd = 3
        · subst h3
          cases nameB a <;> cases nameB b <;> cases nameB c <;> simp
        · by_cases h5 : kd = 5
          · subst h5
            cases nameB a <;> cases nameB b <;> cases nameB c <;> cases nameB d <;> simp
          · have h4' : (kd == 4) = false := by simpa using h4
            simp [h2, h3, h4, h5, h4']
def scalarB (k n : Int) (s : ByteArray) : Bool := decide (1 ≤ k) && decide (k ≤ 3) && valB k n s
theorem scalar_is (k n : Int) (s : ByteArray) (hn0 : -9223372036854775808 ≤ n) (hn1 : n ≤ 9223372036854775807) (hs : s.size ≤ 1000) : event_scalar.f 2000 k n s = some (scalarB k n s) := by
  unfold event_scalar.f scalarB
  rw [right_is k n s hn0 hn1 (by omega) 2000 (by omega)]
  by_cases h1 : 1 ≤ k <;> by_cases h3 : k ≤ 3 <;> simp [h1, h3]
def keptB (k : Int) : Bool := decide (k = 4) || decide (k = 5)
theorem kept_is (k : Int) (a b c d : ByteArray) : event_kept.f k a b c d = some (keptB k) := by
  unfold event_kept.f keptB
  by_cases h : k = 4
  · simp [h]
  · by_cases h5 : k = 5 <;> simp [h, h5]
end Go.Proofs.YthmnohecmmknpaaDoor.Val
