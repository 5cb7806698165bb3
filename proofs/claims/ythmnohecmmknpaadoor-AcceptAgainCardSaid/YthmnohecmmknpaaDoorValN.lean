/- What the functions on names and values come to, in plain words: the program's and the reference's alike. -/
import Derived.Test.YthmnohecmmknpaaDoorPAx
import Derived.Test.YthmnohecmmknpaaDoorGivenV
import Derived.Lib.SplitLaws
namespace Go.Proofs.YthmnohecmmknpaaDoor.Val
open Go.RowKit Go.Proofs.YthmnohecmmknpaaDoorW.PrintWords Go.Proofs.YthmnohecmmknpaaDoorW.PrintLast Go.Proofs.YthmnohecmmknpaaDoor.Given Go.Proofs.YthmnohecmmknpaaDoor.PA
set_option linter.unusedVariables false
set_option linter.unusedSimpArgs false
def letterI (c : Int) : Bool := (decide (97 ≤ c) && decide (c ≤ 122)) || (decide (65 ≤ c) && decide (c ≤ 90))
def otherI (c : Int) : Bool := (decide (48 ≤ c) && decide (c ≤ 57)) || decide (c = 95)
def innerFrom (s : ByteArray) : Nat → Nat → Bool
  | 0, _ => true
  | d + 1, i => (letterI (bt s i) || otherI (bt s i)) && innerFrom s d (i + 1)
def nameB (s : ByteArray) : Bool := decide (1 ≤ s.size) && decide (s.size ≤ 16) && letterI (bt s 0) && innerFrom s s.size 0
theorem w64 {i : Int} (h0 : -9223372036854775808 ≤ i) (h : i ≤ 9223372036854775807) : wrap64 i = i := by unfold wrap64; omega
theorem letter_is (c : Int) : value_letter.f c = some (letterI c) := by
  unfold value_letter.f letterI
  by_cases h1 : 97 ≤ c <;> by_cases h2 : c ≤ 122 <;> by_cases h3 : 65 ≤ c <;> by_cases h4 : c ≤ 90 <;> simp [h1, h2, h3, h4] <;> omega
theorem inner_is (c : Int) : value_inner.f c = some (letterI c || otherI c) := by
  unfold value_inner.f otherI
  rw [letter_is]
  simp only [Option.bind_some]
  cases letterI c
  · by_cases h1 : 48 ≤ c <;> by_cases h2 : c ≤ 57 <;> by_cases h3 : c = 95 <;> simp [h1, h2, h3] <;> omega
  · simp
theorem name_loop (s : ByteArray) (hs : s.size ≤ 4611686018427387904) : ∀ (d k i : Nat), i + d = s.size → d < k → value_Name.l0 k s (s.size : Int) (i : Int) = some (innerFrom s d i)
  | 0, k, i, he, hk => by
    obtain ⟨k, rfl⟩ : ∃ m, k = m + 1 := ⟨k - 1, by omega⟩
    simp only [value_Name.l0]
    rw [if_neg (by omega)]
    rfl
  | d + 1, k, i, he, hk => by
    obtain ⟨k, rfl⟩ : ∃ m, k = m + 1 := ⟨k - 1, by omega⟩
    simp only [value_Name.l0]
    rw [if_pos (by omega), if_pos (by omega), if_pos (by omega), inner_is]
    simp only [Option.bind_some]
    rw [w64 (by omega) (by omega)]
    have ih := name_loop s hs d k (i + 1) (by omega) (by omega)
    rw [show ((i : Int) + 1) = ((i + 1 : Nat) : Int) from by omega, ih]
    simp only [innerFrom]
    cases letterI (bt s i) || otherI (bt s i) <;> simp
theorem size_toL (s : ByteArray) : s.data.toList.length = s.size := by rw [Array.length_toList]; rfl
theorem empty_iff (s : ByteArray) : s.toList = [] ↔ s.size = 0 := by
  rw [Lib.toList_data, ← size_toL]
  exact List.length_eq_zero_iff.symm
theorem empty_beq (s : ByteArray) : (s.toList == ([] : List UInt8)) = decide (s.size = 0) := by
  rw [Bool.eq_iff_iff]
  simp [empty_iff]
theorem name_is (s : ByteArray) (k : Nat) (hk : 20 ≤ k) : value_Name.f k s = some (nameB s) := by
  obtain ⟨k, rfl⟩ : ∃ m, k = m + 1 := ⟨k - 1, by omega⟩
  unfold value_Name.f nameB
  by_cases h0 : s.size = 0
  · rw [if_pos ((empty_iff s).2 h0)]
    simp [value_Name.j0, h0]
  · rw [if_neg (fun h => h0 ((empty_iff s).1 h))]
    by_cases h1 : s.size ≤ 16
    · rw [if_neg (by omega), if_pos (by omega), letter_is]
      simp only [Option.bind_some, value_Name.j0]
      rw [decide_eq_true (show 1 ≤ s.size by omega), decide_eq_true h1]
      cases hl : letterI (bt s 0)
      · simp
      · have := name_loop s (by omega) s.size k 0 (by omega) (by omega)
        simpa using this
    · rw [if_pos (by omega)]
      simp [value_Name.j0, h1]
def parts (c : UInt8) : List UInt8 → List (List UInt8)
  | [] => [[]]
  | b :: l => if b = c then [] :: parts c l else match parts c l with
    | [] => [[b]]
    | h :: t => (b :: h) :: t
def gtS (s : ByteArray) : List ByteArray := Lib.splitB ⟨#[62]⟩ 0 (Lib.countB s ⟨#[62]⟩) s
def linkB (s : ByteArray) : Bool := match gtS s with
  | [a, b, c] => nameB a && nameB b && nameB c
  | _ => false
theorem rdOf3 (a b c : ByteArray) : rdOf ByteArray.empty [a, b, c] 0 = a ∧ rdOf ByteArray.empty [a, b, c] 1 = b ∧ rdOf ByteArray.empty [a, b, c] 2 = c := ⟨rfl, rfl, rfl⟩
theorem names3 (a b c : ByteArray) (k : Nat) (hk : 30 ≤ k) : value_names.f k [a, b, c] = some (nameB a && nameB b && nameB c) := by
  obtain ⟨k, rfl⟩ : ∃ m, k = m + 4 := ⟨k - 4, by omega⟩
  obtain ⟨e1, e2, e3⟩ := rdOf3 a b c
  unfold value_names.f
  simp only [value_names.l0, List.length_cons, List.length_nil]
  have w1 : wrap64 (0 + 1) = 1 := by rw [w64 (by omega) (by omega)]; rfl
  have w2 : wrap64 (1 + 1) = 2 := by rw [w64 (by omega) (by omega)]; rfl
  have w3 : wrap64 (2 + 1) = 3 := by rw [w64 (by omega) (by omega)]; rfl
  simp only [w1, w2, w3, e1, e2, e3, name_is _ (k + 3) (by omega), name_is _ (k + 2) (by omega), name_is _ (k + 1) (by omega), name_is _ k (by omega), Option.bind_some]
  cases nameB a <;> cases nameB b <;> cases nameB c <;> rfl
theorem link_is (n : Int) (s : ByteArray) (hs : s.size < 4294967281) (k : Nat) (hk : 30 ≤ k) : ∃ a b c, value_Link.f k 5 n s = some (a, b, c, decide (n = 0) && linkB s) := by
  unfold value_Link.f
  have h1 : strings_Split.f s ⟨#[62]⟩ = some (gtS s) := by simp [strings_Split.f, hs, gtS]
  rw [h1]
  simp only [Option.bind_some, if_true]
  by_cases hn : n = 0
  · rw [if_pos hn, decide_eq_true hn]
    unfold linkB
    by_cases h3 : ((gtS s).length : Int) = 3
    · rw [if_pos h3]
      generalize gtS s = l at h3
      obtain ⟨a, b, c, rfl⟩ : ∃ a b c, l = [a, b, c] := by
        match l, h3 with
        | [a, b, c], _ => exact ⟨a, b, c, rfl⟩
        | [], h | [_], h | [_, _], h => simp at h
        | _ :: _ :: _ :: _ :: _, h => simp at h; omega
      rw [names3 a b c k hk]
      simp only [Option.bind_some, Bool.true_and]
      cases hb : nameB a && nameB b && nameB c
      · exact ⟨_, _, _, rfl⟩
      · exact ⟨_, _, _, rfl⟩
    · rw [if_neg h3]
      refine ⟨_, _, _, congrArg some (congrArg _ (congrArg _ (congrArg _ ?_)))⟩
      split
      · rename_i a b c hg
        rw [hg] at h3
        simp at h3
      · rfl
  · rw [if_neg hn, decide_eq_false hn]
    exact ⟨_, _, _, rfl⟩
theorem link_no (kd n : Int) (h : kd ≠ 5) (s : ByteArray) (hs : s.size < 4294967281) (k : Nat) : ∃ a b c, value_Link.f k kd n s = some (a, b, c, false) := by
  unfold value_Link.f
  have h1 : strings_Split.f s ⟨#[62]⟩ = some (gtS s) := by simp [strings_Split.f, hs, gtS]
  rw [h1]
  simp only [Option.bind_some]
  rw [if_neg h]
  exact ⟨_, _, _, rfl⟩
def valB (kd n : Int) (s : ByteArray) : Bool :=
  if kd = 0 then decide (n = 0) && decide (s.size = 0)
  else if kd = 1 then (decide (n = 0) || decide (n = 1)) && decide (s.size = 0)
  else if kd = 2 then decide (-1099511627776 ≤ n) && decide (n ≤ 1099511627776) && decide (s.size = 0)
  else if kd = 3 then decide (n = 0) && plainB s
  else if kd = 4 then decide (n = 0) && nameB s
  else if kd = 5 then decide (n = 0) && linkB s
  else false
theorem bit_not (n : Int) (h0 : -9223372036854775808 ≤ n) (h1 : n ≤ 9223372036854775807) : (Go.bits .andNot .i64 n 1 = 0) ↔ (n = 0 ∨ n = 1) := by
  constructor
  · intro h
    have h2 : (IntKind.i64.wrap (((BitVec.ofInt 64 n) &&& ~~~(BitVec.ofInt 64 1)).toNat : Int)) = 0 := h
    have hlt := ((BitVec.ofInt 64 n) &&& ~~~(BitVec.ofInt 64 1)).isLt
    have hz : ((BitVec.ofInt 64 n) &&& ~~~(BitVec.ofInt 64 1)).toNat = 0 := by
      simp only [IntKind.wrap_i64] at h2
      omega
    have hz' : (BitVec.ofInt 64 n) &&& ~~~(BitVec.ofInt 64 1) = 0#64 := BitVec.eq_of_toNat_eq (by simpa using hz)
    have hb : (BitVec.ofInt 64 n).toNat < 2 ^ 1 := by
      refine Nat.lt_pow_two_of_testBit _ fun i hi => ?_
      have h3 := congrArg (fun x => x.getLsbD i) hz'
      simp only [BitVec.getLsbD_and, BitVec.getLsbD_not, BitVec.getLsbD_zero] at h3
      rw [BitVec.testBit_toNat]
      by_cases hi64 : i < 64
      · have h4 : (BitVec.ofInt 64 1).getLsbD i = false := by
          have : BitVec.ofInt 64 1 = 1#64 := rfl
          rw [this, BitVec.getLsbD_one]
          simp
          omega
        rw [h4] at h3
        simpa [hi64] using h3
      · exact BitVec.getLsbD_of_ge _ _ (by omega)
    have h5 : (BitVec.ofInt 64 n).toNat = (n % 18446744073709551616).toNat := by simp [BitVec.toNat_ofInt]
    rw [h5] at hb
    omega
  · rintro (rfl | rfl) <;> rfl
theorem right_is (kd n : Int) (s : ByteArray) (hn0 : -9223372036854775808 ≤ n) (hn1 : n ≤ 9223372036854775807) (hs : s.size < 4294967281) (k : Nat) (hk : 30 ≤ k) : value_Right.f k kd n s = some (valB kd n s) := by
  unfold value_Right.f valB
  have hbit : (Go.bits .andNot .i64 n 1 = 0) = (n = 0 ∨ n = 1) := propext (bit_not n hn0 hn1)
  by_cases h0 : kd = 0
  · rw [if_pos h0, if_pos h0, empty_beq]
    by_cases h : n = 0 <;> simp [h]
  rw [if_neg h0, if_neg h0]
  by_cases h1 : kd = 1
  · rw [if_pos h1, if_pos h1, empty_beq]
    by_cases h : n = 0 ∨ n = 1
    · rw [if_pos (hbit ▸ h)]
      rcases h with rfl | rfl <;> simp
    · rw [if_neg (hbit ▸ h)]
      simp [show ¬ n = 0 from fun e => h (Or.inl e), show ¬ n = 1 from fun e => h (Or.inr e)]
  rw [if_neg h1, if_neg h1]
  by_cases h2 : kd = 2
  · rw [if_pos h2, if_pos h2, empty_beq]
    by_cases ha : -1099511627776 ≤ n <;> by_cases hb : n ≤ 1099511627776 <;> simp [ha, hb]
  rw [if_neg h2, if_neg h2]
  by_cases h3 : kd = 3
  · rw [if_pos h3, if_pos h3]
    by_cases h : n = 0 <;> simp [h, value_plain.f]
  rw [if_neg h3, if_neg h3]
  by_cases h4 : kd = 4
  · rw [if_pos h4, if_pos h4, name_is s k (by omega)]
    by_cases h : n = 0 <;> simp [h]
  rw [if_neg h4, if_neg h4]
  by_cases h5 : kd = 5
  · rw [if_pos h5, h5]
    obtain ⟨a, b, c, e⟩ := link_is n s hs k hk
    rw [e]
    rfl
  · rw [if_neg h5]
    obtain ⟨a, b, c, e⟩ := link_no kd n h5 s hs k
    rw [e]
    rfl
def cmpI (a b : Int) : Int := if a < b then -1 else if a = b then 0 else 1
def orI : List Int → Int
  | [] => 0
  | x :: l => if x = 0 then orI l else x
theorem cmpint_is (a b : Int) : cmp_Compare_int.f a b = some (cmpI a b) := by
  unfold cmp_Compare_int.f cmp_isNaN_int.f cmpI
  by_cases h1 : a < b
  · simp [h1]
  · by_cases h2 : a = b
    · simp [h2]
    · simp [h1, h2]
      omega
theorem or_loop (l : List Int) (hl : l.length ≤ 1000) : ∀ (d k i : Nat), i + d = l.length → d < k → cmp_Or_int.l0 k 0 l (l.length : Int) (i : Int) = some (orI (l.drop i))
  | 0, k, i, he, hk => by
    obtain ⟨k, rfl⟩ : ∃ m, k = m + 1 := ⟨k - 1, by omega⟩
    simp only [cmp_Or_int.l0]
    rw [if_neg (by omega), List.drop_of_length_le (by omega)]
    rfl
  | d + 1, k, i, he, hk => by
    obtain ⟨k, rfl⟩ : ∃ m, k = m + 1 := ⟨k - 1, by omega⟩
    simp only [cmp_Or_int.l0]
    have hi : i < l.length := by omega
    have hr : rd l (i : Int) = l[i] := by simp [rd, hi]
    rw [if_pos (by omega), if_pos (by omega), if_pos (by omega), hr, w64 (by omega) (by omega), List.drop_eq_getElem_cons hi]
    rw [show ((i : Int) + 1) = ((i + 1 : Nat) : Int) from by omega, or_loop l hl d k (i + 1) (by omega) (by omega)]
    simp only [orI]
    split <;> rfl
theorem or_is (l : List Int) (hl : l.length ≤ 1000) (k : Nat) (hk : l.length < k) : cmp_Or_int.f k l = some (orI l) := by
  unfold cmp_Or_int.f
  have h := or_loop l hl l.length k 0 (by omega) hk
  simpa using h
end Go.Proofs.YthmnohecmmknpaaDoor.Val
