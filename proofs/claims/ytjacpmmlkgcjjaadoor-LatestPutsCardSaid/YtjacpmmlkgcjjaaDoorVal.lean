/- What the functions on names and values come to, in plain words: the program's and the reference's alike. -/
import Derived.Test.YtjacpmmlkgcjjaaDoorPAx6
import Derived.Test.YtjacpmmlkgcjjaaDoorGiven
import Derived.Lib.SplitLaws
namespace Go.Proofs.YtjacpmmlkgcjjaaDoor.Val
open Go.RowKit Go.Proofs.YtjacpmmlkgcjjaaDoorW.PrintWords Go.Proofs.YtjacpmmlkgcjjaaDoorW.PrintLast Go.Proofs.YtjacpmmlkgcjjaaDoor.Given Go.Proofs.YtjacpmmlkgcjjaaDoor.PA
set_option linter.unusedVariables false
set_option linter.unusedSimpArgs false
def letterI (c : Int) : Bool := (decide (97 ≤ c) && decide (c ≤ 122)) || (decide (65 ≤ c) && decide (c ≤ 90))
def otherI (c : Int) : Bool := (decide (48 ≤ c) && decide (c ≤ 57)) || decide (c = 95)
def innerFrom (s : ByteArray) : Nat → Nat → Bool
  | 0, _ => true
  | d + 1, i => (letterI (bt s i) || otherI (bt s i)) && innerFrom s d (i + 1)
def nameB (s : ByteArray) : Bool := decide (1 ≤ s.size) && decide (s.size ≤ 16) && letterI (bt s 0) && innerFrom s s.size 0
theorem nameB_size {s : ByteArray} (h : nameB s = true) : 1 ≤ s.size ∧ s.size ≤ 16 := by
  simp only [nameB, Bool.and_eq_true, decide_eq_true_eq] at h
  exact ⟨h.1.1.1, h.1.1.2⟩
theorem w64 {i : Int} (h0 : -9223372036854775808 ≤ i) (h : i ≤ 9223372036854775807) : wrap64 i = i := by unfold wrap64; omega
theorem letter_is (c : Int) : value_letter.f c = some (letterI c) := by
  unfold value_letter.f letterI
  by_cases h1 : 97 ≤ c <;> by_cases h2 : c ≤ 122 <;> by_cases h3 : 65 ≤ c <;> by_cases h4 : c ≤ 90 <;> simp [h1, h2, h3, h4] <;> omega
theorem inner_is (c : Int) : value_inner.f c = some (letterI c || otherI c) := by
  unfold value_inner.f otherI
  rw [letter_is]
  simp only [Option.bind_some]
  cases letterI c
  · by_cases h1 : 48 ≤ c <;> by_cases h2 : c ≤ 57 <;> by_cases h3 : c = 95 <;> simp [h1, h2, h3] <;> omega
  · simp
theorem name_loop (s : ByteArray) (hs : s.size ≤ 4611686018427387904) : ∀ (d k i : Nat), i + d = s.size → d < k → value_Name.l0 k s (s.size : Int) (i : Int) = some (innerFrom s d i)
  | 0, k, i, he, hk => by
    obtain ⟨k, rfl⟩ : ∃ m, k = m + 1 := ⟨k - 1, by omega⟩
    simp only [value_Name.l0]
    rw [if_neg (by omega)]
    rfl
  | d + 1, k, i, he, hk => by
    obtain ⟨k, rfl⟩ : ∃ m, k = m + 1 := ⟨k - 1, by omega⟩
    simp only [value_Name.l0]
    rw [if_pos (by omega), if_pos (by omega), if_pos (by omega), inner_is]
    simp only [Option.bind_some]
    rw [w64 (by omega) (by omega)]
    have ih := name_loop s hs d k (i + 1) (by omega) (by omega)
    rw [show ((i : Int) + 1) = ((i + 1 : Nat) : Int) from by omega, ih]
    simp only [innerFrom]
    cases letterI (bt s i) || otherI (bt s i) <;> simp
theorem size_toL (s : ByteArray) : s.data.toList.length = s.size := by rw [Array.length_toList]; rfl
theorem empty_iff (s : ByteArray) : s.toList = [] ↔ s.size = 0 := by
  rw [Lib.toList_data, ← size_toL]
  exact List.length_eq_zero_iff.symm
theorem empty_beq (s : ByteArray) : (s.toList == ([] : List UInt8)) = decide (s.size = 0) := by
  rw [Bool.eq_iff_iff]
  simp [empty_iff]
theorem name_is (s : ByteArray) (k : Nat) (hk : 20 ≤ k) : value_Name.f k s = some (nameB s) := by
  obtain ⟨k, rfl⟩ : ∃ m, k = m + 1 := ⟨k - 1, by omega⟩
  unfold value_Name.f nameB
  by_cases h0 : s.size = 0
  · rw [if_pos ((empty_iff s).2 h0)]
    simp [value_Name.j0, h0]
  · rw [if_neg (fun h => h0 ((empty_iff s).1 h))]
    by_cases h1 : s.size ≤ 16
    · rw [if_neg (by omega), if_pos (by omega), letter_is]
      simp only [Option.bind_some, value_Name.j0]
      rw [decide_eq_true (show 1 ≤ s.size by omega), decide_eq_true h1]
      cases hl : letterI (bt s 0)
      · simp
      · have := name_loop s (by omega) s.size k 0 (by omega) (by omega)
        simpa using this
    · rw [if_pos (by omega)]
      simp [value_Name.j0, h1]
def okAt (s : ByteArray) (i : Nat) : Bool := letterI (bt s i) || (otherI (bt s i) && decide (i ≠ 0))
def allFrom (s : ByteArray) : Nat → Nat → Bool
  | 0, _ => true
  | d + 1, i => okAt s i && allFrom s d (i + 1)
theorem allFrom_pos (s : ByteArray) : ∀ (d i : Nat), 0 < i → allFrom s d i = innerFrom s d i
  | 0, _, _ => rfl
  | d + 1, i, h => by
    simp only [allFrom, innerFrom, okAt, allFrom_pos s d (i + 1) (by omega)]
    rw [decide_eq_true (show i ≠ 0 by omega), Bool.and_true]
def parts (c : UInt8) : List UInt8 → List (List UInt8)
  | [] => [[]]
  | b :: l => if b = c then [] :: parts c l else match parts c l with
    | [] => [[b]]
    | h :: t => (b :: h) :: t
theorem parts_ne (c : UInt8) : ∀ l, parts c l ≠ []
  | [] => by simp [parts]
  | b :: l => by
    unfold parts
    split
    · simp
    · split <;> simp
theorem split_parts (c : UInt8) : ∀ l : List UInt8, Lib.splitK [c] 0 (Lib.count l [c]) l = parts c l
  | [] => by
    rw [Lib.count_one]
    rfl
  | b :: l => by
    have ih := split_parts c l
    by_cases h : b = c
    · subst h
      have hix : Lib.index (b :: l) [b] = ((0 : Nat) : Int) := by rw [Lib.index]; simp [List.isPrefixOf]
      rw [Lib.count_cons_eq, Nat.add_comm 1]
      simp only [Lib.splitK]
      rw [hix]
      simp only [parts, if_true]
      rw [← ih]
      simp
    · rw [Lib.count_cons_ne b c l h]
      simp only [parts, if_neg h]
      have hp : ([c] : List UInt8).isPrefixOf (b :: l) = false := by simp [List.isPrefixOf, Ne.symm h]
      have hix : Lib.index (b :: l) [c] = if Lib.index l [c] == -1 then -1 else Lib.index l [c] + 1 := by rw [Lib.index, hp]; simp
      cases hc : Lib.count l [c] with
      | zero =>
        rw [hc] at ih
        rw [← ih]
        rfl
      | succ k =>
        have hne : Lib.index l [c] ≠ -1 := fun hm => by rw [Lib.count_miss hm] at hc; omega
        have hge := Lib.index_ge l [c]
        obtain ⟨j, hj⟩ : ∃ j : Nat, Lib.index l [c] = j := ⟨(Lib.index l [c]).toNat, by omega⟩
        rw [hc] at ih
        rw [← ih]
        have hix' : Lib.index (b :: l) [c] = ((j + 1 : Nat) : Int) := by rw [hix, if_neg (fun e => hne (beq_iff_eq.1 e)), hj]; omega
        simp only [Lib.splitK]
        rw [hix', hj, if_neg (by first | (simp; done) | (simp; omega)), if_neg (by first | (simp; done) | (simp; omega))]
        simp
def gtS (s : ByteArray) : List ByteArray := Lib.splitB ⟨#[62]⟩ 0 (Lib.countB s ⟨#[62]⟩) s
theorem gtS_parts (s : ByteArray) : (gtS s).map (·.data.toList) = parts 62 s.data.toList := by
  unfold gtS
  rw [Lib.splitB_data]
  exact split_parts 62 s.data.toList
def glue (z : List UInt8) : List (List UInt8) → List (List UInt8)
  | [] => [z]
  | h :: t => (z ++ h) :: t
theorem toL_append (a b : ByteArray) : (a ++ b).data.toList = a.data.toList ++ b.data.toList := by simp
theorem extract_one (s : ByteArray) (i : Nat) (hi : i < s.data.toList.length) : (s.extract i (i + 1)).data.toList = [s.data.toList[i]] := by
  rw [Lib.extract_data]
  rw [show i + 1 - i = 1 from by omega, List.drop_eq_getElem_cons hi]
  rfl
theorem toL_inj {l l' : List ByteArray} (h : l.map (·.data.toList) = l'.map (·.data.toList)) : l = l' := by
  refine List.map_inj_right (f := fun s : ByteArray => s.data.toList) ?_ |>.1 h
  intro a b e
  obtain ⟨⟨a⟩⟩ := a
  obtain ⟨⟨b⟩⟩ := b
  simp at e
  rw [e]
def linkB (s : ByteArray) : Bool := match gtS s with
  | [a, b, c] => nameB a && nameB b && nameB c
  | _ => false
theorem parts_total (c : UInt8) : ∀ l : List UInt8, ((parts c l).map List.length).sum + (parts c l).length = l.length + 1
  | [] => rfl
  | b :: l => by
    have ih := parts_total c l
    simp only [parts]
    split
    · simp; omega
    · cases hp : parts c l with
      | nil => exact absurd hp (parts_ne _ _)
      | cons h t => rw [hp] at ih; simp at ih ⊢; omega
theorem linkB_size {s : ByteArray} (h : linkB s = true) : s.size ≤ 60 := by
  unfold linkB at h
  split at h
  · rename_i a b c hg
    simp only [Bool.and_eq_true] at h
    have ha := nameB_size h.1.1
    have hb := nameB_size h.1.2
    have hc := nameB_size h.2
    have hp := gtS_parts s
    rw [hg] at hp
    have ht := parts_total 62 s.data.toList
    rw [← hp, size_toL] at ht
    simp [size_toL] at ht
    have e1 := size_toL a
    have e2 := size_toL b
    have e3 := size_toL c
    simp at e1 e2 e3
    omega
  · cases h
theorem rdOf3 (a b c : ByteArray) : rdOf ByteArray.empty [a, b, c] 0 = a ∧ rdOf ByteArray.empty [a, b, c] 1 = b ∧ rdOf ByteArray.empty [a, b, c] 2 = c := ⟨rfl, rfl, rfl⟩
theorem names3 (a b c : ByteArray) (k : Nat) (hk : 30 ≤ k) : value_names.f k [a, b, c] = some (nameB a && nameB b && nameB c) := by
  obtain ⟨k, rfl⟩ : ∃ m, k = m + 4 := ⟨k - 4, by omega⟩
  obtain ⟨e1, e2, e3⟩ := rdOf3 a b c
  unfold value_names.f
  simp only [value_names.l0, List.length_cons, List.length_nil]
  have w1 : wrap64 (0 + 1) = 1 := by rw [w64 (by omega) (by omega)]; rfl
  have w2 : wrap64 (1 + 1) = 2 := by rw [w64 (by omega) (by omega)]; rfl
  have w3 : wrap64 (2 + 1) = 3 := by rw [w64 (by omega) (by omega)]; rfl
  simp only [w1, w2, w3, e1, e2, e3, name_is _ (k + 3) (by omega), name_is _ (k + 2) (by omega), name_is _ (k + 1) (by omega), name_is _ k (by omega), Option.bind_some]
  cases nameB a <;> cases nameB b <;> cases nameB c <;> rfl
theorem link_is (n : Int) (s : ByteArray) (hs : s.size < 4294967281) (k : Nat) (hk : 30 ≤ k) : ∃ a b c, value_Link.f k 5 n s = some (a, b, c, decide (n = 0) && linkB s) := by
  unfold value_Link.f
  have h1 : strings_Split.f s ⟨#[62]⟩ = some (gtS s) := by simp [strings_Split.f, hs, gtS]
  rw [h1]
  simp only [Option.bind_some, if_true]
  by_cases hn : n = 0
  · rw [if_pos hn, decide_eq_true hn]
    unfold linkB
    by_cases h3 : ((gtS s).length : Int) = 3
    · rw [if_pos h3]
      generalize gtS s = l at h3
      obtain ⟨a, b, c, rfl⟩ : ∃ a b c, l = [a, b, c] := by
        match l, h3 with
        | [a, b, c], _ => exact ⟨a, b, c, rfl⟩
        | [], h | [_], h | [_, _], h => simp at h
        | _ :: _ :: _ :: _ :: _, h => simp at h; omega
      rw [names3 a b c k hk]
      simp only [Option.bind_some, Bool.true_and]
      cases hb : nameB a && nameB b && nameB c
      · exact ⟨_, _, _, rfl⟩
      · exact ⟨_, _, _, rfl⟩
    · rw [if_neg h3]
      refine ⟨_, _, _, congrArg some (congrArg _ (congrArg _ (congrArg _ ?_)))⟩
      split
      · rename_i a b c hg
        rw [hg] at h3
        simp at h3
      · rfl
  · rw [if_neg hn, decide_eq_false hn]
    exact ⟨_, _, _, rfl⟩
theorem link_no (kd n : Int) (h : kd ≠ 5) (s : ByteArray) (hs : s.size < 4294967281) (k : Nat) : ∃ a b c, value_Link.f k kd n s = some (a, b, c, false) := by
  unfold value_Link.f
  have h1 : strings_Split.f s ⟨#[62]⟩ = some (gtS s) := by simp [strings_Split.f, hs, gtS]
  rw [h1]
  simp only [Option.bind_some]
  rw [if_neg h]
  exact ⟨_, _, _, rfl⟩
theorem le_sum : ∀ (l : List Nat) (x : Nat), x ∈ l → x ≤ l.sum
  | y :: l, x, h => by
    rcases List.mem_cons.1 h with rfl | h
    · simp
    · have := le_sum l x h
      simp
      omega
def valB (kd n : Int) (s : ByteArray) : Bool :=
  if kd = 0 then decide (n = 0) && decide (s.size = 0)
  else if kd = 1 then (decide (n = 0) || decide (n = 1)) && decide (s.size = 0)
  else if kd = 2 then decide (-1099511627776 ≤ n) && decide (n ≤ 1099511627776) && decide (s.size = 0)
  else if kd = 3 then decide (n = 0) && plainB s
  else if kd = 4 then decide (n = 0) && nameB s
  else if kd = 5 then decide (n = 0) && linkB s
  else false
theorem bit_not (n : Int) (h0 : -9223372036854775808 ≤ n) (h1 : n ≤ 9223372036854775807) : (Go.bits .andNot .i64 n 1 = 0) ↔ (n = 0 ∨ n = 1) := by
  constructor
  · intro h
    have h2 : (IntKind.i64.wrap (((BitVec.ofInt 64 n) &&& ~~~(BitVec.ofInt 64 1)).toNat : Int)) = 0 := h
    have hlt := ((BitVec.ofInt 64 n) &&& ~~~(BitVec.ofInt 64 1)).isLt
    have hz : ((BitVec.ofInt 64 n) &&& ~~~(BitVec.ofInt 64 1)).toNat = 0 := by
      simp only [IntKind.wrap_i64] at h2
      omega
    have hz' : (BitVec.ofInt 64 n) &&& ~~~(BitVec.ofInt 64 1) = 0#64 := BitVec.eq_of_toNat_eq (by simpa using hz)
    have hb : (BitVec.ofInt 64 n).toNat < 2 ^ 1 := by
      refine Nat.lt_pow_two_of_testBit _ fun i hi => ?_
      have h3 := congrArg (fun x => x.getLsbD i) hz'
      simp only [BitVec.getLsbD_and, BitVec.getLsbD_not, BitVec.getLsbD_zero] at h3
      rw [BitVec.testBit_toNat]
      by_cases hi64 : i < 64
      · have h4 : (BitVec.ofInt 64 1).getLsbD i = false := by
          have : BitVec.ofInt 64 1 = 1#64 := rfl
          rw [this, BitVec.getLsbD_one]
          simp
          omega
        rw [h4] at h3
        simpa [hi64] using h3
      · exact BitVec.getLsbD_of_ge _ _ (by omega)
    have h5 : (BitVec.ofInt 64 n).toNat = (n % 18446744073709551616).toNat := by simp [BitVec.toNat_ofInt]
    rw [h5] at hb
    omega
  · rintro (rfl | rfl) <;> rfl
theorem right_is (kd n : Int) (s : ByteArray) (hn0 : -9223372036854775808 ≤ n) (hn1 : n ≤ 9223372036854775807) (hs : s.size < 4294967281) (k : Nat) (hk : 30 ≤ k) : value_Right.f k kd n s = some (valB kd n s) := by
  unfold value_Right.f valB
  have hbit : (Go.bits .andNot .i64 n 1 = 0) = (n = 0 ∨ n = 1) := propext (bit_not n hn0 hn1)
  by_cases h0 : kd = 0
  · rw [if_pos h0, if_pos h0, empty_beq]
    by_cases h : n = 0 <;> simp [h]
  rw [if_neg h0, if_neg h0]
  by_cases h1 : kd = 1
  · rw [if_pos h1, if_pos h1, empty_beq]
    by_cases h : n = 0 ∨ n = 1
    · rw [if_pos (hbit ▸ h)]
      rcases h with rfl | rfl <;> simp
    · rw [if_neg (hbit ▸ h)]
      simp [show ¬ n = 0 from fun e => h (Or.inl e), show ¬ n = 1 from fun e => h (Or.inr e)]
  rw [if_neg h1, if_neg h1]
  by_cases h2 : kd = 2
  · rw [if_pos h2, if_pos h2, empty_beq]
    by_cases ha : -1099511627776 ≤ n <;> by_cases hb : n ≤ 1099511627776 <;> simp [ha, hb]
  rw [if_neg h2, if_neg h2]
  by_cases h3 : kd = 3
  · rw [if_pos h3, if_pos h3]
    by_cases h : n = 0 <;> simp [h, value_plain.f]
  rw [if_neg h3, if_neg h3]
  by_cases h4 : kd = 4
  · rw [if_pos h4, if_pos h4, name_is s k (by omega)]
    by_cases h : n = 0 <;> simp [h]
  rw [if_neg h4, if_neg h4]
  by_cases h5 : kd = 5
  · rw [if_pos h5, h5]
    obtain ⟨a, b, c, e⟩ := link_is n s hs k hk
    rw [e]
    rfl
  · rw [if_neg h5]
    obtain ⟨a, b, c, e⟩ := link_no kd n h5 s hs k
    rw [e]
    rfl
def cmpI (a b : Int) : Int := if a < b then -1 else if a = b then 0 else 1
def orI : List Int → Int
  | [] => 0
  | x :: l => if x = 0 then orI l else x
theorem cmpint_is (a b : Int) : cmp_Compare_int.f a b = some (cmpI a b) := by
  unfold cmp_Compare_int.f cmp_isNaN_int.f cmpI
  by_cases h1 : a < b
  · simp [h1]
  · by_cases h2 : a = b
    · simp [h2]
    · simp [h1, h2]
      omega
theorem or_loop (l : List Int) (hl : l.length ≤ 1000) : ∀ (d k i : Nat), i + d = l.length → d < k → cmp_Or_int.l0 k 0 l (l.length : Int) (i : Int) = some (orI (l.drop i))
  | 0, k, i, he, hk => by
    obtain ⟨k, rfl⟩ : ∃ m, k = m + 1 := ⟨k - 1, by omega⟩
    simp only [cmp_Or_int.l0]
    rw [if_neg (by omega), List.drop_of_length_le (by omega)]
    rfl
  | d + 1, k, i, he, hk => by
    obtain ⟨k, rfl⟩ : ∃ m, k = m + 1 := ⟨k - 1, by omega⟩
    simp only [cmp_Or_int.l0]
    have hi : i < l.length := by omega
    have hr : rd l (i : Int) = l[i] := by simp [rd, hi]
    rw [if_pos (by omega), if_pos (by omega), if_pos (by omega), hr, w64 (by omega) (by omega), List.drop_eq_getElem_cons hi]
    rw [show ((i : Int) + 1) = ((i + 1 : Nat) : Int) from by omega, or_loop l hl d k (i + 1) (by omega) (by omega)]
    simp only [orI]
    split <;> rfl
theorem or_is (l : List Int) (hl : l.length ≤ 1000) (k : Nat) (hk : l.length < k) : cmp_Or_int.f k l = some (orI l) := by
  unfold cmp_Or_int.f
  have h := or_loop l hl l.length k 0 (by omega) hk
  simpa using h
def cmpV (k1 n1 : Int) (s1 : ByteArray) (k2 n2 : Int) (s2 : ByteArray) : Int := orI [cmpI k1 k2, cmpI n1 n2, cmpStr s1 s2]
theorem valcmp_is (k1 n1 : Int) (s1 : ByteArray) (k2 n2 : Int) (s2 : ByteArray) (k : Nat) (hk : 4 ≤ k) : value_Compare.f k k1 n1 s1 k2 n2 s2 = some (cmpV k1 n1 s1 k2 n2 s2) := by
  unfold value_Compare.f cmp_Compare_string.f cmpV
  simp only [cmpint_is, Option.bind_some]
  rw [or_is _ (by simp) k (by simp; omega)]
  rfl
def cmpL : List UInt8 → List UInt8 → Int
  | [], [] => 0
  | [], _ :: _ => -1
  | _ :: _, [] => 1
  | a :: l, b :: m => if a = b then cmpL l m else if a.toNat < b.toNat then -1 else 1
theorem bt_toL (s : ByteArray) (i : Nat) (hi : i < s.data.toList.length) : bt s (i : Int) = ((s.data.toList[i]).toNat : Int) := by
  have h := size_toL s
  rw [plain_at s i (by omega)]
  simp [bt, show i < s.size by omega]
theorem less_cmpL : ∀ (l m : List UInt8), (if Op.bytesLess l m then (-1 : Int) else if l = m then 0 else 1) = cmpL l m
  | [], [] => by simp [Op.bytesLess, cmpL]
  | [], _ :: _ => by simp [Op.bytesLess, cmpL]
  | _ :: _, [] => by simp [Op.bytesLess, cmpL]
  | a :: l, b :: m => by
    have ih := less_cmpL l m
    simp only [cmpL]
    by_cases h : a = b
    · subst h
      rw [if_pos rfl, ← ih]
      simp [Op.bytesLess]
    · rw [if_neg h]
      have hne : a.toNat ≠ b.toNat := fun e => h (UInt8.toNat_inj.1 e)
      by_cases hl : a.toNat < b.toNat
      · rw [if_pos hl]
        simp [Op.bytesLess, hl, UInt8.lt_iff_toNat_lt]
      · rw [if_neg hl]
        simp [Op.bytesLess, UInt8.lt_iff_toNat_lt, h]
        omega
theorem cmpStr_L (s t : ByteArray) : cmpStr s t = cmpL s.data.toList t.data.toList := by
  unfold cmpStr
  rw [Lib.toList_data, Lib.toList_data]
  exact less_cmpL _ _
theorem cmpL_self : ∀ l : List UInt8, cmpL l l = 0
  | [] => rfl
  | a :: l => by simp [cmpL, cmpL_self l]
theorem cmpL_eq : ∀ {l m : List UInt8}, cmpL l m = 0 → l = m
  | [], [], _ => rfl
  | [], _ :: _, h => by simp [cmpL] at h
  | _ :: _, [], h => by simp [cmpL] at h
  | a :: l, b :: m, h => by
    simp only [cmpL] at h
    split at h
    · rename_i e
      rw [e, cmpL_eq h]
    · split at h <;> cases h
theorem cmpL_neg : ∀ l m : List UInt8, cmpL l m = - cmpL m l
  | [], [] => rfl
  | [], _ :: _ => rfl
  | _ :: _, [] => rfl
  | a :: l, b :: m => by
    simp only [cmpL]
    by_cases h : a = b
    · rw [if_pos h, if_pos h.symm, cmpL_neg l m]
    · rw [if_neg h, if_neg (Ne.symm h)]
      have hne : a.toNat ≠ b.toNat := fun e => h (UInt8.toNat_inj.1 e)
      by_cases h2 : a.toNat < b.toNat
      · rw [if_pos h2, if_neg (by omega)]
      · rw [if_neg h2, if_pos (by omega)]; rfl
theorem cmpL_trans : ∀ {l m n : List UInt8}, cmpL l m ≤ 0 → cmpL m n ≤ 0 → cmpL l n ≤ 0 ∧ (cmpL l n = 0 → cmpL l m = 0)
  | [], [], n, _, h => ⟨h, fun _ => rfl⟩
  | [], _ :: _, [], _, h => by simp [cmpL] at h
  | [], _ :: _, _ :: _, _, _ => by simp [cmpL]
  | _ :: _, [], _, h, _ => by simp [cmpL] at h
  | _ :: _, _ :: _, [], _, h => by simp [cmpL] at h
  | a :: l, b :: m, c :: n, h1, h2 => by
    simp only [cmpL] at h1 h2 ⊢
    by_cases e1 : a = b
    · subst e1
      rw [if_pos rfl] at h1
      by_cases e2 : a = c
      · subst e2
        rw [if_pos rfl] at h2
        simp only [if_true]
        exact cmpL_trans h1 h2
      · rw [if_neg e2] at h2 ⊢
        by_cases h3 : a.toNat < c.toNat
        · rw [if_pos h3]; exact ⟨by decide, fun h => by simp at h⟩
        · rw [if_neg h3] at h2; simp at h2
    · rw [if_neg e1] at h1 ⊢
      have hab : a.toNat < b.toNat := by
        by_cases h3 : a.toNat < b.toNat
        · exact h3
        · rw [if_neg h3] at h1; simp at h1
      by_cases e2 : b = c
      · subst e2
        rw [if_neg e1, if_pos hab]
        exact ⟨by decide, fun h => by simp at h⟩
      · rw [if_neg e2] at h2
        have hbc : b.toNat < c.toNat := by
          by_cases h3 : b.toNat < c.toNat
          · exact h3
          · rw [if_neg h3] at h2; simp at h2
        have hne : a ≠ c := fun e => by subst e; omega
        rw [if_neg hne, if_pos (by omega)]
        exact ⟨by decide, fun h => by simp at h⟩
theorem cmpStr_eq {s t : ByteArray} (h : cmpStr s t = 0) : s = t := by
  rw [cmpStr_L] at h
  have := cmpL_eq h
  obtain ⟨⟨a⟩⟩ := s
  obtain ⟨⟨b⟩⟩ := t
  simp at this
  rw [this]
theorem cmpStr_self (s : ByteArray) : cmpStr s s = 0 := by rw [cmpStr_L]; exact cmpL_self _
theorem cmpStr_neg (s t : ByteArray) : cmpStr s t = - cmpStr t s := by rw [cmpStr_L, cmpStr_L]; exact cmpL_neg _ _
theorem cmpStr_lt {s t u : ByteArray} (h1 : cmpStr s t < 0) (h2 : cmpStr t u ≤ 0) : cmpStr s u < 0 := by
  rw [cmpStr_L] at *
  have := cmpL_trans (Int.le_of_lt h1) h2
  rcases Int.lt_or_eq_of_le this.1 with h | h
  · exact h
  · have := this.2 h; omega
end Go.Proofs.YtjacpmmlkgcjjaaDoor.Val
