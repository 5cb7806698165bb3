/- The reference's functions in the words of Val. -/
import Derived.Test.YtjacpmmlkgcjjaaDoorPAx3
import Derived.Test.YtjacpmmlkgcjjaaDoorVal
import Derived.Test.YtjacpmmlkgcjjaaDoorPut
import Derived.Test.YtjacpmmlkgcjjaaDoorGiven
import Derived.Lib.SplitLaws
namespace Go.Proofs.YtjacpmmlkgcjjaaDoor.Val
open Go.RowKit Go.Proofs.YtjacpmmlkgcjjaaDoorW.PrintWords Go.Proofs.YtjacpmmlkgcjjaaDoorW.PrintLast Go.Proofs.YtjacpmmlkgcjjaaDoor.Given Go.Proofs.YtjacpmmlkgcjjaaDoor.PA
set_option linter.unusedVariables false
set_option linter.unusedSimpArgs false
theorem refname_step (s : ByteArray) (k i : Nat) (hi : i < s.size) : hedgerowref01_Name.l0 (k + 1) s (i : Int) = if okAt s i = true then hedgerowref01_Name.l0 k s (wrap64 ((i : Int) + 1)) else some false := by
  simp only [hedgerowref01_Name.l0]
  rw [if_pos (by omega), if_pos (by omega)]
  simp only [okAt, letterI, otherI]
  generalize hedgerowref01_Name.l0 k s (wrap64 ((i : Int) + 1)) = r
  revert i
  intro i hi
  have key : ∀ (c : Int) (z : Prop) [Decidable z], (z ↔ i = 0) → (if c ≥ 97 then (if c ≤ 122 then (if c ≥ 48 then (if c ≤ 57 then r else r) else r) else (if c ≥ 65 then (if c ≥ 48 then (if c ≤ 57 then (if c ≤ 90 then r else (if z then some false else r)) else (if c ≤ 90 then r else (if c = 95 then (if z then some false else r) else some false))) else (if c ≤ 90 then r else (if c = 95 then (if z then some false else r) else some false))) else (if c ≥ 48 then (if c ≤ 57 then (if z then some false else r) else (if c = 95 then (if z then some false else r) else some false)) else (if c = 95 then (if z then some false else r) else some false)))) else (if c ≥ 65 then (if c ≥ 48 then (if c ≤ 57 then (if c ≤ 90 then r else (if z then some false else r)) else (if c ≤ 90 then r else (if c = 95 then (if z then some false else r) else some false))) else (if c ≤ 90 then r else (if c = 95 then (if z then some false else r) else some false))) else (if c ≥ 48 then (if c ≤ 57 then (if z then some false else r) else (if c = 95 then (if z then some false else r) else some false)) else (if c = 95 then (if z then some false else r) else some false)))) =
      if (((decide (97 ≤ c) && decide (c ≤ 122)) || (decide (65 ≤ c) && decide (c ≤ 90))) || (((decide (48 ≤ c) && decide (c ≤ 57)) || decide (c = 95)) && decide (i ≠ 0))) = true then r else some false := by
    intro c z _ hzi
    by_cases hz : z
    · have hi0 := hzi.1 hz
      simp only [hz, hi0, if_true, ne_eq, not_true_eq_false, decide_false, Bool.and_false, Bool.or_false]
      by_cases h1 : 97 ≤ c <;> by_cases h2 : c ≤ 122 <;> by_cases h3 : 65 ≤ c <;> by_cases h4 : c ≤ 90 <;> by_cases h5 : 48 ≤ c <;> by_cases h6 : c ≤ 57 <;> by_cases h7 : c = 95 <;> simp [h1, h2, h3, h4, h5, h6, h7] <;> omega
    · have hi0 : i ≠ 0 := fun e => hz (hzi.2 e)
      simp only [hz, hi0, if_false, ne_eq, not_false_eq_true, decide_true, Bool.and_true]
      by_cases h1 : 97 ≤ c <;> by_cases h2 : c ≤ 122 <;> by_cases h3 : 65 ≤ c <;> by_cases h4 : c ≤ 90 <;> by_cases h5 : 48 ≤ c <;> by_cases h6 : c ≤ 57 <;> by_cases h7 : c = 95 <;> simp [h1, h2, h3, h4, h5, h6, h7] <;> omega
  exact key (bt s (i : Int)) ((i : Int) = 0) (by omega)
theorem refname_loop (s : ByteArray) (hs : s.size ≤ 4611686018427387904) : ∀ (d k i : Nat), i + d = s.size → d < k → hedgerowref01_Name.l0 k s (i : Int) = some (allFrom s d i && decide (1 ≤ s.size) && decide (s.size ≤ 16))
  | 0, k, i, he, hk => by
    obtain ⟨k, rfl⟩ : ∃ m, k = m + 1 := ⟨k - 1, by omega⟩
    simp only [hedgerowref01_Name.l0]
    rw [if_neg (by omega)]
    simp only [allFrom, Bool.true_and]
    by_cases h1 : 1 ≤ s.size
    · rw [if_pos (by omega), decide_eq_true h1, Bool.true_and]
      congr 1
      rw [Bool.eq_iff_iff]
      simp
      omega
    · rw [if_neg (by omega), decide_eq_false h1]
      rfl
  | d + 1, k, i, he, hk => by
    obtain ⟨k, rfl⟩ : ∃ m, k = m + 1 := ⟨k - 1, by omega⟩
    rw [refname_step s k i (by omega), w64 (by omega) (by omega)]
    have ih := refname_loop s hs d k (i + 1) (by omega) (by omega)
    rw [show ((i : Int) + 1) = ((i + 1 : Nat) : Int) from by omega, ih]
    simp only [allFrom]
    cases okAt s i <;> simp
theorem refname_is (s : ByteArray) (hs : s.size ≤ 4611686018427387904) (k : Nat) (hk : s.size < k) : hedgerowref01_Name.f k s = some (nameB s) := by
  unfold hedgerowref01_Name.f
  have h := refname_loop s hs s.size k 0 (by omega) hk
  rw [show ((0 : Nat) : Int) = 0 from rfl] at h
  rw [h]
  congr 1
  unfold nameB
  cases hn : s.size with
  | zero => simp
  | succ n =>
    simp only [allFrom, innerFrom, okAt, allFrom_pos s n 1 (by omega)]
    rw [show ((0 : Nat) : Int) = 0 from rfl]
    cases letterI (bt s 0) <;> simp [Bool.and_comm]
theorem refplain_loop (s : ByteArray) (hs : s.size ≤ 4611686018427387904) : ∀ (d k i : Nat), i + d = s.size → d < k → hedgerowref01_plain.l0 k s (i : Int) = some ((s.data.toList.drop i).all okByte && decide ((s.size : Int) ≤ 64))
  | 0, k, i, he, hk => by
    obtain ⟨k, rfl⟩ : ∃ m, k = m + 1 := ⟨k - 1, by omega⟩
    simp only [hedgerowref01_plain.l0]
    rw [if_neg (by omega), List.drop_of_length_le (by rw [size_toL]; omega)]
    rfl
  | d + 1, k, i, he, hk => by
    obtain ⟨k, rfl⟩ : ∃ m, k = m + 1 := ⟨k - 1, by omega⟩
    simp only [hedgerowref01_plain.l0]
    have hi : i < s.data.toList.length := by rw [size_toL]; omega
    rw [if_pos (by omega), if_pos (by omega), w64 (by omega) (by omega)]
    have ih := refplain_loop s hs d k (i + 1) (by omega) (by omega)
    rw [show ((i : Int) + 1) = ((i + 1 : Nat) : Int) from by omega, ih, List.drop_eq_getElem_cons hi, List.all_cons]
    have hb : bt s (i : Int) = ((s.data.toList[i]).toNat : Int) := by
      rw [plain_at s i (by omega)]
      simp [bt, show i < s.size by omega]
    rw [hb]
    simp only [okByte]
    generalize (s.data.toList[i]).toNat = c
    by_cases h1 : (c : Int) < 32
    · rw [if_pos h1]
      simp; omega
    · rw [if_neg h1]
      by_cases h2 : (c : Int) > 126
      · rw [if_pos h2]
        simp; omega
      · rw [if_neg h2, decide_eq_true (show 32 ≤ c by omega), decide_eq_true (show c ≤ 126 by omega)]
        rfl
theorem refplain_is (s : ByteArray) (hs : s.size ≤ 4611686018427387904) (k : Nat) (hk : s.size < k) : hedgerowref01_plain.f k s = some (plainB s) := by
  unfold hedgerowref01_plain.f plainB
  have h := refplain_loop s hs s.size k 0 (by omega) hk
  simpa using h
theorem refsplit_loop (s : ByteArray) (hs : s.size ≤ 1000) : ∀ (d k i : Nat) (ys : List ByteArray) (z : ByteArray), i + d = s.size → d < k → ys.length ≤ i → z.size ≤ i →
    ∃ r, hedgerowref01_Split.l0 k s 62 (ys ++ [z]) (i : Int) = some r ∧ r.map (·.data.toList) = ys.map (·.data.toList) ++ glue z.data.toList (parts 62 (s.data.toList.drop i))
  | 0, k, i, ys, z, he, hk, hy, hz => by
    obtain ⟨k, rfl⟩ : ∃ m, k = m + 1 := ⟨k - 1, by omega⟩
    simp only [hedgerowref01_Split.l0]
    rw [if_neg (by omega), List.drop_of_length_le (by rw [size_toL]; omega)]
    exact ⟨_, rfl, by simp [parts, glue]⟩
  | d + 1, k, i, ys, z, he, hk, hy, hz => by
    obtain ⟨k, rfl⟩ : ∃ m, k = m + 1 := ⟨k - 1, by omega⟩
    have hi : i < s.data.toList.length := by rw [size_toL]; omega
    have hb : bt s (i : Int) = ((s.data.toList[i]).toNat : Int) := by
      rw [plain_at s i (by omega)]
      simp [bt, show i < s.size by omega]
    simp only [hedgerowref01_Split.l0]
    rw [if_pos (by omega), if_pos (by omega), hb, List.drop_eq_getElem_cons hi]
    simp only [parts]
    have ew : wrap64 ((i : Int) + 1) = ((i + 1 : Nat) : Int) := by rw [w64 (by omega) (by omega)]; omega
    by_cases hc : s.data.toList[i] = 62
    · rw [if_pos (by rw [hc]; rfl), if_pos (by simp; omega), ew, if_pos hc]
      obtain ⟨r, h1, h2⟩ := refsplit_loop s hs d k (i + 1) (ys ++ [z]) ⟨#[]⟩ (by omega) (by omega) (by simp; omega) (by simp [ByteArray.size])
      refine ⟨r, h1, ?_⟩
      rw [h2]
      cases hp : parts 62 (s.data.toList.drop (i + 1)) with
      | nil => exact absurd hp (parts_ne _ _)
      | cons h t => simp [glue]
    · rw [if_neg (fun e => hc (UInt8.toNat_inj.1 (by have : (62 : UInt8).toNat = 62 := rfl; omega)))]
      have el : wrap64 (((ys ++ [z]).length : Int) - 1) = (ys.length : Int) := by
        rw [w64 (by first | (simp; done) | (simp; omega)) (by first | (simp; done) | (simp; omega))]; simp
      have er : rdOf ByteArray.empty (ys ++ [z]) (ys.length : Int) = z := by simp [rdOf]
      rw [el, er, ew, if_pos (by omega), if_pos (by first | (simp; done) | (simp; omega)), if_pos (by omega), if_pos (by omega), if_pos ?_, if_neg hc]
      · have es : (ys ++ [z]).set (ys.length : Int).toNat (z ++ s.extract (i : Int).toNat ((i + 1 : Nat) : Int).toNat) = ys ++ [z ++ s.extract i (i + 1)] := by
          simp
        rw [es]
        obtain ⟨r, h1, h2⟩ := refsplit_loop s hs d k (i + 1) ys (z ++ s.extract i (i + 1)) (by omega) (by omega) (by omega) (by rw [ByteArray.size_append, ByteArray.size_extract]; omega)
        refine ⟨r, h1, ?_⟩
        rw [h2, toL_append, extract_one s i hi]
        cases hp : parts 62 (s.data.toList.drop (i + 1)) with
        | nil => exact absurd hp (parts_ne _ _)
        | cons h t => simp [glue]
      · rw [ByteArray.size_extract]
        simp
        omega
theorem refsplit_is (s : ByteArray) (hs : s.size ≤ 1000) (k : Nat) (hk : s.size < k) : hedgerowref01_Split.f k s 62 = some (gtS s) := by
  obtain ⟨r, h1, h2⟩ := refsplit_loop s hs s.size k 0 [] ⟨#[]⟩ (by omega) hk (by simp) (by simp [ByteArray.size])
  unfold hedgerowref01_Split.f
  rw [show ([] ++ [(⟨#[]⟩ : ByteArray)]) = [(⟨#[]⟩ : ByteArray)] from rfl, show ((0 : Nat) : Int) = 0 from rfl] at h1
  rw [h1]
  congr 1
  refine toL_inj ?_
  rw [h2, gtS_parts]
  simp
  cases hp : parts 62 s.data.toList with
  | nil => exact absurd hp (parts_ne _ _)
  | cons h t => simp [glue]
theorem reflink_is (s : ByteArray) (k : Nat) (hk : 100 ≤ k) : ∃ a b c, hedgerowref01_Link.f k s = some (a, b, c, linkB s) := by
  unfold hedgerowref01_Link.f
  by_cases h60 : (s.size : Int) > 60
  · rw [if_pos h60]
    have : linkB s = false := by
      cases h : linkB s
      · rfl
      · have := linkB_size h; omega
    rw [this]
    exact ⟨_, _, _, rfl⟩
  · rw [if_neg h60, refsplit_is s (by omega) k (by omega)]
    simp only [Option.bind_some]
    have htot := parts_total 62 s.data.toList
    rw [← gtS_parts, size_toL] at htot
    have hsz : ∀ x ∈ gtS s, x.size ≤ 61 := by
      intro x hx
      have h1 : x.data.toList.length ≤ (((gtS s).map (·.data.toList)).map List.length).sum := by
        refine le_sum _ _ ?_
        rw [List.map_map]
        exact List.mem_map.2 ⟨x, hx, rfl⟩
      rw [size_toL] at h1
      omega
    unfold linkB
    by_cases h3 : ((gtS s).length : Int) = 3
    · rw [if_pos h3]
      generalize gtS s = l at h3 hsz
      obtain ⟨a, b, c, rfl⟩ : ∃ a b c, l = [a, b, c] := by
        match l, h3 with
        | [a, b, c], _ => exact ⟨a, b, c, rfl⟩
        | [], h | [_], h | [_, _], h => simp at h
        | _ :: _ :: _ :: _ :: _, h => simp at h; omega
      obtain ⟨e1, e2, e3⟩ := rdOf3 a b c
      have ha := hsz a (by simp)
      have hb := hsz b (by simp)
      have hc := hsz c (by simp)
      rw [if_pos (by simp), e1, e2, e3, refname_is a (by omega) k (by omega), refname_is b (by omega) k (by omega), refname_is c (by omega) k (by omega)]
      simp only [Option.bind_some]
      cases nameB a <;> cases nameB b <;> cases nameB c <;> exact ⟨_, _, _, rfl⟩
    · rw [if_neg h3]
      refine ⟨_, _, _, congrArg some (congrArg _ (congrArg _ (congrArg _ ?_)))⟩
      split
      · rename_i a b c hg
        rw [hg] at h3
        simp at h3
      · rfl
theorem refright_is (kd n : Int) (s : ByteArray) (hs : s.size ≤ 4611686018427387904) (k : Nat) (hk : 100 ≤ k) (hks : s.size < k) : hedgerowref01_Right.f k kd n s = some (valB kd n s) := by
  unfold hedgerowref01_Right.f valB
  by_cases h0 : kd = 0
  · rw [if_pos h0, if_pos h0, empty_beq]
    by_cases h : n = 0 <;> simp [h]
  rw [if_neg h0, if_neg h0]
  by_cases h1 : kd = 1
  · rw [if_pos h1, if_pos h1, empty_beq]
    by_cases h : n = 0 <;> by_cases h' : n = 1 <;> simp [h, h']
  rw [if_neg h1, if_neg h1]
  by_cases h2 : kd = 2
  · rw [if_pos h2, if_pos h2, empty_beq]
    by_cases ha : -1099511627776 ≤ n <;> by_cases hb : n ≤ 1099511627776 <;> simp [ha, hb]
  rw [if_neg h2, if_neg h2]
  by_cases h3 : kd = 3
  · rw [if_pos h3, if_pos h3, refplain_is s hs k hks]
    by_cases h : n = 0 <;> simp [h]
  rw [if_neg h3, if_neg h3]
  by_cases h4 : kd = 4
  · rw [if_pos h4, if_pos h4, refname_is s hs k hks]
    by_cases h : n = 0 <;> simp [h]
  rw [if_neg h4, if_neg h4]
  by_cases h5 : kd = 5
  · rw [if_pos h5, if_pos h5]
    obtain ⟨a, b, c, e⟩ := reflink_is s k hk
    rw [e]
    by_cases h : n = 0 <;> simp [h]
  · rw [if_neg h5, if_neg h5]
theorem refcmp_loop (s t : ByteArray) (hs : s.size ≤ 4611686018427387904) (ht : t.size ≤ 4611686018427387904) (a b c d' : Int) : ∀ (d k i : Nat), i + d = s.size → i ≤ t.size → 2 * d + 1 < k →
    hedgerowref01_Compare.l0 k (i : Int) a b s c d' t = some (cmpL (s.data.toList.drop i) (t.data.toList.drop i)) := by
  have e1 := size_toL s
  have e2 := size_toL t
  intro d
  induction d with
  | zero =>
    intro k i he hi hk
    obtain ⟨k, rfl⟩ : ∃ m, k = m + 2 := ⟨k - 2, by omega⟩
    simp only [hedgerowref01_Compare.l0]
    rw [if_neg (by omega)]
    simp only [hedgerowref01_Compare.j1]
    rw [if_neg (by simp), List.drop_of_length_le (show s.data.toList.length ≤ i by omega)]
    by_cases h : i < t.size
    · rw [if_pos (by omega), List.drop_eq_getElem_cons (by omega)]
      rfl
    · rw [if_neg (by omega), if_neg (by omega), List.drop_of_length_le (by omega)]
      rfl
  | succ d ih =>
    intro k i he hi hk
    obtain ⟨k, rfl⟩ : ∃ m, k = m + 2 := ⟨k - 2, by omega⟩
    simp only [hedgerowref01_Compare.l0]
    have his : i < s.data.toList.length := by omega
    rw [if_pos (by omega)]
    simp only [hedgerowref01_Compare.j1]
    by_cases h : i < t.size
    · have hit : i < t.data.toList.length := by omega
      rw [decide_eq_true (show (i : Int) < t.size by omega), if_pos rfl, if_pos (by omega), if_pos (by omega), if_pos (by omega), bt_toL s i his, bt_toL t i hit, w64 (by omega) (by omega)]
      rw [show ((i : Int) + 1) = ((i + 1 : Nat) : Int) from by omega, ih k (i + 1) (by omega) (by omega) (by omega)]
      rw [List.drop_eq_getElem_cons his, List.drop_eq_getElem_cons hit]
      simp only [cmpL]
      by_cases hc : s.data.toList[i] = t.data.toList[i]
      · rw [if_pos hc, if_pos (by rw [hc])]
      · rw [if_neg hc, if_neg (fun e => hc (UInt8.toNat_inj.1 (by omega)))]
        by_cases hl : (s.data.toList[i]).toNat < (t.data.toList[i]).toNat
        · rw [if_pos hl, if_pos (by omega)]
        · rw [if_neg hl, if_neg (by omega)]
    · rw [decide_eq_false (show ¬ (i : Int) < t.size by omega), if_neg (by simp), if_neg (by omega), if_pos (by omega), List.drop_eq_getElem_cons his, List.drop_of_length_le (show t.data.toList.length ≤ i by omega)]
      rfl
theorem refcmp_is (k1 n1 : Int) (s1 : ByteArray) (k2 n2 : Int) (s2 : ByteArray) (hs : s1.size ≤ 4611686018427387904) (ht : s2.size ≤ 4611686018427387904) (k : Nat) (hk : 2 * s1.size + 1 < k) :
    hedgerowref01_Compare.f k k1 n1 s1 k2 n2 s2 = some (cmpV k1 n1 s1 k2 n2 s2) := by
  unfold hedgerowref01_Compare.f cmpV
  by_cases h1 : k1 = k2
  · rw [if_pos h1]
    by_cases h2 : n1 = n2
    · rw [if_pos h2]
      have h := refcmp_loop s1 s2 hs ht k1 n1 k2 n2 s1.size k 0 (by omega) (by omega) hk
      rw [show ((0 : Nat) : Int) = 0 from rfl] at h
      rw [h]
      simp [cmpI, h1, h2, orI, cmpStr_L]
    · rw [if_neg h2]
      have e1 : cmpI k1 k2 = 0 := by simp [cmpI, h1]
      by_cases h3 : n1 < n2
      · rw [if_pos h3]; simp [orI, cmpI, h3, h1]
      · rw [if_neg h3]; simp [orI, cmpI, h3, h2, h1]
  · rw [if_neg h1]
    by_cases h3 : k1 < k2
    · rw [if_pos h3]; simp [orI, cmpI, h3]
    · rw [if_neg h3]; simp [orI, cmpI, h3, h1]
end Go.Proofs.YtjacpmmlkgcjjaaDoor.Val
namespace Go.Proofs.YtjacpmmlkgcjjaaDoor.Latest
open Go.RowKit Go.Proofs.YtjacpmmlkgcjjaaDoorW.PrintWords Go.Proofs.YtjacpmmlkgcjjaaDoorW.PrintLast Go.Proofs.YtjacpmmlkgcjjaaDoor.Given Go.Proofs.YtjacpmmlkgcjjaaDoor.PA Go.Proofs.YtjacpmmlkgcjjaaDoor.Val
theorem lawright_is {c : S33} (hn : c.f0.size ≤ 1000) (ht : c.f2.f2.size ≤ 1000) (k : Nat) (hk : 2000 ≤ k) : hedgerowlaw36_right.f k c.f0 c.f1.f0 c.f1.f1 c.f2.f0 c.f2.f1 c.f2.f2 = some (rightC c) := by
  unfold hedgerowlaw36_right.f rightC
  rw [refname_is _ (by omega) k (by omega), refright_is _ _ _ (by omega) k (by omega) (by omega)]
  simp only [Option.bind_some]
  cases nameB c.f0
  · rfl
  cases valB c.f2.f0 c.f2.f1 c.f2.f2
  · rfl
  by_cases h1 : 0 ≤ c.f1.f0
  · by_cases h2 : c.f1.f0 ≤ 1099511627776
    · by_cases h3 : 0 ≤ c.f1.f1
      · simp [h1, h2, h3]
      · simp [h1, h2, h3]
    · simp [h1, h2]
  · simp [h1]
end Go.Proofs.YtjacpmmlkgcjjaaDoor.Latest
