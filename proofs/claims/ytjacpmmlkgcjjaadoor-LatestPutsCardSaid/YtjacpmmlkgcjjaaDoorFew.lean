/- Which rows the laws go through; orders, in plain words. -/
import Derived.Test.YtjacpmmlkgcjjaaDoorFixed
namespace Go.Proofs.YtjacpmmlkgcjjaaDoor.Latest
open Go.RowKit Go.ChangeMaps Go.Shelf Go.Sort Go.Proofs.YtjacpmmlkgcjjaaDoorW.PrintWords Go.Proofs.YtjacpmmlkgcjjaaDoorW.PrintLast Go.Proofs.YtjacpmmlkgcjjaaDoor.Given Go.Proofs.YtjacpmmlkgcjjaaDoor.PA Go.Proofs.YtjacpmmlkgcjjaaDoor.Val
set_option linter.unusedVariables false
set_option linter.unusedSimpArgs false
def fewB (l : List S33) : Bool := l.all (fun c => decide (c.f0.size + c.f2.f2.size ≤ 200)) && decide (l.length ≤ 80)
structure Cin (c : S33) : Prop where
  name : c.f0.size ≤ reachBytes
  text : c.f2.f2.size ≤ reachBytes
  n0 : -9223372036854775808 ≤ c.f2.f1
  n1 : c.f2.f1 ≤ 9223372036854775807
theorem few_loop (l : List S33) (hl : l.length ≤ 4611686018427387904) (hc : ∀ c ∈ l, Cin c) : ∀ (d k i : Nat), i + d = l.length → d < k →
    hedgerowlaw36_few.l0 k l l (l.length : Int) (i : Int) = some ((l.drop i).all (fun c => decide (c.f0.size + c.f2.f2.size ≤ 200)) && decide (l.length ≤ 80))
  | 0, k, i, he, hk => by
    obtain ⟨k, rfl⟩ : ∃ m, k = m + 1 := ⟨k - 1, by omega⟩
    simp only [hedgerowlaw36_few.l0]
    rw [if_neg (by omega), List.drop_of_length_le (by omega)]
    simp
    omega
  | d + 1, k, i, he, hk => by
    obtain ⟨k, rfl⟩ : ∃ m, k = m + 1 := ⟨k - 1, by omega⟩
    simp only [hedgerowlaw36_few.l0]
    have hi : i < l.length := by omega
    have hr : rd_T33 l (i : Int) = l[i] := by simp [rd_T33, hi]
    have h1 := hc l[i] (List.getElem_mem hi)
    have h2 := h1.name
    have h3 := h1.text
    unfold reachBytes at h2 h3
    rw [if_pos (by omega), if_pos (by omega), if_pos (by omega), hr, w64 (by omega) (by omega), w64 (by omega) (by omega), List.drop_eq_getElem_cons hi, List.all_cons]
    by_cases h : ((l[i].f0.size : Int) + (l[i].f2.f2.size : Int)) > 200
    · rw [if_pos h, decide_eq_false (by omega)]
      rfl
    · rw [if_neg h, decide_eq_true (by omega), show ((i : Int) + 1) = ((i + 1 : Nat) : Int) from by omega, few_loop l hl hc d k (i + 1) (by omega) (by omega)]
      rfl
theorem few_is (l : List S33) (hl : l.length ≤ 4611686018427387904) (hc : ∀ c ∈ l, Cin c) : hedgerowlaw36_few.f (l.length + 1) l = some (fewB l) := by
  unfold hedgerowlaw36_few.f fewB
  have h := few_loop l hl hc l.length (l.length + 1) 0 (by omega) (by omega)
  simpa using h
theorem fewB_len {l : List S33} (h : fewB l = true) : l.length ≤ 80 := by
  unfold fewB at h
  simp only [Bool.and_eq_true, decide_eq_true_eq] at h
  exact h.2
theorem fewB_size {l : List S33} (h : fewB l = true) {c : S33} (hc : c ∈ l) : c.f0.size + c.f2.f2.size ≤ 200 := by
  unfold fewB at h
  simp only [Bool.and_eq_true, List.all_eq_true, decide_eq_true_eq] at h
  exact h.1 c hc
theorem fewB_ok {l : List S33} (h : fewB l = true) (hi : ∀ c ∈ l, Cin c) {c : S33} (hc : c ∈ l) : Cok c := by
  have h1 := fewB_size h hc
  have h2 := hi c hc
  exact ⟨by omega, by omega, h2.n0, h2.n1⟩
theorem cmpI_self (a : Int) : cmpI a a = 0 := by unfold cmpI; rw [if_neg (by omega), if_pos rfl]
theorem cmpI_anti (x y : Int) : cmpI x y = - cmpI y x := by
  unfold cmpI
  split <;> split <;> (try split) <;> (try split) <;> omega
theorem ord_self (a b : Int) : ordI a b a b = 0 := by
  unfold ordI
  rw [cmpI_self, cmpI_self]
  rfl
theorem cmpV_self (k n : Int) (s : ByteArray) : cmpV k n s k n s = 0 := by
  unfold cmpV
  rw [cmpI_self, cmpI_self, cmpStr_self]
  rfl
theorem beats_self (c : S33) : beats c c = 0 := by
  unfold beats
  rw [ord_self, cmpV_self]
  rfl
end Go.Proofs.YtjacpmmlkgcjjaaDoor.Latest
