/- The law's own words: right, ahead, in plain words. -/
import Derived.Test.YtjacpmmlkgcjjaaDoorOrd
import Derived.Test.YtjacpmmlkgcjjaaDoorRef
namespace Go.Proofs.YtjacpmmlkgcjjaaDoor.Latest
open Go.RowKit Go.ChangeMaps Go.Proofs.YtjacpmmlkgcjjaaDoorW.PrintWords Go.Proofs.YtjacpmmlkgcjjaaDoor.Given Go.Proofs.YtjacpmmlkgcjjaaDoor.PA Go.Proofs.YtjacpmmlkgcjjaaDoor.Val
set_option linter.unusedVariables false
set_option linter.unusedSimpArgs false
theorem ahead_is {c d : S33} (hc : c.f2.f2.size ≤ 1000) (hd : d.f2.f2.size ≤ 1000) (k : Nat) (hk : 3000 ≤ k) :
    hedgerowlaw36_ahead.f k c.f0 c.f1.f0 c.f1.f1 c.f2.f0 c.f2.f1 c.f2.f2 d.f0 d.f1.f0 d.f1.f1 d.f2.f0 d.f2.f1 d.f2.f2 = some (decide (0 < beats c d)) := by
  unfold hedgerowlaw36_ahead.f
  have hb : beats c d = if (if cmpI c.f1.f0 d.f1.f0 = 0 then cmpI c.f1.f1 d.f1.f1 else cmpI c.f1.f0 d.f1.f0) = 0 then cmpV c.f2.f0 c.f2.f1 c.f2.f2 d.f2.f0 d.f2.f1 d.f2.f2 else (if cmpI c.f1.f0 d.f1.f0 = 0 then cmpI c.f1.f1 d.f1.f1 else cmpI c.f1.f0 d.f1.f0) := by
    unfold beats ordI
    rw [orI_two, orI_two]
  have hne : ∀ a b : Int, a ≠ b → cmpI a b ≠ 0 := fun a b h h0 => h (cmpI_zero h0)
  have hgt : ∀ a b : Int, (0 < cmpI a b) ↔ b < a := fun a b => by
    unfold cmpI
    split
    · omega
    · split <;> omega
  by_cases h1 : c.f1.f0 = d.f1.f0
  · rw [if_pos h1]
    have e1 : cmpI c.f1.f0 d.f1.f0 = 0 := by rw [h1]; exact cmpI_self _
    rw [if_pos e1] at hb
    by_cases h2 : c.f1.f1 = d.f1.f1
    · have e2 : cmpI c.f1.f1 d.f1.f1 = 0 := by rw [h2]; exact cmpI_self _
      rw [if_pos e2] at hb
      rw [if_pos h2, refcmp_is _ _ _ _ _ _ (by omega) (by omega) k (by omega), Option.bind_some, hb]
    · rw [if_neg (hne _ _ h2)] at hb
      rw [if_neg h2, hb]
      congr 1
      rw [decide_eq_decide]
      exact (hgt _ _).symm
  · rw [if_neg (hne _ _ h1), if_neg (hne _ _ h1)] at hb
    rw [if_neg h1, hb]
    congr 1
    rw [decide_eq_decide]
    exact (hgt _ _).symm
end Go.Proofs.YtjacpmmlkgcjjaaDoor.Latest
