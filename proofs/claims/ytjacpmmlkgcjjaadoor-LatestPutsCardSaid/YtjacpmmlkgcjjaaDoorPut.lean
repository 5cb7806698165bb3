/- The register's Put in plain words; Join. -/
import Derived.Test.YtjacpmmlkgcjjaaDoorAllC
namespace Go.Proofs.YtjacpmmlkgcjjaaDoor.Latest
open Go.RowKit Go.ChangeMaps Go.Shelf Go.Sort Go.Proofs.YtjacpmmlkgcjjaaDoorW.PrintWords Go.Proofs.YtjacpmmlkgcjjaaDoorW.PrintLast Go.Proofs.YtjacpmmlkgcjjaaDoor.Given Go.Proofs.YtjacpmmlkgcjjaaDoor.PA Go.Proofs.YtjacpmmlkgcjjaaDoor.Val
open Go.Maps (Keyed string_keyed)
open Go.WideMaps
set_option linter.unusedVariables false
set_option linter.unusedSimpArgs false
structure Cok (c : S33) : Prop where
  name : c.f0.size < 4294967281
  text : c.f2.f2.size < 4294967281
  n0 : -9223372036854775808 ≤ c.f2.f1
  n1 : c.f2.f1 ≤ 9223372036854775807
def rightC (c : S33) : Bool := nameB c.f0 && valB c.f2.f0 c.f2.f1 c.f2.f2 && decide (0 ≤ c.f1.f0) && decide (c.f1.f0 ≤ 1099511627776) && decide (0 ≤ c.f1.f1) && decide (c.f1.f1 < 16)
theorem rightC_is {c : S33} (h : Cok c) (k : Nat) (hk : 30 ≤ k) : latest_right.f k c.f0 c.f1.f0 c.f1.f1 c.f2.f0 c.f2.f1 c.f2.f2 = some (rightC c) := by
  unfold latest_right.f rightC
  rw [name_is _ k (by omega), right_is _ _ _ h.n0 h.n1 h.text k hk]
  simp only [Option.bind_some]
  cases nameB c.f0
  · rfl
  cases valB c.f2.f0 c.f2.f1 c.f2.f2
  · rfl
  by_cases h1 : 0 ≤ c.f1.f0
  · by_cases h2 : c.f1.f0 ≤ 1099511627776
    · by_cases h3 : 0 ≤ c.f1.f1
      · simp [h1, h2, h3]
      · simp [h1, h2, h3]
    · simp [h1, h2]
  · simp [h1]
def ordI (a b c d : Int) : Int := orI [cmpI a c, cmpI b d]
theorem order_is (a b c d : Int) (k : Nat) (hk : 4 ≤ k) : latest_order.f k a b c d = some (ordI a b c d) := by
  unfold latest_order.f ordI
  simp only [cmpint_is, Option.bind_some]
  rw [or_is _ (by simp) k (by simp; omega)]
  rfl
def beats (c d : S33) : Int := orI [ordI c.f1.f0 c.f1.f1 d.f1.f0 d.f1.f1, cmpV c.f2.f0 c.f2.f1 c.f2.f2 d.f2.f0 d.f2.f1 d.f2.f2]
def counts (o : Option S33) (c : S33) : Bool := rightC c && match o with
  | none => true
  | some d => decide (0 < beats c d)
def errC (c : S33) : Int := if rightC c = true then 0 else 1
theorem PutL.get {L L' : List S33} {c : S33} (h : PutL L c L') (s : ByteArray) (hn : (L.map (·.f0)).Nodup) : getL L' s = if s = c.f0 then some c else getL L s := by
  rcases h with ⟨h1, rfl⟩ | ⟨L1, u, L2, rfl, h2, rfl⟩
  · unfold getL
    rw [List.find?_append]
    by_cases hs : s = c.f0
    · rw [if_pos hs, show List.find? (fun c => decide (c.f0 = s)) L = none from List.find?_eq_none.2 (fun x hx => by simp [hs, h1 x hx])]
      simp [hs]
    · rw [if_neg hs]
      have : ¬ c.f0 = s := fun e => hs e.symm
      cases List.find? (fun c => decide (c.f0 = s)) L <;> simp [this]
  · unfold getL
    rw [List.find?_append, List.find?_append, List.find?_cons, List.find?_cons]
    by_cases hs : s = c.f0
    · rw [if_pos hs]
      have hno : List.find? (fun c => decide (c.f0 = s)) L1 = none := List.find?_eq_none.2 (fun x hx => by
        rw [List.map_append, List.nodup_append] at hn
        have := hn.2.2 x.f0 (List.mem_map_of_mem hx) u.f0 (by simp)
        simp only [decide_eq_true_eq]
        rw [hs, ← h2]
        exact this)
      rw [hno]
      simp [hs]
    · rw [if_neg hs]
      have e1 : ¬ c.f0 = s := fun e => hs e.symm
      have e2 : ¬ u.f0 = s := fun e => hs (e ▸ h2.symm ▸ rfl)
      simp [e1, e2]
theorem PutL.mem {L L' : List S33} {c x : S33} (h : PutL L c L') (hx : x ∈ L') : x ∈ L ∨ x = c := by
  rcases h with ⟨h1, rfl⟩ | ⟨L1, u, L2, rfl, h2, rfl⟩
  · simpa using hx
  · simp only [List.mem_append, List.mem_cons] at hx ⊢
    rcases hx with h | h | h
    · exact .inl (.inl h)
    · exact .inr h
    · exact .inl (.inr (.inr h))
theorem PutL.len {L L' : List S33} {c : S33} (h : PutL L c L') : L.length ≤ L'.length ∧ L'.length ≤ L.length + 1 := by
  rcases h with ⟨h1, rfl⟩ | ⟨L1, u, L2, rfl, h2, rfl⟩ <;> simp
theorem KeptBut.of_below {w w' : World} {b : Nat} (h : Below w.heap.size w w') : KeptBut w w' b := ⟨h.os, h.tape, h.output, h.size, fun i hi _ => h.block i hi⟩
theorem Put_calls (g b : Nat) (L : List S33) (c : S33) (w : World) (hr : RegAt w g b L) (hc : Cok c) :
    Calls Tryd.prog 12 #[.pointer (some ⟨g, 0, none⟩), val33 c] w fun e w' => e = .returned (.tuple #[.bool (counts (getL L c.f0) c), .int .i64 (errC c)]) ∧
      ∃ L', RegAt w' g b L' ∧ KeptBut w w' b ∧ (∀ s, getL L' s = if counts (getL L c.f0) c = true ∧ s = c.f0 then some c else getL L s) ∧ (∀ x ∈ L', x ∈ L ∨ (x = c ∧ rightC c = true)) ∧ L.length ≤ L'.length ∧ L'.length ≤ L.length + 1 := by
  have hright := rightC_is hc 100 (by omega)
  have hnl : c.f0.size ≤ maxLen := by have := hc.name; unfold maxLen; omega
  have hnd := hr.nodup
  cases hR : rightC c with
  | false =>
    rw [hR] at hright
    refine (Put_bad 100 g c w hright).mono ?_
    rintro e w' ⟨rfl, hb⟩
    have hcf : counts (getL L c.f0) c = false := by simp [counts, hR]
    rw [hcf, show errC c = 1 from by simp [errC, hR]]
    exact ⟨rfl, L, hr.below hb, .of_below hb, fun s => by simp, fun x hx => .inl hx, Nat.le_refl _, Nat.le_succ _⟩
  | true =>
    rw [hR] at hright
    cases hg : getL L c.f0 with
    | none =>
      refine (Put_absent 100 g b L c w hr hright hnl (getL_none hg)).mono ?_
      rintro e w' ⟨rfl, L', hL', hr', hk⟩
      have hct : counts none c = true := by simp [counts, hR]
      rw [hct, show errC c = 0 from by simp [errC, hR]]
      exact ⟨rfl, L', hr', hk, fun s => by rw [hL'.get s hnd]; simp, fun x hx => (hL'.mem hx).imp id (fun h => ⟨h, rfl⟩), hL'.len.1, hL'.len.2⟩
    | some d =>
      obtain ⟨hd, hdn⟩ := getL_some hg
      have ho := order_is c.f1.f0 c.f1.f1 d.f1.f0 d.f1.f1 100 (by omega)
      have hv := valcmp_is c.f2.f0 c.f2.f1 c.f2.f2 d.f2.f0 d.f2.f1 d.f2.f2 100 (by omega)
      have hz := or_is [ordI c.f1.f0 c.f1.f1 d.f1.f0 d.f1.f1, cmpV c.f2.f0 c.f2.f1 c.f2.f2 d.f2.f0 d.f2.f1 d.f2.f2] (by simp) 100 (by simp)
      by_cases hz0 : beats c d ≤ 0
      · refine (Put_old 100 g b L c w hr hright hnl d hd hdn _ _ _ ho hv hz hz0).mono ?_
        rintro e w' ⟨rfl, hb⟩
        have hcf : counts (some d) c = false := by simp [counts, hR]; omega
        rw [hcf, show errC c = 0 from by simp [errC, hR]]
        exact ⟨rfl, L, hr.below hb, .of_below hb, fun s => by simp, fun x hx => .inl hx, Nat.le_refl _, Nat.le_succ _⟩
      · refine (Put_there 100 g b L c w hr hright hnl d hd hdn _ _ _ ho hv hz hz0).mono ?_
        rintro e w' ⟨rfl, L', hL', hr', hk⟩
        have hct : counts (some d) c = true := by simp [counts, hR]; omega
        rw [hct, show errC c = 0 from by simp [errC, hR]]
        exact ⟨rfl, L', hr', hk, fun s => by rw [hL'.get s hnd]; simp, fun x hx => (hL'.mem hx).imp id (fun h => ⟨h, rfl⟩), hL'.len.1, hL'.len.2⟩
end Go.Proofs.YtjacpmmlkgcjjaaDoor.Latest
