/- Which cell counts, in whatever order cells come: the plain law of LatestOrder. -/
import Derived.Test.YtjacpmmlkgcjjaaDoorFew
namespace Go.Proofs.YtjacpmmlkgcjjaaDoor.Latest
open Go.RowKit Go.Proofs.YtjacpmmlkgcjjaaDoorW.PrintWords Go.Proofs.YtjacpmmlkgcjjaaDoor.Given Go.Proofs.YtjacpmmlkgcjjaaDoor.PA Go.Proofs.YtjacpmmlkgcjjaaDoor.Val
set_option linter.unusedVariables false
set_option linter.unusedSimpArgs false
theorem orI_two (x y : Int) : orI [x, y] = if x = 0 then y else x := by
  unfold orI
  split
  · unfold orI
    split
    · show (0 : Int) = y
      omega
    · rfl
  · rfl
theorem orI_three (x y z : Int) : orI [x, y, z] = if x = 0 then (if y = 0 then z else y) else x := by
  have := orI_two y z
  unfold orI
  rw [this]
theorem cmpI_zero {a b : Int} (h : cmpI a b = 0) : a = b := by
  unfold cmpI at h
  split at h
  · omega
  · split at h <;> omega
theorem cmpI_tr {a b c : Int} (h1 : cmpI a b ≤ 0) (h2 : cmpI b c ≤ 0) : cmpI a c ≤ 0 ∧ (cmpI a c = 0 → cmpI a b = 0 ∧ cmpI b c = 0) := by
  unfold cmpI at *
  constructor
  · split at h1 <;> split at h2 <;> (try split at h1) <;> (try split at h2) <;> (try split) <;> (try split) <;> omega
  · intro h3
    split at h3
    · omega
    · split at h3
      · have : ¬ a < b := by intro h; split at h2 <;> (try split at h2) <;> omega
        have : ¬ b < c := by intro h; split at h1 <;> (try split at h1) <;> omega
        split at h1
        · omega
        · split at h2
          · omega
          · split at h1
            · split at h2
              · subst_vars; simp_all
              · omega
            · omega
      · omega
theorem cmpStr_tr {a b c : ByteArray} (h1 : cmpStr a b ≤ 0) (h2 : cmpStr b c ≤ 0) : cmpStr a c ≤ 0 ∧ (cmpStr a c = 0 → cmpStr a b = 0 ∧ cmpStr b c = 0) := by
  rcases Int.lt_or_eq_of_le h1 with h | h
  · have := cmpStr_lt h h2
    exact ⟨by omega, by omega⟩
  · have e := cmpStr_eq h
    subst e
    exact ⟨h2, fun h3 => ⟨h, h3⟩⟩
structure Tr {α : Type} (f : α → α → Int) : Prop where
  anti : ∀ a b, f a b = - f b a
  tr : ∀ a b c, f a b ≤ 0 → f b c ≤ 0 → f a c ≤ 0 ∧ (f a c = 0 → f a b = 0 ∧ f b c = 0)
theorem Tr.lex {α : Type} {f g : α → α → Int} (hf : Tr f) (hg : Tr g) : Tr (fun a b => if f a b = 0 then g a b else f a b) where
  anti a b := by
    have h1 := hf.anti a b
    have h2 := hg.anti a b
    by_cases h : f a b = 0
    · rw [if_pos h, if_pos (by omega), h2]
    · rw [if_neg h, if_neg (by omega), h1]
  tr a b c h1 h2 := by
    have f1 : f a b ≤ 0 := by by_cases h : f a b = 0 <;> simp [h] at h1 <;> omega
    have f2 : f b c ≤ 0 := by by_cases h : f b c = 0 <;> simp [h] at h2 <;> omega
    have h3 := hf.tr a b c f1 f2
    by_cases h : f a c = 0
    · obtain ⟨e1, e2⟩ := h3.2 h
      rw [if_pos e1] at h1
      rw [if_pos e2] at h2
      rw [if_pos h, if_pos e1, if_pos e2]
      exact hg.tr a b c h1 h2
    · rw [if_neg h]
      exact ⟨h3.1, fun h' => absurd h' h⟩
theorem Tr.on {α β : Type} {f : α → α → Int} (hf : Tr f) (p : β → α) : Tr (fun a b => f (p a) (p b)) := ⟨fun a b => hf.anti _ _, fun a b c => hf.tr _ _ _⟩
theorem tr_int : Tr cmpI := ⟨cmpI_anti, fun _ _ _ h1 h2 => cmpI_tr h1 h2⟩
theorem tr_str : Tr cmpStr := ⟨cmpStr_neg, fun _ _ _ h1 h2 => cmpStr_tr h1 h2⟩
theorem beats_lex (c d : S33) : beats c d = if (if cmpI c.f1.f0 d.f1.f0 = 0 then cmpI c.f1.f1 d.f1.f1 else cmpI c.f1.f0 d.f1.f0) = 0 then (if cmpI c.f2.f0 d.f2.f0 = 0 then (if cmpI c.f2.f1 d.f2.f1 = 0 then cmpStr c.f2.f2 d.f2.f2 else cmpI c.f2.f1 d.f2.f1) else cmpI c.f2.f0 d.f2.f0) else (if cmpI c.f1.f0 d.f1.f0 = 0 then cmpI c.f1.f1 d.f1.f1 else cmpI c.f1.f0 d.f1.f0) := by
  unfold beats ordI cmpV
  rw [orI_two, orI_two, orI_three]
theorem tr_beats : Tr beats := by
  have h : Tr (fun c d : S33 => if (if cmpI c.f1.f0 d.f1.f0 = 0 then cmpI c.f1.f1 d.f1.f1 else cmpI c.f1.f0 d.f1.f0) = 0 then (if cmpI c.f2.f0 d.f2.f0 = 0 then (if cmpI c.f2.f1 d.f2.f1 = 0 then cmpStr c.f2.f2 d.f2.f2 else cmpI c.f2.f1 d.f2.f1) else cmpI c.f2.f0 d.f2.f0) else (if cmpI c.f1.f0 d.f1.f0 = 0 then cmpI c.f1.f1 d.f1.f1 else cmpI c.f1.f0 d.f1.f0)) :=
    Tr.lex (Tr.lex (tr_int.on (fun c : S33 => c.f1.f0)) (tr_int.on (fun c : S33 => c.f1.f1))) (Tr.lex (tr_int.on (fun c : S33 => c.f2.f0)) (Tr.lex (tr_int.on (fun c : S33 => c.f2.f1)) (tr_str.on (fun c : S33 => c.f2.f2))))
  have e : beats = _ := funext fun c => funext fun d => beats_lex c d
  rw [e]
  exact h
def Best (P : S33 → Prop) (st : St) : Prop := ∀ s, match st s with
  | none => ∀ c, P c → rightC c = true → c.f0 ≠ s
  | some d => (P d ∧ rightC d = true ∧ d.f0 = s) ∧ ∀ c, P c → rightC c = true → c.f0 = s → beats c d ≤ 0
theorem Best.none_ {P : S33 → Prop} {st : St} (h : Best P st) {s : ByteArray} (hs : st s = none) : ∀ c, P c → rightC c = true → c.f0 ≠ s := by
  have := h s
  rw [hs] at this
  exact this
theorem Best.some_ {P : S33 → Prop} {st : St} (h : Best P st) {s : ByteArray} {d : S33} (hs : st s = some d) : (P d ∧ rightC d = true ∧ d.f0 = s) ∧ ∀ c, P c → rightC c = true → c.f0 = s → beats c d ≤ 0 := by
  have := h s
  rw [hs] at this
  exact this
theorem Best.mk_ {P : S33 → Prop} {st : St} (h0 : ∀ s, st s = none → ∀ c, P c → rightC c = true → c.f0 ≠ s) (h1 : ∀ s d, st s = some d → (P d ∧ rightC d = true ∧ d.f0 = s) ∧ ∀ c, P c → rightC c = true → c.f0 = s → beats c d ≤ 0) : Best P st := by
  intro s
  cases hs : st s with
  | none => exact h0 s hs
  | some d => exact h1 s d hs
theorem Best.empty : Best (fun _ => False) (getL []) := Best.mk_ (fun _ _ _ h => h.elim) (fun s d h => by simp [getL] at h)
theorem Best.put {P : S33 → Prop} {st : St} (h : Best P st) (c : S33) : Best (fun x => P x ∨ x = c) (putS st c) := by
  refine Best.mk_ (fun s hs x hx hr hn => ?_) (fun s d hs => ?_)
  · unfold putS at hs
    split at hs
    · cases hs
    · rename_i hc
      rcases hx with hx | rfl
      · exact h.none_ hs x hx hr hn
      · subst hn
        apply hc
        refine ⟨?_, rfl⟩
        rw [hs]
        show (rightC x && true) = true
        rw [hr]; rfl
  · unfold putS at hs
    split at hs
    · rename_i hc
      obtain ⟨hc, rfl⟩ := hc
      obtain rfl := Option.some.inj hs
      have hrc : rightC c = true := by
        unfold counts at hc
        cases hr : rightC c with
        | true => rfl
        | false => rw [hr] at hc; cases hc
      refine ⟨⟨.inr rfl, hrc, rfl⟩, fun x hx hr hn => ?_⟩
      rcases hx with hx | rfl
      · cases hst : st c.f0 with
        | none => exact absurd hn (h.none_ hst x hx hr)
        | some e =>
          rw [hst] at hc
          have hc2 : (rightC c && decide (0 < beats c e)) = true := hc
          simp only [Bool.and_eq_true, decide_eq_true_eq] at hc2
          have h1 := (h.some_ hst).2 x hx hr hn
          have h2 := tr_beats.anti c e
          exact (tr_beats.tr x e c h1 (by omega)).1
      · rw [beats_self]; exact Int.le_refl _
    · rename_i hc
      obtain ⟨⟨d1, d2, d3⟩, d4⟩ := h.some_ hs
      refine ⟨⟨.inl d1, d2, d3⟩, fun x hx hr hn => ?_⟩
      rcases hx with hx | rfl
      · exact d4 x hx hr hn
      · subst hn
        have hcf : counts (st x.f0) x = false := by
          cases hct : counts (st x.f0) x with
          | false => rfl
          | true => exact absurd ⟨hct, rfl⟩ hc
        rw [hs] at hcf
        have h2 : (rightC x && decide (0 < beats x d)) = false := hcf
        rw [hr] at h2
        have h3 := of_decide_eq_false (show decide (0 < beats x d) = false from h2)
        omega
theorem mem_getL {L : List S33} (hn : (L.map (·.f0)).Nodup) (x : S33) : x ∈ L ↔ getL L x.f0 = some x := ⟨fun h => getL_mem hn h, fun h => (getL_some h).1⟩
theorem perm_of_get {L1 L2 : List S33} (h1 : (L1.map (·.f0)).Nodup) (h2 : (L2.map (·.f0)).Nodup) (h : getL L1 = getL L2) : List.Perm L1 L2 := by
  have n1 : L1.Nodup := (List.pairwise_map.1 h1).imp fun h e => h (by rw [e])
  have n2 : L2.Nodup := (List.pairwise_map.1 h2).imp fun h e => h (by rw [e])
  rw [List.perm_ext_iff_of_nodup n1 n2]
  intro x
  rw [mem_getL h1, mem_getL h2, h]
end Go.Proofs.YtjacpmmlkgcjjaaDoor.Latest
