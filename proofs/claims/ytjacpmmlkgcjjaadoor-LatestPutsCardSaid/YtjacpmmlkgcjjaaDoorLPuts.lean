/- Puts: the law LatestPuts answers true for every input (the first form: no condition beyond the row's own) -/
import Derived.Test.YtjacpmmlkgcjjaaDoorLaid
import Derived.Test.YtjacpmmlkgcjjaaDoorOpen
import Derived.Test.YtjacpmmlkgcjjaaDoorPuts
namespace Go.Proofs.YtjacpmmlkgcjjaaDoor.LPuts
open Go.ChangeShapes Go.WideShapes Go.ChangeAt Go.RowKit Go.Proofs.YtjacpmmlkgcjjaaDoor.Given Go.Proofs.YtjacpmmlkgcjjaaDoor.PA Go.Proofs.YtjacpmmlkgcjjaaDoor.LaidW Go.Proofs.YtjacpmmlkgcjjaaDoorW.PrintWords Go.Proofs.YtjacpmmlkgcjjaaDoorW.PrintMore
set_option linter.unusedVariables false
set_option linter.unusedSimpArgs false
theorem opens29 : Opens Tryd.prog 29 PA.k29 (fun x => (Lit.int .i64 x.f0).wf = true ∧ (Lit.int .i64 x.f1).wf = true) :=
  Opens.iso (Opens.struct Tryd.underlying29 (OpensF.cons (Opens.int Tryd.underlying3 (by kernel_rfl)) rfl (OpensF.one (Opens.int Tryd.underlying3 (by kernel_rfl)) rfl)) (by kernel_rfl)) _ (fun x => ⟨x.1, x.2⟩) (fun _ => rfl)
theorem opens31 : Opens Tryd.prog 31 PA.k31 (fun x => (Lit.int .i64 x.f0).wf = true ∧ (Lit.int .i64 x.f1).wf = true ∧ x.f2.size ≤ reachBytes) :=
  Opens.iso (Opens.struct Tryd.underlying31 (OpensF.cons (Opens.int Tryd.underlying3 (by kernel_rfl)) rfl (OpensF.cons (Opens.int Tryd.underlying3 (by kernel_rfl)) rfl (OpensF.one (Opens.string Tryd.underlying9 (by kernel_rfl)) rfl))) (by kernel_rfl)) _ (fun x => ⟨x.1, x.2.1, x.2.2⟩) (fun _ => rfl)
theorem opens33 : Opens Tryd.prog 33 PA.k33 (fun x => x.f0.size ≤ reachBytes ∧ ((Lit.int .i64 x.f1.f0).wf = true ∧ (Lit.int .i64 x.f1.f1).wf = true) ∧ ((Lit.int .i64 x.f2.f0).wf = true ∧ (Lit.int .i64 x.f2.f1).wf = true ∧ x.f2.f2.size ≤ reachBytes)) :=
  Opens.iso (Opens.struct Tryd.underlying33 (OpensF.cons (Opens.string Tryd.underlying9 (by kernel_rfl)) rfl (OpensF.cons opens29 rfl (OpensF.one opens31 rfl))) (by kernel_rfl)) _ (fun x => ⟨x.1, x.2.1, x.2.2⟩) (fun _ => rfl)
set_option maxRecDepth 100000 in
theorem contract (H : Type) (enc : TypeId × Value → H) (W : World) (base : Nat) (args : Array Value) (ds gs : List (DataW H)) (before : List MemPlace)
    (hval : ∀ (j : Nat) t v, Tryd.f3.params[j]? = some t → args[j]? = some v → Value.okWide Tryd.prog W .any base t v)
    (hW : DataW.Whole enc Tryd.prog Tryd.f3.params.toList Rows.latestPutsSpec.vars false W args.toList ds gs before)
    (vt : List TypeId) (hwt : (DataW.weightsEach Tryd.prog (Tryd.f3.params.toList ++ vt) (ds ++ gs)).all (· ≤ reachBytes) = true) :
    Calls Tryd.prog 3 args W fun e W' => ∃ v, e = .returned v ∧ Rows.latestPutsSpec.post enc Tryd.prog Tryd.f3 false true false false W args v W' := by
  have hW' := hW
  obtain ⟨p, q, hA0, hV, rfl, hfz, hnd⟩ := hW
  have hA : DataW.TrodAll enc Tryd.prog W 0 (fun _ => true) true Tryd.f3.params.toList args.toList ds p := hA0
  rw [Tryd.params3] at hA hval hwt
  obtain ⟨v0, vs0, d0, ds0, p0, q0, hargs, rfl, rfl, h0, r0⟩ := trodAll_cons hA
  obtain ⟨v1, vs1, d1, ds1, p1, q1, rfl, rfl, rfl, h1, r1⟩ := trodAll_cons r0
  obtain ⟨rfl, rfl, rfl⟩ := trodAll_nil r1
  obtain rfl : args = #[v0, v1] := by cases args; simp_all
  obtain ⟨rfl, rfl⟩ := trodVars_none hV
  obtain ⟨l, A0, c0, rfl, hc0, hC, -, hl, hin⟩ := Opens.slicev opens33 Tryd.underlying22 (by kernel_rfl) (hval 0 _ v0 rfl rfl) h0 (weights_arg hwt (i := 0) rfl rfl)
  have hb64 : Tryd.prog.bytesOf 33 = 64 := by kernel_rfl
  rw [hb64] at hl
  have hcin : ∀ c ∈ l, Latest.Cin c := fun c hc => by
    obtain ⟨h1, h2, h3, h4, h5⟩ := hin c hc
    exact ⟨h1, h5, (bounds_i64 h4).1, (bounds_i64 h4).2⟩
  have hll : l.length ≤ 4611686018427387904 := by unfold reachBytes at hl; omega
  obtain ⟨name, rfl, hnm⟩ := Opens.strv Tryd.underlying9 (by kernel_rfl) (hval 1 _ v1 rfl rfl) h1 (weights_arg hwt (i := 1) rfl rfl)
  clear hA0
  refine (Latest.Puts_calls l name A0 c0 W hC hc0 hll hcin hnm).mono fun e W' ⟨he, hb⟩ => ?_
  subst he
  refine ⟨_, rfl, post_true laidOut ?_ rfl (by kernel_rfl) Tryd.underlying4 hW' rfl rfl rfl hb⟩
  rw [Tryd.params3]
  intro t ht
  simp only [List.mem_cons, List.mem_nil_iff, or_false] at ht
  rcases ht with rfl | rfl <;> exact ⟨by kernel_rfl, of_decide_eq_true (by kernel_rfl)⟩
def wargs : Array Value := #[.slice none 0 0, .string ⟨#[]⟩]
theorem reads (os : Os) {H : Type} (enc : TypeId × Value → H) : ∃ places, DataW.whole enc Tryd.prog ((laidWorld os).forCall (fun _ _ => 0) ⟨#[], wargs, []⟩).memory Tryd.f3.params.toList Rows.latestPutsSpec.vars false wargs.toList 8 = some ([.nil, .lit (.string [])], [], places) :=
  ⟨[], by kernel_rfl⟩
set_option maxRecDepth 100000 in
theorem lifted (os : Os) (started : os.Started) (H : Type) (enc : TypeId × Value → H) (F : Stop.Interp) :
    ReturnsInHanded {} Tryd.checked os 3 .any ((OpenSpec.ofChange Rows.latestPutsSpec).preRow enc Tryd.prog Tryd.f3 Rows.latestPutsRow.domain false Rows.latestPutsRow.laid) (((OpenSpec.ofChange Rows.latestPutsSpec).at F).post enc Tryd.prog Tryd.f3 false true false false) := by
  obtain ⟨places, hx⟩ := reads os enc
  refine returnsInHanded_of_row (C := Tryd.checked) (s := OpenSpec.ofChange Rows.latestPutsSpec) own started (by kernel_rfl) Tryd.func3
    (witness_row_atRef (enc := enc) (C := Tryd.checked) false (laidWorld os) wargs rfl (by kernel_rfl) (by kernel_rfl) (by kernel_rfl)
      (OpenSpec.preRow_of_cond 8 hx (by kernel_rfl) (fun k hk => by cases hk) (by kernel_rfl) (laid_met os wargs))) ?_
  intro W base args ds gs before hval hW _ hcond hwt hL _ _
  exact contract H enc W base args ds gs before hval hW _ hwt
theorem said : Rows.LatestPutsSaid :=
  OpenClaim.holds_of_cond 3 Tryd.f3 rfl rfl rfl rfl rfl rfl rfl ⟨rfl, rfl, rfl, rfl, rfl⟩ rfl rfl rfl rfl rfl (by kernel_rfl) Tryd.func3 (by kernel_rfl)
    (of_decide_eq_true (by kernel_rfl)) (by unfold Func.isWrapper; first | (rw [if_pos (by decide +kernel)]; kernel_rfl) | (rw [if_neg (by decide +kernel)]; exact ⟨rfl, rfl⟩))
    (fun os started H enc _ F => by rw [OpenClaim.pre_eq_preRow]; exact lifted os started H enc F)
theorem plain (f : FuncId) (fn : Func) (hf : Tryd.pinned.checked.prog.funcNamed "hedgerow/hedgerowlaw36.LatestPuts" = some f) (hfn : Tryd.pinned.checked.prog.funcs[f]? = some fn) :
    false = Tryd.pinned.checked.prog.looks [] ∧ ∀ (j : Nat) t, fn.params[j]? = some t → Tryd.pinned.checked.prog.wantsStandIn t = false := by
  obtain rfl : f = 3 := Option.some.inj ((show Tryd.prog.funcNamed "hedgerow/hedgerowlaw36.LatestPuts" = some 3 by kernel_rfl).symm.trans hf) |>.symm
  obtain rfl : fn = Tryd.f3 := (Option.some.inj (Tryd.func3.symm.trans hfn)).symm
  refine ⟨by kernel_rfl, fun j t ht => ?_⟩
  have hm := Array.mem_of_getElem? ht
  rw [show Tryd.f3.params = #[22, 9] from by kernel_rfl] at hm
  simp at hm
  rcases hm with rfl | rfl
  · exact (show Tryd.prog.wantsStandIn 22 = false by kernel_rfl)
  · exact (show Tryd.prog.wantsStandIn 9 = false by kernel_rfl)
theorem card : Rows.LatestPutsCardSaid :=
  Claim7.holds_tied_plain_at .later [] _ _ _ _ said (fun _ h => by cases h) (by kernel_rfl) (fun _ h => by cases h) latestPuts_row_tie rfl ⟨rfl, rfl⟩ (by kernel_rfl) rfl plain (by kernel_rfl)
#print axioms card
end Go.Proofs.YtjacpmmlkgcjjaaDoor.LPuts
