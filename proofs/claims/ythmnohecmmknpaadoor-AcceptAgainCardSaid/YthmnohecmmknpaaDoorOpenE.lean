/- Vectors and events as arguments: what their reading as data gives. -/
import Derived.Test.YthmnohecmmknpaaDoorOpen
import Derived.Test.YthmnohecmmknpaaDoorEvG
namespace Go.Proofs.YthmnohecmmknpaaDoor.Given
open Go.RowKit Go.ChangeShapes Go.Deep Go.Proofs.YthmnohecmmknpaaDoorW.PrintWords Go.Proofs.YthmnohecmmknpaaDoor.Vec
set_option linter.unusedVariables false
set_option linter.unusedSimpArgs false
set_option maxRecDepth 100000
theorem Opens.conv {α β : Type} {P : Program} {t : TypeId} {d : Kd α} {d' : Kd β} {φ : α → Prop} {ψ : β → Prop} (h : Opens P t d φ) (hs : d'.sz = d.sz) (f : ∀ {w : World} {a : α} {cs : List Value}, d.K w a cs → φ a → ∃ b, d'.K w b cs ∧ ψ b) : Opens P t d' ψ :=
  ⟨h.sz.trans hs.symm, fun hx hw => by
    obtain ⟨a, h1, h2⟩ := h.op hx hw
    exact f h1 h2⟩
theorem int_of_trod {H : Type} {enc : TypeId × Value → H} {P : Program} {w : World} {base : Nat} {sp : Nat → Bool} {held : Bool} {fuel : Nat} {e : TypeId} {k : IntKind} {cs : List Value} {x : DataW H × List MemPlace} (ht : P.underlying e = some (.int k))
    (h : DataW.trod enc P w base sp held fuel e cs = some x) : ∃ n, cs = [.int k n] ∧ (Lit.int k n).wf = true := by
  cases fuel with
  | zero => simp [DataW.trod] at h
  | succ n =>
    unfold DataW.trod at h
    rw [ht] at h
    split at h <;> simp_all
def kVc : Kd Vc := Kd.plain 16 vcells vcells_len vcells_one
theorem ints_of : ∀ (cs : List Value), (∀ i, i < cs.length → ∃ n, (cs.drop i).take 1 = [Value.int .i64 n] ∧ (Lit.int .i64 n).wf = true) → ∃ l : List Int, cs = l.map (Value.int .i64) ∧ ∀ n ∈ l, (Lit.int .i64 n).wf = true
  | [], _ => ⟨[], rfl, by simp⟩
  | c :: cs, h => by
    obtain ⟨n, h1, h2⟩ := h 0 (by simp)
    obtain ⟨l, h3, h4⟩ := ints_of cs (fun i hi => h (i + 1) (by simp; omega))
    have h1' : c = .int .i64 n := by simpa using h1
    refine ⟨n :: l, by rw [h1', h3]; rfl, fun m hm => ?_⟩
    rcases List.mem_cons.1 hm with rfl | hm
    · exact h2
    · exact h4 m hm
theorem opensV : Opens Tryd.prog 26 kVc (fun v => ∀ n ∈ v.l, (Lit.int .i64 n).wf = true) :=
  ⟨by kernel_rfl, by
    intro H enc w base sp held fuel cs x h hwt
    obtain ⟨xs, m, rfl, rfl, hl, hx, hi⟩ := DataW.trod_array Tryd.underlying26 h
    have hc1 : Tryd.prog.cellsOf 3 = 1 := by kernel_rfl
    have hc16 : Tryd.prog.cellsOf 26 = 16 := by kernel_rfl
    rw [hc16] at hl
    obtain ⟨l, h1, h2⟩ := ints_of cs (fun i hil => by
      have h3 := hi i (by omega)
      rw [hc1, Nat.mul_one, List.getElem?_eq_getElem (by omega)] at h3
      exact int_of_trod Tryd.underlying3 h3)
    exact ⟨⟨l, by have := congrArg List.length h1; simpa [hl] using this.symm⟩, h1, h2⟩⟩
abbrev K5 := Kd.pair (Kd.int .i64) (Kd.pair Kd.string (Kd.pair Kd.string (Kd.pair Kd.string Kd.string)))
theorem opensD : Opens Tryd.prog 30 (Kd.pair (Kd.int .i64) (Kd.int .i64)) (fun x => (Lit.int .i64 x.1).wf = true ∧ (Lit.int .i64 x.2).wf = true) :=
  Opens.struct Tryd.underlying30 (OpensF.cons (Opens.int Tryd.underlying3 (by kernel_rfl)) rfl (OpensF.one (Opens.int Tryd.underlying3 (by kernel_rfl)) rfl)) (by kernel_rfl)
theorem opensN : Opens Tryd.prog 32 K5 (fun x => (Lit.int .i64 x.1).wf = true ∧ x.2.1.size ≤ reachBytes ∧ x.2.2.1.size ≤ reachBytes ∧ x.2.2.2.1.size ≤ reachBytes ∧ x.2.2.2.2.size ≤ reachBytes) :=
  Opens.struct Tryd.underlying32 (OpensF.cons (Opens.int Tryd.underlying3 (by kernel_rfl)) rfl (OpensF.cons (Opens.string Tryd.underlying9 (by kernel_rfl)) rfl (OpensF.cons (Opens.string Tryd.underlying9 (by kernel_rfl)) rfl (OpensF.cons (Opens.string Tryd.underlying9 (by kernel_rfl)) rfl (OpensF.one (Opens.string Tryd.underlying9 (by kernel_rfl)) rfl))))) (by kernel_rfl)
theorem opensX : Opens Tryd.prog 34 (Kd.pair (Kd.int .i64) (Kd.pair (Kd.int .i64) Kd.string)) (fun x => (Lit.int .i64 x.1).wf = true ∧ (Lit.int .i64 x.2.1).wf = true ∧ x.2.2.size ≤ reachBytes) :=
  Opens.struct Tryd.underlying34 (OpensF.cons (Opens.int Tryd.underlying3 (by kernel_rfl)) rfl (OpensF.cons (Opens.int Tryd.underlying3 (by kernel_rfl)) rfl (OpensF.one (Opens.string Tryd.underlying9 (by kernel_rfl)) rfl))) (by kernel_rfl)
theorem wf_bounds {n : Int} (h : (Lit.int .i64 n).wf = true) : -9223372036854775808 ≤ n ∧ n ≤ 9223372036854775807 := by
  simp only [Lit.wf, Bool.and_eq_true, decide_eq_true_eq] at h
  have h1 : IntKind.i64.min = -9223372036854775808 := rfl
  have h2 : IntKind.i64.max = 9223372036854775807 := rfl
  omega
theorem opensE : Opens Tryd.prog 36 kEv EvIn :=
  Opens.conv (Opens.struct Tryd.underlying36 (OpensF.cons opensD rfl (OpensF.cons opensV rfl (OpensF.cons (Opens.int (k := .i64) Tryd.underlying3 (by kernel_rfl)) rfl (OpensF.cons opensN rfl (OpensF.one opensX rfl))))) (by kernel_rfl)) rfl (by
    rintro w ⟨⟨rep, cnt⟩, past, op, ⟨kind, a, b, c, d⟩, ⟨vk, vn, vt⟩⟩ cs ⟨c0, c1, rfl, ⟨d0, d1, rfl, h0, h1⟩, ⟨c2, c3, rfl, h2, ⟨c4, c5, rfl, h4, ⟨c6, c7, rfl, ⟨e0, e1, rfl, f0, ⟨e2, e3, rfl, f2, ⟨e4, e5, rfl, f4, ⟨e6, e7, rfl, f6, f7⟩⟩⟩⟩, ⟨g0, g1, rfl, i0, ⟨g2, g3, rfl, i2, i3⟩⟩⟩⟩⟩⟩ ⟨⟨p0, p1⟩, p2, p3, ⟨p4, p5, p6, p7, p8⟩, ⟨p9, pa, pb⟩⟩
    have h0 : d0 = [.int .i64 rep] := h0
    have h1 : d1 = [.int .i64 cnt] := h1
    have h2 : c2 = vcells past := h2
    have h4 : c4 = [.int .i64 op] := h4
    have f0 : e0 = [.int .i64 kind] := f0
    have f2 : e2 = [.string a] := f2
    have f4 : e4 = [.string b] := f4
    have f6 : e6 = [.string c] := f6
    have f7 : e7 = [.string d] := f7
    have i0 : g0 = [.int .i64 vk] := i0
    have i2 : g2 = [.int .i64 vn] := i2
    have i3 : g3 = [.string vt] := i3
    subst h0 h1 h2 h4 f0 f2 f4 f6 f7 i0 i2 i3
    have hb : reachBytes ≤ 140737488351232 := by decide
    refine ⟨⟨rep, cnt, past, op, kind, a, b, c, d, vk, vn, vt⟩, ?_, ?_⟩
    · show _ = ecells _
      simp [ecells, etail]
    · exact ⟨Nat.le_trans p5 hb, Nat.le_trans p6 hb, Nat.le_trans p7 hb, Nat.le_trans p8 hb, Nat.le_trans pb hb, (wf_bounds pa).1, (wf_bounds pa).2, (wf_bounds p1).1, (wf_bounds p1).2⟩)
instance : Inhabited Ev := ⟨evz⟩
section
variable {H : Type} {enc : TypeId × Value → H} {w : World} {r : Reach} {b0 base : Nat} {sp : Nat → Bool} {held : Bool} {v : Value} {D : DataW H} {ps : List MemPlace}
theorem Opens.vecv (hval : Value.okWide Tryd.prog w r b0 26 v) (hd : DataW.Trod enc Tryd.prog w base sp held 26 v D ps) (hwt : ∀ n ∈ D.weights Tryd.prog 26, n ≤ reachBytes) : ∃ a : Vc, v = vval a := by
  unfold Value.okWide at hval
  rw [Tryd.underlying26] at hval
  obtain ⟨cs, rfl, _, _⟩ := hval
  obtain ⟨fuel, hf⟩ := hd
  obtain ⟨a, h1, _⟩ := opensV.op hf hwt
  have h1 : cs.toList = vcells a := h1
  exact ⟨a, by rw [vval, ← h1]⟩
end
end Go.Proofs.YthmnohecmmknpaaDoor.Given
