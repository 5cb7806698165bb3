/- What an argument's reading as data gives of its cells, type by type, in the words of the print (Kd). -/
import Derived.Test.YthmnohecmmknpaaDoorWMore
import Derived.OpenShut
import Derived.Deep.Slices
import Derived.ChangeArms
namespace Go.Proofs.YthmnohecmmknpaaDoor.Given
open Go.RowKit Go.ChangeShapes Go.Deep Go.Proofs.YthmnohecmmknpaaDoorW.PrintWords
set_option linter.unusedVariables false
set_option linter.unusedSimpArgs false
structure Opens {α : Type} (P : Program) (t : TypeId) (d : Kd α) (φ : α → Prop) : Prop where
  sz : P.cellsOf t = d.sz
  op : ∀ {H : Type} {enc : TypeId × Value → H} {w : World} {base : Nat} {sp : Nat → Bool} {held : Bool} {fuel : Nat} {cs : List Value} {x : DataW H × List MemPlace},
    DataW.trod enc P w base sp held fuel t cs = some x → (∀ n ∈ x.1.weights P t, n ≤ reachBytes) → ∃ a, d.K w a cs ∧ φ a
structure OpensF {α : Type} (P : Program) (fs : List Field) (off : Nat) (d : Kd α) (φ : α → Prop) : Prop where
  op : ∀ {H : Type} {enc : TypeId × Value → H} {w : World} {base : Nat} {sp : Nat → Bool} {held : Bool} {fuel : Nat} {cs : List Value},
    (∀ f ∈ fs, ∃ x, DataW.trod enc P w base sp held fuel f.type ((cs.drop f.offset).take (P.cellsOf f.type)) = some x ∧ ∀ n ∈ x.1.weights P f.type, n ≤ reachBytes) → ∃ a, d.K w a ((cs.drop off).take d.sz) ∧ φ a
section
variable {H : Type} {P : Program}
theorem weights_each {n : Nat} {t : TypeId} {d : DataW H} : ∀ {ts : List TypeId} {ds : List (DataW H)} {i : Nat}, ts[i]? = some t → ds[i]? = some d → n ∈ d.weights P t → n ∈ DataW.weightsEach P ts ds
  | [], _, _, h, _, _ => by simp at h
  | _ :: _, [], _, _, h, _ => by simp at h
  | t' :: ts, d' :: ds, 0, h1, h2, h3 => by
    simp at h1 h2
    subst h1 h2
    rw [DataW.weightsEach]
    exact List.mem_append_left _ h3
  | t' :: ts, d' :: ds, i + 1, h1, h2, h3 => by
    rw [DataW.weightsEach]
    exact List.mem_append_right _ (weights_each (i := i) (by simpa using h1) (by simpa using h2) h3)
theorem weights_all {n : Nat} {e : TypeId} {d : DataW H} : ∀ {ds : List (DataW H)}, d ∈ ds → n ∈ d.weights P e → n ∈ DataW.weightsAll P e ds
  | [], h, _ => by cases h
  | d' :: ds, h, hn => by
    rw [DataW.weightsAll]
    rcases List.mem_cons.1 h with rfl | h
    · exact List.mem_append_left _ hn
    · exact List.mem_append_right _ (weights_all h hn)
theorem weights_slice {t e : TypeId} (ht : P.underlying t = some (.slice e)) (a b : List (DataW H)) : (DataW.slice a b).weights P t = (a.length + b.length) * P.bytesOf e :: (DataW.weightsAll P e a ++ DataW.weightsAll P e b) := by
  rw [DataW.weights, ht]
theorem weights_struct {t : TypeId} {fs : Array Field} (ht : P.underlying t = some (.struct fs)) (a : List (DataW H)) : (DataW.agg a).weights P t = DataW.weightsEach P (fs.toList.map (·.type)) a := by
  rw [DataW.weights, ht]
end
section
variable {P : Program} {t e : TypeId} {α β : Type} {d : Kd α} {φ : α → Prop}
theorem Opens.int {k : IntKind} (ht : P.underlying t = some (.int k)) (hc : P.cellsOf t = 1) : Opens P t (Kd.int k) (fun n => (Lit.int k n).wf = true) :=
  ⟨hc, by
    intro H enc w base sp held fuel cs x h hwt
    cases fuel with
    | zero => simp [DataW.trod] at h
    | succ n =>
      unfold DataW.trod at h
      rw [ht] at h
      split at h <;> simp_all
      rename_i k' m _
      obtain ⟨⟨rfl, hw⟩, _⟩ := h
      exact ⟨m, rfl, hw⟩⟩
theorem Opens.bool (ht : P.underlying t = some .bool) (hc : P.cellsOf t = 1) : Opens P t Kd.bool (fun _ => True) :=
  ⟨hc, by
    intro H enc w base sp held fuel cs x h hwt
    cases fuel with
    | zero => simp [DataW.trod] at h
    | succ n =>
      unfold DataW.trod at h
      rw [ht] at h
      split at h <;> simp_all
      rename Bool => b
      cases b
      · exact .inl rfl
      · exact .inr rfl⟩
theorem Opens.string (ht : P.underlying t = some .string) (hc : P.cellsOf t = 1) : Opens P t Kd.string (fun s => s.size ≤ reachBytes) :=
  ⟨hc, by
    intro H enc w base sp held fuel cs x h hwt
    cases fuel with
    | zero => simp [DataW.trod] at h
    | succ n =>
      unfold DataW.trod at h
      rw [ht] at h
      split at h <;> simp_all
      rename_i s
      obtain ⟨_, rfl⟩ := h
      exact ⟨s, rfl, by simpa [DataW.weights] using hwt⟩⟩
theorem OpensF.one {f : Field} {off : Nat} (h : Opens P f.type d φ) (ho : f.offset = off) : OpensF P [f] off d φ :=
  ⟨fun hx => by
    obtain ⟨x, h1, hw⟩ := hx f (by simp)
    rw [ho, h.sz] at h1
    exact h.op h1 hw⟩
theorem OpensF.cons {f : Field} {fs : List Field} {off : Nat} {b : Kd β} {ψ : β → Prop} (h : Opens P f.type d φ) (ho : f.offset = off) (hs : OpensF P fs (off + d.sz) b ψ) : OpensF P (f :: fs) off (Kd.pair d b) (fun x => φ x.1 ∧ ψ x.2) :=
  ⟨fun {H enc w base sp held fuel cs} hx => by
    obtain ⟨x, h1, hw⟩ := hx f (by simp)
    rw [ho, h.sz] at h1
    obtain ⟨a, ha, hφ⟩ := h.op h1 hw
    obtain ⟨c, hc, hψ⟩ := hs.op (fun f' hf' => hx f' (List.mem_cons_of_mem _ hf'))
    refine ⟨(a, c), ⟨_, _, ?_, ha, hc⟩, hφ, hψ⟩
    show (cs.drop off).take (d.sz + b.sz) = _
    rw [List.take_add, List.drop_drop]⟩
theorem Opens.struct {fs : Array Field} (ht : P.underlying t = some (.struct fs)) (hf : OpensF P fs.toList 0 d φ) (hc : P.cellsOf t = d.sz) : Opens P t d φ :=
  ⟨hc, fun {H enc w base sp held fuel cs x} hx hwt => by
    obtain ⟨xs, n, rfl, rfl, hl, hn, hi⟩ := DataW.trod_struct ht hx
    rw [weights_struct ht] at hwt
    obtain ⟨a, ha, hφ⟩ := hf.op (fun f hf' => by
      obtain ⟨i, hi1, hi2⟩ := List.mem_iff_getElem.1 hf'
      have h2 := hi i f (by simpa [Array.getElem?_eq_getElem (show i < fs.size by simpa using hi1)] using hi2)
      have hlt : i < xs.length := by rw [hn]; simpa using hi1
      rw [List.getElem?_eq_getElem hlt] at h2
      refine ⟨_, h2, fun m hm => hwt m (weights_each (i := i) ?_ ?_ hm)⟩
      · rw [List.getElem?_map, List.getElem?_eq_getElem hi1, hi2]; rfl
      · rw [List.getElem?_map, List.getElem?_eq_getElem hlt]; rfl)
    rw [List.drop_zero, ← hc, ← hl, List.take_length] at ha
    exact ⟨a, ha, hφ⟩⟩
theorem cells_K {w : World} {base : Nat} {ad : Addr} {n : Nat} {cs : List Value} (h : w.cells? base ad n = some cs) : ∀ i u, cs[i]? = some u → w.cell? (ad.add i) = some u := by
  intro i u hu
  obtain ⟨_, hl, hi⟩ := World.cells?_some h
  have hlt := (List.getElem?_eq_some_iff.1 hu).1
  rw [hi i (by omega), hu]
theorem Opens.slice [Inhabited α] (h : Opens P e d φ) (ht : P.underlying t = some (.slice e)) (hc : P.cellsOf t = 1) : Opens P t (Kd.slice e d) (fun xs => xs.length ≤ maxLen ∧ xs.length * P.bytesOf e ≤ reachBytes ∧ ∀ x ∈ xs, φ x) :=
  ⟨hc, fun {H enc w base sp held fuel cs x} hx hwt => by
    rcases open_slice ht hx with ⟨rfl, _⟩ | ⟨a, len, cap, m, n, D, Pl, rfl, hb, hl, hm, hmm, hxe, hi⟩
    · exact ⟨[], ⟨none, 0, rfl, Nat.le_refl _, rfl, by simp, fun hp => absurd hp (by simp)⟩, by simp, by simp, by simp⟩
    · have hlm : len ≤ m := by rw [hmm]; split <;> omega
      rw [hxe, weights_slice ht] at hwt
      have hw0 := hwt _ List.mem_cons_self
      simp only [List.length_map, List.length_range] at hw0
      have hw1 : len * P.bytesOf e ≤ reachBytes := Nat.le_trans (Nat.mul_le_mul_right _ (by omega)) hw0
      obtain ⟨V, hV⟩ := choose_lt (α := α) (p := fun i v => ∃ cs', w.cells? base (a.add (i * P.cellsOf e)) (P.cellsOf e) = some cs' ∧ d.K w v cs' ∧ φ v) (n := len) (fun i hil => by
        obtain ⟨cs', h1, h2⟩ := hi i (by omega)
        obtain ⟨v, h3, h4⟩ := h.op h2 (fun k hk => hwt k (List.mem_cons_of_mem _ (List.mem_append_left _ (weights_all (List.mem_map.2 ⟨i, by simpa using hil, rfl⟩) hk))))
        exact ⟨v, cs', h1, h3, h4⟩)
      have hml : maxLen ≤ 9223372036854775807 := by decide
      refine ⟨(List.range len).map V, ⟨some a, cap, by simp, by simpa using hl, by simp, by simp; omega, fun _ => ⟨a, rfl, fun j p hj => ?_⟩⟩, by simp; omega, by simpa using hw1, ?_⟩
      · have hjl : j < len := by simpa using (List.getElem?_eq_some_iff.1 hj).1
        obtain ⟨cs', h1, h3, h4⟩ := hV j hjl
        have hp : p = V j := by simpa [hjl] using hj.symm
        subst hp
        refine ⟨cs', d.K_len h3, h3, fun i u hu => ?_⟩
        have h5 := cells_K h1 i u hu
        rw [h.sz] at h5
        rw [← h5, Addr.add_add]
      · intro x hx
        obtain ⟨j, hj, rfl⟩ := List.mem_map.1 hx
        obtain ⟨_, _, _, h4⟩ := hV j (by simpa using hj)
        exact h4⟩
end
section
variable {H : Type} {enc : TypeId × Value → H} {P : Program} {t e : TypeId} {α : Type} {d : Kd α} {φ : α → Prop} {w : World} {r : Reach} {b0 base : Nat} {sp : Nat → Bool} {held : Bool} {v : Value} {D : DataW H} {ps : List MemPlace}
theorem Opens.agg {fs : Array Field} (h : Opens P t d φ) (ht : P.underlying t = some (.struct fs)) (hval : Value.okWide P w r b0 t v) (hd : DataW.Trod enc P w base sp held t v D ps) (hwt : ∀ n ∈ D.weights P t, n ≤ reachBytes) : ∃ a cs, v = .agg cs ∧ d.K w a cs.toList ∧ φ a := by
  unfold Value.okWide at hval
  rw [ht] at hval
  obtain ⟨cs, rfl, _, _⟩ := hval
  obtain ⟨fuel, hf⟩ := hd
  obtain ⟨a, h1, h2⟩ := h.op hf hwt
  exact ⟨a, cs, rfl, h1, h2⟩
theorem one_val (h : Opens P t d φ) (hn : v.cells.toList = [v]) (hd : DataW.Trod enc P w base sp held t v D ps) (hwt : ∀ n ∈ D.weights P t, n ≤ reachBytes) : ∃ a, d.K w a [v] ∧ φ a := by
  obtain ⟨fuel, hf⟩ := hd
  rw [hn] at hf
  exact h.op hf hwt
theorem Opens.slicev [Inhabited α] (h : Opens P e d φ) (ht : P.underlying t = some (.slice e)) (hc : P.cellsOf t = 1) (hval : Value.okWide P w r b0 t v) (hd : DataW.Trod enc P w base sp held t v D ps) (hwt : ∀ n ∈ D.weights P t, n ≤ reachBytes) :
    ∃ xs A c, v = .slice A xs.length c ∧ xs.length ≤ c ∧ d.C w A xs.length xs ∧ xs.length ≤ maxLen ∧ xs.length * P.bytesOf e ≤ reachBytes ∧ ∀ x ∈ xs, φ x := by
  have hn : v.cells.toList = [v] := by cases v <;> simp [Value.okWide, ht, Cell.okWide, Cell.ok] at hval <;> rfl
  obtain ⟨a, ⟨A, c, h1, h2, h3⟩, h4, h5⟩ := one_val (Opens.slice h ht hc) hn hd hwt
  exact ⟨a, A, c, by simpa using h1, h2, h3, h4, h5⟩
end
section
variable {H : Type} {enc : TypeId × Value → H} {P : Program}
theorem weights_arg {ts : List TypeId} {ds : List (DataW H)} (h : (DataW.weightsEach P ts ds).all (· ≤ reachBytes) = true) {i : Nat} {t : TypeId} {d : DataW H} (h1 : ts[i]? = some t) (h2 : ds[i]? = some d) : ∀ n ∈ d.weights P t, n ≤ reachBytes := fun n hn => by
  have := List.all_eq_true.1 h n (weights_each h1 h2 hn)
  simpa using this
theorem trodAll_below {W W' : World} (hl : laidOutB P = true) (hb : Below W.heap.size W W') : ∀ {ts : List TypeId} {vs : List Value} {ds : List (DataW H)} {ps : List MemPlace},
    (∀ t ∈ ts, P.readableRec t = true ∧ t < P.types.size) → DataW.TrodAll enc P W 0 (fun _ => true) true ts vs ds ps → (∀ x ∈ ps, x.block < W.heap.size) →
    ∀ sp : Nat → Bool, (∀ p ∈ ps, sp p.block = true) → DataW.TrodAll enc P W' 0 sp true ts vs ds ps
  | [], _, _, _, _, h, _, sp, _ => by
    obtain ⟨rfl, rfl, rfl⟩ := trodAll_nil h
    exact trodAll_mk0
  | t :: ts, _, _, _, hr, h, hp, sp, hsp => by
    obtain ⟨v, vs1, d, ds1, a, b, rfl, rfl, rfl, h1, h2⟩ := trodAll_cons h
    refine ⟨a, b, WideElems.Trod_stays hl (hr t (by simp)).1 (hr t (by simp)).2 h1 (fun x hx => hb.same (hp x (List.mem_append_left _ hx))) (fun x hx => hsp x (List.mem_append_left _ hx)), ?_, rfl⟩
    exact trodAll_below hl hb (fun t' ht' => hr t' (List.mem_cons_of_mem _ ht')) h2 (fun x hx => hp x (List.mem_append_right _ hx)) sp (fun x hx => hsp x (List.mem_append_right _ hx))
theorem post_true {f : Func} {s : ChangeSpec} {W W' : World} {args : Array Value} {ds gs : List (DataW H)} {before : List MemPlace} {tb : TypeId}
    (hl : laidOutB P = true) (hr : ∀ t ∈ f.params.toList, P.readableRec t = true ∧ t < P.types.size) (hvars : s.vars = []) (hrt : f.resultTypes = #[tb]) (htb : P.underlying tb = some .bool)
    (hW : DataW.Whole enc P f.params.toList s.vars false W args.toList ds gs before) (hres : (s.fn H (ds ++ gs)).results = [.lit (.bool true)]) (hargs : (s.fn H (ds ++ gs)).args = ds) (hvs : (s.fn H (ds ++ gs)).vars = [])
    (hb : Below W.heap.size W W') : s.post enc P f false true false false W args (.bool true) W' := by
  have hW' := hW
  obtain ⟨p, q, hA0, hV, rfl, hfz, hnd⟩ := hW
  have hlt := hW'.lt
  have hV0 := hV
  rw [hvars] at hV0
  obtain ⟨rfl, rfl⟩ := trodVars_none hV0
  have hpl : ∀ x ∈ p, x.block < W.heap.size := fun x hx => by simpa using hlt x (by simpa using hx)
  have ha : ∀ sp : Nat → Bool, (∀ x ∈ p, sp x.block = true) → DataW.TrodAll enc P W' 0 sp true f.params.toList args.toList (s.fn H (ds ++ [])).args p := fun sp hsp => by
    rw [hargs]
    exact trodAll_below hl hb hr hA0 hpl sp hsp
  have hv0 : ∀ sp : Nat → Bool, DataW.TrodVars enc P W' sp s.vars (s.fn H (ds ++ [])).vars [] := fun sp => by
    rw [hvs, hvars]
    rfl
  have hrs : ∀ (b : Nat) (sp : Nat → Bool) (hd : Bool), DataW.TrodAll enc P W' b sp hd f.resultTypes.toList ((Value.bool true).resultList f.resultTypes.size) (s.fn H (ds ++ [])).results [] := fun b sp hd => by
    rw [hres, hrt]
    exact trodAll_cons_mk (shut_bool htb _) trodAll_mk0
  refine ⟨ds, [], p ++ [], [], p, [], hW', hrs _ _ _, ha _ (fun x hx => by simpa using hpl x hx), hv0 _, hb.frame _, fun _ => ?_⟩
  refine ⟨ok_one hrt rfl (okWide_bool_mk htb _), _, _, ([] ++ p) ++ [], ⟨[] ++ p, [], trodAll_append (ha _ (fun _ _ => rfl)) (hrs _ _ _), hv0 _, rfl, ?_, ?_⟩, ?_⟩
  · intro b off hx
    have hx' : MemPlace.cell b off ∈ p := by simpa using hx
    rw [Below.frozen hb (show (⟨b, off, none⟩ : Addr).block < W.heap.size from hpl _ hx')]
    exact hfz b off (by simpa using hx')
  · intro ha'
    simpa using hnd ha'
  · intro x hx _
    simpa using hx
end
end Go.Proofs.YthmnohecmmknpaaDoor.Given
