/-
How a row is shut behind a call that leaves all that was there as it was.
-/
import Derived.WalkKit
import Derived.ProofKit
import Derived.OpenShut
import Derived.Test.YtkhjmjimffmokaaGreatWj
import Derived.Test.YtkhjmjimffmokaaGreatWk

set_option linter.unusedVariables false
namespace Go.Proofs.YtkhjmjimffmokaaGreat
open Go.ChangeShapes Go.WideShapes Go.ChangeAt Go.RowKit Go.Wm

section
variable {H : Type} {enc : TypeId × Value → H} {P : Program}

theorem post_of_below {f : Func} {s : ChangeSpec} {apart fresh handsOn again : Bool} {W W' : World} {args : Array Value} {v : Value} {ds gs : List (DataW H)} {before pa pv : List MemPlace}
    (hW : DataW.Whole enc P f.params.toList s.vars apart W args.toList ds gs before) (hb : Below W.heap.size W W')
    (hres : ∀ (b : Nat) (sp : Nat → Bool) (hd : Bool), DataW.TrodAll enc P W' b sp hd f.resultTypes.toList (v.resultList f.resultTypes.size) (s.fn H (ds ++ gs)).results [])
    (hargs : ∀ sp : Nat → Bool, (∀ p ∈ before, sp p.block = true) → DataW.TrodAll enc P W' 0 sp true f.params.toList args.toList (s.fn H (ds ++ gs)).args pa)
    (hvars : ∀ sp : Nat → Bool, (∀ p ∈ before, sp p.block = true) → DataW.TrodVars enc P W' sp s.vars (s.fn H (ds ++ gs)).vars pv)
    (hps : before = pa ++ pv)
    (hok : ∀ (j : Nat) (t : TypeId) (r : Value), f.resultTypes[j]? = some t → (v.resultList f.resultTypes.size)[j]? = some r → Value.okWide P W' .any 0 t r) :
    s.post enc P f apart fresh handsOn again W args v W' := by
  have hold : ∀ p ∈ before, (fun b => decide (b < W.heap.size)) p.block = true := fun p hp => by simpa using hW.lt p hp
  refine ⟨ds, gs, before, [], pa, pv, hW, hres _ _ _, hargs _ hold, hvars _ hold, World.keptBut_mono (fun p hp => ⟨hp, ?_⟩) (hb.frame (· ∈ before)), fun _ => ?_⟩
  · rw [hps, List.mem_append] at hp
    exact Or.inr hp
  · have hlt := hW.lt
    obtain ⟨_, _, _, _, _, hz, hn⟩ := hW
    refine ⟨hok, _, _, ([] ++ pa) ++ pv, ⟨[] ++ pa, pv, trodAll_append (hargs _ (fun _ _ => rfl)) (hres _ _ _), hvars _ (fun _ _ => rfl), rfl, ?_, ?_⟩, ?_⟩
    · intro b off hp
      have hp' := hp
      rw [List.nil_append, ← hps] at hp'
      rw [hb.frozen (hlt _ hp')]
      exact hz b off hp'
    · intro ha
      have := hn ha
      rw [hps] at this
      simpa using this
    · intro p hp _
      rw [hps]
      simpa using hp
end

theorem call_fn {lf : Nat} {IP : Nat → Option IFn} {ext : Nat → Option (List AV → Option AV)} {d f : Nat} {pv : Option AV} {args : List AV} {S : Sto} {r : Out × Bool × Sto} (h : call lf IP ext (d + 1) pv (.fn f [] []) args S = some r) (hx : ext f = none) :
    callFn lf ⟨call lf IP ext d, ext⟩ IP pv f args S = some r := by
  unfold call at h
  simp only [hx, Option.isSome_none, Bool.false_eq_true, if_false, List.nil_append, List.append_nil] at h
  exact h

/-- the program's calls are as the evaluator has them -/
theorem cd_ok (d : Nat) : CallOK (progA Tryz.prog) Tryz.prog (call lf0 IPt extF d) := call_ok ip_ok ext_ok lf0 d

/-- a function that the evaluator shows to return true -/
theorem true_calls {d f : Nat} {args : List AV} {S' : Sto} {fn : IFn} (hfn : IPt f = some fn) (hsp : specC fn.body = false) (hx : extF f = none)
    (h : call lf0 IPt extF (d + 1) none (.fn f [] []) args [] = some (.ret (.bool true), false, S')) {w : World} {us : List Value} {H : Nat → Option (Array Value)} (hH : ∀ cb a, H cb = some a → ∃ t fz, w.heap[cb]? = some (.cells a t fz)) (ha : VT (lentSg H) [] 0 args us) :
    Calls Tryz.prog f us.toArray w fun e w' => e = .returned (.bool true) ∧ Below w.heap.size w w' := by
  refine (calls_of (cx := ⟨call lf0 IPt extF d, extF⟩) (cd_ok d) ext_ok ip_ok hfn hsp (call_fn h hx) hH ha).mono ?_
  rintro e w' ⟨cv, g', rfl, hv, hb⟩
  simp only [V] at hv
  subst hv
  exact ⟨rfl, hb⟩

end Go.Proofs.YtkhjmjimffmokaaGreat
