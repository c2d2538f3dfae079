/-
Great evaluations in pieces: a table of calls that are known.
-/
import Derived.KernelRfl
import Derived.Test.YtkhjmjimffmokaaGreatWf
import Derived.Test.YtkhjmjimffmokaaGreatWh

set_option linter.unusedVariables false
set_option linter.unusedSimpArgs false
namespace Go.Wm

mutual
def beqA : AV → AV → Bool
  | .int k n, y => match y with | .int k' n' => decide (k = k') && decide (n = n') | _ => false
  | .bool b, y => match y with | .bool b' => decide (b = b') | _ => false
  | .str s, y => match y with | .str s' => decide (s = s') | _ => false
  | .any, y => match y with | .any => true | _ => false
  | .flt, y => match y with | .flt => true | _ => false
  | .cpx, y => match y with | .cpx => true | _ => false
  | .nilp, y => match y with | .nilp => true | _ => false
  | .nilf, y => match y with | .nilf => true | _ => false
  | .nili, y => match y with | .nili => true | _ => false
  | .nilm, y => match y with | .nilm => true | _ => false
  | .nils t e, y => match y with | .nils t' e' => decide (t = t') && decide (e = e') | _ => false
  | .zs t e, y => match y with | .zs t' e' => decide (t = t') && decide (e = e') | _ => false
  | .agg cs, y => match y with | .agg ds => beqL cs ds | _ => false
  | .tup cs, y => match y with | .tup ds => beqL cs ds | _ => false
  | .ifc t x, y => match y with | .ifc t' x' => decide (t = t') && beqA x x' | _ => false
  | .imm e rows, y => match y with | .imm e' rows' => decide (e = e') && beqR rows rows' | _ => false
  | .own e b v lo n f, y => match y with | .own e' b' v' lo' n' f' => decide (e = e') && decide (b = b') && decide (v = v') && decide (lo = lo') && decide (n = n') && decide (f = f') | _ => false
  | .vsl b v o e n, y => match y with | .vsl b' v' o' e' n' => decide (b = b') && decide (v = v') && decide (o = o') && decide (e = e') && decide (n = n') | _ => false
  | .ptr b v o, y => match y with | .ptr b' v' o' => decide (b = b') && decide (v = v') && decide (o = o') | _ => false
  | .eptr b v i k, y => match y with | .eptr b' v' i' k' => decide (b = b') && decide (v = v') && decide (i = i') && decide (k = k') | _ => false
  | .iptr cs k, y => match y with | .iptr ds k' => decide (k = k') && beqL cs ds | _ => false
  | .fn f a c, y => match y with | .fn f' a' c' => decide (f = f') && beqL a a' && beqL c c' | _ => false
  | .yld b v, y => match y with | .yld b' v' => decide (b = b') && decide (v = v') | _ => false
  | .map b v, y => match y with | .map b' v' => decide (b = b') && decide (v = v') | _ => false
  | .itr b v, y => match y with | .itr b' v' => decide (b = b') && decide (v = v') | _ => false
  | .new t e rows, y => match y with | .new t' e' rows' => decide (t = t') && decide (e = e') && beqR rows rows' | _ => false
  | .nbox t cs, y => match y with | .nbox t' ds => decide (t = t') && beqL cs ds | _ => false
  | .nmap _, _ => false
def beqL : List AV → List AV → Bool
  | [], ys => match ys with | [] => true | _ => false
  | x :: xs, ys => match ys with | [] => false | y :: ys => beqA x y && beqL xs ys
def beqR : List (List AV) → List (List AV) → Bool
  | [], ys => match ys with | [] => true | _ => false
  | x :: xs, ys => match ys with | [] => false | y :: ys => beqL x y && beqR xs ys
end

mutual
theorem beqA_eq : ∀ (x y : AV), beqA x y = true → x = y
  | .int k n, y, h => by cases y <;> simp_all [beqA]
  | .bool b, y, h => by cases y <;> simp_all [beqA]
  | .str s, y, h => by cases y <;> simp_all [beqA]
  | .any, y, h => by cases y <;> simp_all [beqA]
  | .flt, y, h => by cases y <;> simp_all [beqA]
  | .cpx, y, h => by cases y <;> simp_all [beqA]
  | .nilp, y, h => by cases y <;> simp_all [beqA]
  | .nilf, y, h => by cases y <;> simp_all [beqA]
  | .nili, y, h => by cases y <;> simp_all [beqA]
  | .nilm, y, h => by cases y <;> simp_all [beqA]
  | .nils t e, y, h => by cases y <;> simp_all [beqA]
  | .zs t e, y, h => by cases y <;> simp_all [beqA]
  | .agg cs, y, h => by cases y <;> simp only [beqA, Bool.false_eq_true] at h; rw [beqL_eq _ _ h]
  | .tup cs, y, h => by cases y <;> simp only [beqA, Bool.false_eq_true] at h; rw [beqL_eq _ _ h]
  | .ifc t x, y, h => by
    cases y <;> simp only [beqA, Bool.false_eq_true, Bool.and_eq_true, decide_eq_true_eq] at h
    rw [h.1, beqA_eq _ _ h.2]
  | .imm e rows, y, h => by
    cases y <;> simp only [beqA, Bool.false_eq_true, Bool.and_eq_true, decide_eq_true_eq] at h
    rw [h.1, beqR_eq _ _ h.2]
  | .own e b v lo n f, y, h => by cases y <;> simp_all [beqA]
  | .vsl b v o e n, y, h => by cases y <;> simp_all [beqA]
  | .ptr b v o, y, h => by cases y <;> simp_all [beqA]
  | .eptr b v i k, y, h => by cases y <;> simp_all [beqA]
  | .iptr cs k, y, h => by
    cases y <;> simp only [beqA, Bool.false_eq_true, Bool.and_eq_true, decide_eq_true_eq] at h
    rw [h.1, beqL_eq _ _ h.2]
  | .fn f a c, y, h => by
    cases y <;> simp only [beqA, Bool.false_eq_true, Bool.and_eq_true, decide_eq_true_eq] at h
    rw [h.1.1, beqL_eq _ _ h.1.2, beqL_eq _ _ h.2]
  | .yld b v, y, h => by cases y <;> simp_all [beqA]
  | .map b v, y, h => by cases y <;> simp_all [beqA]
  | .itr b v, y, h => by cases y <;> simp_all [beqA]
  | .new t e rows, y, h => by
    cases y <;> simp only [beqA, Bool.false_eq_true, Bool.and_eq_true, decide_eq_true_eq] at h
    rw [h.1.1, h.1.2, beqR_eq _ _ h.2]
  | .nbox t cs, y, h => by
    cases y <;> simp only [beqA, Bool.false_eq_true, Bool.and_eq_true, decide_eq_true_eq] at h
    rw [h.1, beqL_eq _ _ h.2]
  | .nmap _, y, h => by simp [beqA] at h
theorem beqL_eq : ∀ (x y : List AV), beqL x y = true → x = y
  | [], y, h => by cases y <;> simp_all [beqL]
  | x :: xs, y, h => by
    cases y <;> simp only [beqL, Bool.false_eq_true, Bool.and_eq_true] at h
    rw [beqA_eq _ _ h.1, beqL_eq _ _ h.2]
theorem beqR_eq : ∀ (x y : List (List AV)), beqR x y = true → x = y
  | [], y, h => by cases y <;> simp_all [beqR]
  | x :: xs, y, h => by
    cases y <;> simp only [beqR, Bool.false_eq_true, Bool.and_eq_true] at h
    rw [beqL_eq _ _ h.1, beqR_eq _ _ h.2]
end

def beqM : List (Int × AV) → List (Int × AV) → Bool
  | [], ys => match ys with | [] => true | _ => false
  | x :: xs, ys => match ys with | [] => false | y :: ys => decide (x.1 = y.1) && beqA x.2 y.2 && beqM xs ys
theorem beqM_eq : ∀ (x y : List (Int × AV)), beqM x y = true → x = y
  | [], y, h => by cases y <;> simp_all [beqM]
  | x :: xs, y, h => by
    cases y <;> simp only [beqM, Bool.false_eq_true, Bool.and_eq_true, decide_eq_true_eq] at h
    rw [Prod.ext h.1.1 (beqA_eq _ _ h.1.2), beqM_eq _ _ h.2]

def beqB : Blk → Blk → Bool
  | .dead v, .dead v' => decide (v = v')
  | .var v t cs, .var v' t' cs' => decide (v = v') && decide (t = t') && beqL cs cs'
  | .row v t e rows f, .row v' t' e' rows' f' => decide (v = v') && decide (t = t') && decide (e = e') && decide (f = f') && beqR rows rows'
  | .map v es, .map v' es' => decide (v = v') && beqM es es'
  | .iter v s p, .iter v' s' p' => decide (v = v') && decide (s = s') && decide (p = p')
  | _, _ => false
theorem beqB_eq (x y : Blk) (h : beqB x y = true) : x = y := by
  cases x <;> cases y <;> simp only [beqB, Bool.false_eq_true, Bool.and_eq_true, decide_eq_true_eq] at h
  · rw [h]
  · rw [h.1.1, h.1.2, beqL_eq _ _ h.2]
  · rw [h.1.1.1.1, h.1.1.1.2, h.1.1.2, h.1.2, beqR_eq _ _ h.2]
  · rw [h.1, beqM_eq _ _ h.2]
  · rw [h.1.1, h.1.2, h.2]
def beqS : Sto → Sto → Bool
  | [], ys => match ys with | [] => true | _ => false
  | x :: xs, ys => match ys with | [] => false | y :: ys => beqB x y && beqS xs ys
theorem beqS_eq : ∀ (x y : Sto), beqS x y = true → x = y
  | [], y, h => by cases y <;> simp_all [beqS]
  | x :: xs, y, h => by
    cases y <;> simp only [beqS, Bool.false_eq_true, Bool.and_eq_true] at h
    rw [beqB_eq _ _ h.1, beqS_eq _ _ h.2]

/-- a call that is known: it returns -/
structure Entry where
  f : Nat
  first : List AV
  cap : List AV
  args : List AV
  S : Sto
  v : AV
  S' : Sto

def Entry.hit (e : Entry) (fv : AV) (args : List AV) (S : Sto) : Bool :=
  match fv with
  | .fn f first cap => if f = e.f then beqL args e.args && beqL first e.first && beqL cap e.cap && beqS S e.S else false
  | _ => false

def find (fv : AV) (args : List AV) (S : Sto) : List Entry → Option (Out × Bool × Sto)
  | [] => none
  | e :: es => if e.hit fv args S then some (.ret e.v, false, e.S') else find fv args S es

/-- the calls, some of them known -/
def callT (lf : Nat) (IP : Nat → Option IFn) (ext : Nat → Option (List AV → Option AV)) (tab : Nat → List Entry) : Nat → CallD
  | 0 => fun _ _ _ _ => none
  | d + 1 => fun pv fv args S =>
    match (match pv with | none => find fv args S (tab (d + 1)) | some _ => none) with
    | some r => some r
    | none =>
      match fv with
      | .fn f first cap => if (ext f).isSome then none else callFn lf ⟨callT lf IP ext tab d, ext⟩ IP pv f (first ++ args ++ cap) S
      | .yld b ver => callYld lf ⟨callT lf IP ext tab d, ext⟩ b ver args S
      | _ => none

variable {lf : Nat} {IP : Nat → Option IFn} {ext : Nat → Option (List AV → Option AV)} {tab : Nat → List Entry}

def Known (lf : Nat) (IP : Nat → Option IFn) (ext : Nat → Option (List AV → Option AV)) (d : Nat) (e : Entry) : Prop :=
  call lf IP ext d none (.fn e.f e.first e.cap) e.args e.S = some (.ret e.v, false, e.S')
def Valid (lf : Nat) (IP : Nat → Option IFn) (ext : Nat → Option (List AV → Option AV)) (tab : Nat → List Entry) : Prop := ∀ d e, e ∈ tab d → Known lf IP ext d e

theorem find_known {d : Nat} {fv : AV} {args : List AV} {S : Sto} {r : Out × Bool × Sto} : ∀ (es : List Entry), (∀ e ∈ es, Known lf IP ext d e) → find fv args S es = some r → call lf IP ext d none fv args S = some r
  | [], _, h => by cases h
  | e :: es, hk, h => by
    unfold find at h
    split at h
    · rename_i hh
      cases h
      unfold Entry.hit at hh
      split at hh
      · rename_i f first cap
        split at hh
        · rename_i hf
          simp only [Bool.and_eq_true] at hh
          rw [hf, beqL_eq _ _ hh.1.1.1, beqL_eq _ _ hh.1.1.2, beqL_eq _ _ hh.1.2, beqS_eq _ _ hh.2]
          exact hk e (by simp)
        · cases hh
      · cases hh
    · exact find_known es (fun e' he => hk e' (by simp [he])) h

theorem callT_eq (h : Valid lf IP ext tab) : ∀ d, callT lf IP ext tab d = call lf IP ext d
  | 0 => rfl
  | d + 1 => by
    have ih := callT_eq h d
    funext pv fv args S
    have hstep : (match fv with
      | .fn f first cap => if (ext f).isSome then none else callFn lf ⟨callT lf IP ext tab d, ext⟩ IP pv f (first ++ args ++ cap) S
      | .yld b ver => callYld lf ⟨callT lf IP ext tab d, ext⟩ b ver args S
      | _ => none) = call lf IP ext (d + 1) pv fv args S := by rw [ih]; rfl
    unfold callT
    rw [hstep]
    cases pv with
    | some x => rfl
    | none =>
      dsimp only
      cases hf : find fv args S (tab (d + 1)) with
      | none => rfl
      | some r => exact (find_known _ (h (d + 1)) hf).symm

def addT (d : Nat) (e : Entry) (tab : Nat → List Entry) : Nat → List Entry := fun n => if n = d then e :: tab n else tab n

/-- a call that is evaluated -/
def chkE (lf : Nat) (IP : Nat → Option IFn) (ext : Nat → Option (List AV → Option AV)) (tab : Nat → List Entry) (d : Nat) (e : Entry) : Bool :=
  match callT lf IP ext tab d none (.fn e.f e.first e.cap) e.args e.S with
  | some (.ret v, false, S') => beqA v e.v && beqS S' e.S'
  | _ => false

theorem chkE_known (h : Valid lf IP ext tab) {d : Nat} {e : Entry} (hc : chkE lf IP ext tab d e = true) : Known lf IP ext d e := by
  unfold chkE at hc
  split at hc
  · rename_i v S' hr
    simp only [Bool.and_eq_true] at hc
    rw [callT_eq h] at hr
    unfold Known
    rw [hr, beqA_eq _ _ hc.1, beqS_eq _ _ hc.2]
  · cases hc

theorem Valid.none : Valid lf IP ext fun _ => [] := fun _ _ h => by cases h
theorem Valid.add (h : Valid lf IP ext tab) {d : Nat} {e : Entry} (hc : chkE lf IP ext tab d e = true) : Valid lf IP ext (addT d e tab) := by
  intro d' e' he
  unfold addT at he
  split at he
  · rename_i hd
    rcases List.mem_cons.1 he with rfl | he
    · rw [hd]; exact chkE_known h hc
    · exact h d' e' he
  · exact h d' e' he

end Go.Wm

namespace Go.Proofs.YtkhjmjimffmokaaGreat
open Go.Wm

/-- bytes as rows -/
def bs (l : List Nat) : List (List AV) := l.map fun n => [.int .u8 (Int.ofNat n)]
def lf0 : Nat := 100000
def Tn : Nat → List Entry := fun _ => []
theorem Vn : Valid lf0 IPt extF Tn := Valid.none
end Go.Proofs.YtkhjmjimffmokaaGreat
