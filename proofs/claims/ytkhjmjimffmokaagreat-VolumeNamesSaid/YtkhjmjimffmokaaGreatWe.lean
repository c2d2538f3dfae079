/-
The abstract machine is sound, part 4; the link to the word for a call.
-/
import Derived.Test.YtkhjmjimffmokaaGreatWd

set_option linter.unusedVariables false
set_option linter.unusedSimpArgs false
namespace Go.Wm
open Go.RowKit

variable {A : Alike} {P : Program} {B0 : Nat} {w0 w w' : World} {g g' : Sg} {S S' : Sto} {b : Frame} {tm : Array Value} {k : List Item} {cs : List Frame} {env : Env} {cx : Cx}

/-- a run in the text's order: each operation, its environment and what it gave -/
def TR (cx : Cx) (base : Nat) (env0 : Env) : List IOper → Env → Sto → List (IOper × Env × AV) → Env → Sto → Prop
  | [], env, S, es, env', S' => es = [] ∧ env = env' ∧ S = S'
  | o :: os, env, S, es, env', S' => ∃ v es' S1, es = (o, env, v) :: es' ∧ valOp cx base env0 o env S = some (.ret v, S1) ∧ TR cx base env0 os (env.put o.dst v) S1 es' env' S'

def stE (cx : Cx) (base : Nat) (env0 : Env) (es : List (IOper × Env × AV)) (p : Nat) (S : Sto) : R :=
  match es[p]? with
  | some (o, e, _) => valOp cx base env0 o e S
  | none => none
def stV (es : List (IOper × Env × AV)) (p : Nat) : AV :=
  match es[p]? with
  | some (_, _, v) => v
  | none => .any
def stD (es : List (IOper × Env × AV)) (p : Nat) : Option Nat :=
  match es[p]? with
  | some (o, _, _) => o.dst
  | none => none

theorem TR.length {base : Nat} {env0 : Env} : ∀ {os : List IOper} {env : Env} {S : Sto} {es : List (IOper × Env × AV)} {env' : Env} {S' : Sto}, TR cx base env0 os env S es env' S' → es.map (·.1) = os
  | [], _, _, es, _, _, h => by simp [h.1]
  | o :: os, _, _, es, _, _, h => by
    obtain ⟨v, es', S1, rfl, _, h2⟩ := h
    simp [TR.length h2]

theorem TR.runE {base : Nat} {env0 : Env} : ∀ {os : List IOper} {env : Env} {S : Sto} {es : List (IOper × Env × AV)} {env' : Env} {S' : Sto}, TR cx base env0 os env S es env' S' → ∀ (pre : List (IOper × Env × AV)),
      runE (stE cx base env0 (pre ++ es)) (stV (pre ++ es)) (List.range' pre.length os.length) S S'
  | [], _, _, es, _, _, h, pre => by simp [Wm.runE, h.2.2]
  | o :: os, env, S, es, _, S', h, pre => by
    obtain ⟨v, es', S1, rfl, h1, h2⟩ := h
    have hat : (pre ++ (o, env, v) :: es')[pre.length]? = some (o, env, v) := by simp
    rw [List.length_cons, List.range'_succ]
    refine ⟨S1, by simp only [stE, stV, hat]; exact h1, ?_⟩
    have := TR.runE h2 (pre ++ [(o, env, v)])
    simpa using this

/-- the environment behind operations, the last one first -/
def envD (es : List (IOper × Env × AV)) (env : Env) : List Nat → Env
  | [] => env
  | p :: D => (envD es env D).put (stD es p) (stV es p)

theorem Env.get_put (env : Env) (d : Option Nat) (x : AV) (t : Nat) : (env.put d x).get t = if d = some t then x else env.get t := by
  cases d with
  | none => simp [Env.put]
  | some u =>
    simp only [Env.put, Env.get_cons, Option.some.injEq]
    by_cases h : t = u
    · subst h; simp
    · have : ¬ u = t := fun e => h e.symm
      simp [h, this]
theorem envD_out {es : List (IOper × Env × AV)} {t : Nat} : ∀ {D : List Nat}, (∀ p ∈ D, stD es p ≠ some t) → (envD es env D).get t = env.get t
  | [], _ => rfl
  | p :: D, h => by
    simp only [envD, Env.get_put]
    rw [if_neg (h p (by simp)), envD_out fun q hq => h q (by simp [hq])]
theorem envD_in {es : List (IOper × Env × AV)} {t p : Nat} (hp : stD es p = some t) (hu : ∀ q, stD es q = some t → q = p) : ∀ {D : List Nat}, p ∈ D → (envD es env D).get t = stV es p
  | [], h => by cases h
  | q :: D, h => by
    simp only [envD, Env.get_put]
    by_cases hq : stD es q = some t
    · rw [if_pos hq, hu q hq]
    · rw [if_neg hq]
      rcases List.mem_cons.1 h with e | h
      · subst e; exact absurd hp hq
      · exact envD_in hp hu h

/-- slots that an operation reads -/
def usesX : List Opd → List Nat
  | [] => []
  | .t i :: xs => i :: usesX xs
  | .c _ :: xs => usesX xs
def uses (o : IOper) : List Nat := usesX o.xs ++ (match o.guard with | some (t, _) => [t] | none => [])
theorem usesX_get {e1 e2 : Env} : ∀ {xs : List Opd}, (∀ t ∈ usesX xs, e1.get t = e2.get t) → xs.map (·.get e1) = xs.map (·.get e2)
  | [], _ => rfl
  | .t i :: xs, h => by
    have ih := usesX_get (e1 := e1) (e2 := e2) (xs := xs) fun t ht => h t (by simp [usesX, ht])
    have h0 := h i (by simp [usesX])
    rw [List.map_cons, List.map_cons, ih]
    show e1.get i :: _ = e2.get i :: _
    rw [h0]
  | .c x :: xs, h => by
    have ih := usesX_get (e1 := e1) (e2 := e2) (xs := xs) fun t ht => h t (by simpa [usesX] using ht)
    rw [List.map_cons, List.map_cons, ih]
    rfl
theorem wants_congr {o : IOper} {e1 e2 : Env} (h : ∀ t ∈ uses o, e1.get t = e2.get t) : wants o e1 = wants o e2 := by
  unfold wants
  cases hg : o.guard with
  | none => rfl
  | some p =>
    obtain ⟨t, want⟩ := p
    simp only
    rw [h t (by simp [uses, hg])]
theorem valOp_congr {base : Nat} {env0 : Env} {o : IOper} {e1 e2 : Env} (h : ∀ t ∈ uses o, e1.get t = e2.get t) (S : Sto) : valOp cx base env0 o e1 S = valOp cx base env0 o e2 S := by
  unfold valOp
  rw [wants_congr h, usesX_get fun t ht => h t (by simp [uses, ht])]

theorem TR.envs {base : Nat} {env0 : Env} : ∀ {os : List IOper} {env : Env} {S : Sto} {es : List (IOper × Env × AV)} {env' : Env} {S' : Sto}, TR cx base env0 os env S es env' S' → ∀ (pre : List (IOper × Env × AV)) (enva : Env),
      env = envD (pre ++ es) enva (List.range pre.length).reverse → (∀ p o e v, pre.length ≤ p → (pre ++ es)[p]? = some (o, e, v) → e = envD (pre ++ es) enva (List.range p).reverse) ∧ env' = envD (pre ++ es) enva (List.range (pre.length + os.length)).reverse
  | [], _, _, es, env', _, h, pre, enva, he => by
    obtain ⟨rfl, rfl, _⟩ := h
    refine ⟨fun p o e v hp hat => ?_, by simpa using he⟩
    rw [List.append_nil, List.getElem?_eq_none_iff.2 hp] at hat
    cases hat
  | o :: os, env, S, es, env', S', h, pre, enva, he => by
    obtain ⟨v, es', S1, rfl, h1, h2⟩ := h
    have hat : (pre ++ (o, env, v) :: es')[pre.length]? = some (o, env, v) := by simp
    have happ : pre ++ (o, env, v) :: es' = (pre ++ [(o, env, v)]) ++ es' := by simp
    have hnext : env.put o.dst v = envD ((pre ++ [(o, env, v)]) ++ es') enva (List.range (pre ++ [(o, env, v)]).length).reverse := by
      rw [← happ]
      simp only [List.length_append, List.length_singleton, List.range_succ, List.reverse_append, List.reverse_singleton, List.singleton_append, envD]
      rw [← he]
      simp only [stD, stV, hat]
    obtain ⟨h3, h4⟩ := TR.envs h2 (pre ++ [(o, env, v)]) enva hnext
    rw [← happ] at h3 h4
    refine ⟨fun p o' e v' hp hp' => ?_, ?_⟩
    · by_cases hpe : p = pre.length
      · subst hpe
        rw [hat] at hp'
        cases hp'
        exact he
      · exact h3 p o' e v' (by simp; omega) hp'
    · rw [h4]
      congr 3
      simp
      omega

/-- the checks of a drawn region -/
structure RegOK (P : Program) (N : Nat) (mops : Array Oper) (es : List (IOper × Env × AV)) (ix : Nat → Nat) (An : Nat → Nat → Prop) : Prop where
  op : ∀ p o e v, es[p]? = some (o, e, v) → ∃ m, mops[ix p]? = some m ∧ okOper P N false mops o m = true ∧ isSpec o.op = false
  dst : ∀ p q t, stD es p = some t → stD es q = some t → q = p
  use : ∀ p o e v t j, es[p]? = some (o, e, v) → t ∈ uses o → stD es j = some t → j ≠ p → An j p ∨ An p j

theorem okOper.dst_eq {N : Nat} {sp : Bool} {mops : Array Oper} {o : IOper} {m : Oper} (h : okOper P N sp mops o m = true) : m.dst = o.dst ∧ dstOk N o.dst = true := by
  unfold okOper at h
  simp only [Bool.and_eq_true, beq_iff_eq] at h
  exact ⟨h.1.1.1, h.1.1.2⟩

theorem simOps (hc : CallOK A P cx.cd) (he : ExtOK A P cx.ext) {N : Nat} (hN : N ≤ 900000) {base : Nat} {env0 : Env} {mops : Array Oper} {es : List (IOper × Env × AV)} {ix : Nat → Nat} {pred An : Nat → Nat → Prop} {rk : Nat → Nat}
    (hA : Anc pred An rk) (hrk : ∀ j i, An j i → j < i) (hR : RegOK P N mops es ix An) (henv : ∀ p o e v, es[p]? = some (o, e, v) → e = envD es env (List.range p).reverse) {rest : List Nat} {envx : Env} :
    ∀ (σ done : List Nat) {g : Sg} {S : Sto} {w : World} {tm : Array Value}, OrderP pred done σ → Closed pred done → runE (stE cx base env0 es) (stV es) σ S S' → (∀ p ∈ σ, ∀ o e v, es[p]? = some (o, e, v) → ∀ t ∈ uses o, envx.get t = env.get t) → Rel A B0 w0 g S w → ER g S S.length (envD es envx done) tm → tm.size = N →
      ∃ tm' g' w', Steps P (lone (fat b tm (.inRegion mops (σ.map ix ++ rest) :: k)) cs w) (lone (fat b tm' (.inRegion mops rest :: k)) cs w') ∧ Rel A B0 w0 g' S' w' ∧ (∀ k, Le k g S g' S') ∧ S'.length = S.length ∧
        ER g' S' S'.length (envD es envx (σ.reverse ++ done)) tm' ∧ tm'.size = N ∧ ∀ t, (∀ p ∈ σ, stD es p ≠ some t) → tm'.getD t undef = tm.getD t undef
  | [], done, g, S, w, tm, ho, hcl, hr, hx, R, E, ht => by
    have hr : S = S' := hr
    subst hr
    exact ⟨tm, g, w, Steps.refl _ _, R, fun k => Le.refl _ _ _, rfl, E, ht, fun _ _ => rfl⟩
  | p :: σ, done, g, S, w, tm, ho, hcl, hr, hx, R, E, ht => by
    obtain ⟨h1, hpi, h3⟩ := ho
    obtain ⟨S1, hE, hr⟩ := hr
    unfold stE at hE
    cases hat : es[p]? with
    | none => rw [hat] at hE; cases hE
    | some q =>
      obtain ⟨o, e, v⟩ := q
      rw [hat] at hE
      simp only at hE
      obtain ⟨m, hm, hok, hsp⟩ := hR.op p o e v hat
      have hve : v = stV es p := by simp [stV, hat]
      have hcong : valOp cx base env0 o e S = valOp cx base env0 o (envD es envx done) S := by
        refine valOp_congr (fun t ht => ?_) S
        have hxt := hx p (by simp) o e v hat t ht
        rw [henv p o e v hat]
        by_cases hj : ∃ j, stD es j = some t
        · obtain ⟨j, hj⟩ := hj
          have hu : ∀ q, stD es q = some t → q = j := fun q hq => hR.dst j q t hj hq
          by_cases hjp : j = p
          · subst hjp
            rw [envD_out (fun q hq hqt => by
              have := hu q hqt
              subst this
              simp at hq), envD_out (fun q hq hqt => by
              have := hu q hqt
              subst this
              exact h1 hq), hxt]
          · rcases hR.use p o e v t j hat ht hj hjp with ha | ha
            · rw [envD_in hj hu (D := (List.range p).reverse) (by simp; exact hrk _ _ ha), envD_in hj hu (D := done) (hA.done hcl _ p j rfl hpi ha)]
            · have hjd : j ∉ done := fun hjd => h1 (hA.done hcl _ j p rfl (hcl j hjd) ha)
              have hlt := hrk _ _ ha
              rw [envD_out (fun q hq hqt => by
                have := hu q hqt
                subst this
                simp at hq
                omega), envD_out (fun q hq hqt => by
                have := hu q hqt
                subst this
                exact hjd hq), hxt]
        · have hn : ∀ q, stD es q ≠ some t := fun q hq => hj ⟨q, hq⟩
          rw [envD_out fun q _ => hn q, envD_out fun q _ => hn q, hxt]
      rw [hcong] at hE
      obtain ⟨cv, w1, g1, hs, R1, l1, n1, v1⟩ := op_sound (b := b) (k := k) (cs := cs) (rest := σ.map ix ++ rest) hc he R E hN ht hm hok hsp hE
      obtain ⟨hd, hdok⟩ := okOper.dst_eq hok
      have E1 : ER g1 S1 S1.length (envD es envx (p :: done)) (putT tm m.dst cv) := by
        have hst : stD es p = o.dst := by simp [stD, hat]
        simp only [envD]
        rw [hst, hd]
        refine ER.putT ?_ (by rw [ht]; exact hdok) (by rw [← hve] at v1 ⊢; exact v1)
        rw [n1]
        exact E.mono (l1 _)
      obtain ⟨tm', g', w', hs', R', l', n', E', ht', hst'⟩ := simOps hc he hN hA hrk hR henv σ (p :: done) h3 (hcl.cons hpi) hr (fun q hq => hx q (by simp [hq])) R1 E1 (by rw [size_putT]; exact ht)
      refine ⟨tm', g', w', Steps.trans hs hs', R', fun k => (l1 k).trans (l' k), n'.trans n1, by simpa using E', ht', fun t hn => ?_⟩
      rw [hst' t fun q hq => hn q (by simp [hq])]
      have hpt := hn p (by simp)
      have hst : stD es p = o.dst := by simp [stD, hat]
      rw [hst, ← hd] at hpt
      cases hmd : m.dst with
      | none => rfl
      | some u =>
        rw [hmd] at hpt
        have hut : u ≠ t := fun e => hpt (by rw [e])
        simp only [Wm.putT]
        rw [Array.getD_eq_getD_getElem?, Array.getD_eq_getD_getElem?, Array.getElem?_setIfInBounds_ne hut]

end Go.Wm

set_option linter.unusedVariables false
set_option linter.unusedSimpArgs false
namespace Go.Wm
open Go.RowKit

variable {A : Alike} {P : Program} {B0 : Nat} {w0 w w' : World} {g g' : Sg} {S S' : Sto} {b : Frame} {tm : Array Value} {k : List Item} {cs : List Frame} {env : Env} {cx : Cx}

/-! ### what operations touch, told without their operands -/
/-- 0: nothing of the store; 1: it reads; 2: it may write -/
def clsOp : Iop → Nat
  | .mv | .pick | .build _ _ | .eqs _ _ | .bnot | .conv _ | .cflt | .ccpx | .mkifc _ | .mkfn _ _ | .fld _ _ | .idx _ _ _ | .idxs
  | .tass _ _ _ | .extr _ | .lens | .min2 | .max2 | .slcs _ _ => 0
  | .nilchk | .bin _ _ | .len | .slc _ _ _ _ _ | .slca _ _ _ _ _ | .fadr _ | .iadr _ | .iadra _ _ | .load _ | .look _ _ | .tostr => 1
  | _ => 2
theorem cls0 {op : Iop} (h : clsOp op = 0) (base : Nat) (xs : List AV) : fpOp base op xs = some (false, []) := by
  cases op <;> first | rfl | (simp [clsOp] at h)
theorem cls1 {op : Iop} (h : clsOp op ≤ 1) (base : Nat) (xs : List AV) : ∃ l, fpOp base op xs = some (false, l) := by
  cases op <;> first | exact ⟨_, rfl⟩ | (simp [clsOp] at h)

theorem fpStep0 {base : Nat} {o : IOper} (h : clsOp o.op = 0) (e : Env) : fpStep base o e = some (false, []) := by
  unfold fpStep
  split
  · exact cls0 h _ _
  · rfl
theorem fpStep1 {base : Nat} {o : IOper} (h : clsOp o.op ≤ 1) (e : Env) : ∃ l, fpStep base o e = some (false, l) := by
  unfold fpStep
  split
  · exact cls1 h _ _
  · exact ⟨_, rfl⟩

/-- panics of operations that do not panic are left out: what they touch stays -/
def noPan (ok : Bool) : R → R
  | some (.pan x, S1) => if ok then some (.pan x, S1) else none
  | r => r
theorem noPan_some {ok : Bool} {r : R} {a : Out} (h : noPan ok r = some (a, S)) : r = some (a, S) ∧ ∀ S', noPan ok (some (a, S')) = some (a, S') := by
  cases r with
  | none => simp [noPan] at h
  | some p =>
    obtain ⟨o, S1⟩ := p
    cases o with
    | ret v => simp only [noPan] at h; cases h; exact ⟨rfl, fun _ => rfl⟩
    | pan x =>
      simp only [noPan] at h
      split at h
      · rename_i hk
        cases h
        exact ⟨rfl, fun _ => by simp [noPan, hk]⟩
      · cases h
theorem Rd.noPan {l : List Nat} {E : Sto → R} {ok : Bool} (h : Rd l E) : Rd l (fun S => noPan ok (E S)) := by
  intro S S' a S1 hs e
  obtain ⟨h1, h2⟩ := noPan_some e
  obtain ⟨h3, h4⟩ := h S S' a S1 hs h1
  exact ⟨h3, by show Wm.noPan ok (E S') = _; rw [h4]; exact h2 S'⟩
theorem Lo.noPan {l : List Nat} {E : Sto → R} {ok : Bool} (h : Lo l E) : Lo l (fun S => noPan ok (E S)) := by
  intro S S' a S1 hs e
  obtain ⟨h1, h2⟩ := noPan_some e
  obtain ⟨h3, S1', h4, h5⟩ := h S S' a S1 hs h1
  exact ⟨h3, S1', by show Wm.noPan ok (E S') = _; rw [h4]; exact h2 S1', h5⟩

theorem valOp_eq {base : Nat} {env0 : Env} {o : IOper} {e : Env} : valOp cx base env0 o e = (match wants o e with
    | some true => fun S => noPan (mayPan o.op) (evalOp cx base env0 o.op (o.xs.map (·.get e)) S)
    | some false => fun S => some (.ret (.tup []), S)
    | none => fun _ => none) := by
  funext S
  unfold valOp
  cases wants o e with
  | none => rfl
  | some t =>
    cases t with
    | false => rfl
    | true =>
      simp only
      generalize evalOp cx base env0 o.op (o.xs.map (·.get e)) S = r
      cases r with
      | none => rfl
      | some p =>
        obtain ⟨x, S1⟩ := p
        cases x <;> rfl
theorem valOp_fp {base : Nat} {env0 : Env} {o : IOper} {e : Env} :
    (∀ l, fpStep base o e = some (false, l) → Rd l (valOp cx base env0 o e)) ∧ (∀ l, fpStep base o e = some (true, l) → Lo l (valOp cx base env0 o e)) := by
  rw [valOp_eq]
  unfold fpStep
  cases wants o e with
  | none => exact ⟨fun l _ => Rd.none, fun l _ => Lo.none⟩
  | some t =>
    cases t with
    | false => exact ⟨fun l _ => Rd.ret, fun l _ => Lo.ret⟩
    | true => exact ⟨fun l h => (evalOp_fp.1 l h).noPan, fun l h => (evalOp_fp.2 l h).noPan⟩

/-- what an operation of a run touches -/
def stF (base : Nat) (es : List (IOper × Env × AV)) (p : Nat) : Fp :=
  match es[p]? with
  | some (o, e, _) => fpStep base o e
  | none => some (false, [])
theorem stE_comm {base : Nat} {env0 : Env} {es : List (IOper × Env × AV)} {p q : Nat} (h : Fp.apart (stF base es p) (stF base es q) = true) : Comm (stE cx base env0 es p) (stE cx base env0 es q) := by
  have key : ∀ p, (∀ l, stF base es p = some (false, l) → Rd l (stE cx base env0 es p)) ∧ (∀ l, stF base es p = some (true, l) → Lo l (stE cx base env0 es p)) := by
    intro p
    have hE : stE cx base env0 es p = (match es[p]? with
      | some (o, e, _) => valOp cx base env0 o e
      | none => fun _ => none) := by
      funext S
      unfold stE
      cases es[p]? with
      | none => rfl
      | some q => rfl
    rw [hE]
    unfold stF
    cases es[p]? with
    | none => exact ⟨fun l _ => Rd.none, fun l _ => Lo.none⟩
    | some q =>
      obtain ⟨o, e, v⟩ := q
      exact valOp_fp
  exact Fp.comm h (key p).1 (key p).2 (key q).1 (key q).2

theorem apart0 {a b : Fp} (h : a = some (false, []) ∨ b = some (false, [])) : Fp.apart a b = true := by
  rcases h with rfl | rfl
  · rfl
  · unfold Fp.apart
    split <;> simp_all
theorem apart1 {a b : Fp} (h : (∃ l, a = some (false, l)) ∧ ∃ l, b = some (false, l)) : Fp.apart a b = true := by
  obtain ⟨⟨l, rfl⟩, m, rfl⟩ := h
  unfold Fp.apart
  split <;> simp_all

/-! ### runs -/
theorem runOpsD_TR {base : Nat} {env0 : Env} : ∀ {os : List IOper} {env env1 : Env} {S S1 : Sto} {fs0 fs : List Fp}, (∀ o ∈ os, isSpec o.op = false) → runOpsD cx base env0 os env S fs0 = some (env1, S1, fs) →
    ∃ es, TR cx base env0 os env S es env1 S1 ∧ fs = fs0 ++ es.map (fun p => fpStep base p.1 p.2.1)
  | [], env, env1, S, S1, fs0, fs, hs, h => by
    simp only [runOpsD] at h
    cases h
    exact ⟨[], ⟨rfl, rfl, rfl⟩, by simp⟩
  | o :: os, env, env1, S, S1, fs0, fs, hs, h => by
    simp only [runOpsD] at h
    rw [stepOp_val (hs o (by simp))] at h
    cases hv : valOp cx base env0 o env S with
    | none => rw [hv] at h; cases h
    | some p =>
      obtain ⟨out, S2⟩ := p
      rw [hv] at h
      cases out with
      | pan x => cases h
      | ret v =>
        simp only at h
        obtain ⟨es, h1, h2⟩ := runOpsD_TR (fun o ho => hs o (by simp [ho])) h
        exact ⟨(o, env, v) :: es, ⟨v, es, S2, rfl, hv, h1⟩, by simp [h2]⟩
theorem TR.app {base : Nat} {env0 : Env} : ∀ {os qs : List IOper} {env env1 env2 : Env} {S S1 S2 : Sto} {es fs : List (IOper × Env × AV)}, TR cx base env0 os env S es env1 S1 → TR cx base env0 qs env1 S1 fs env2 S2 → TR cx base env0 (os ++ qs) env S (es ++ fs) env2 S2
  | [], qs, env, env1, env2, S, S1, S2, es, fs, h, h' => by
    obtain ⟨rfl, rfl, rfl⟩ := h
    exact h'
  | o :: os, qs, env, env1, env2, S, S1, S2, es, fs, h, h' => by
    obtain ⟨v, es', S3, rfl, h1, h2⟩ := h
    exact ⟨v, es' ++ fs, S3, rfl, h1, TR.app h2 h'⟩

/-! ### ancestors -/
/-- where an operation stands -/
def posOf (idx : List Nat) (i : Nat) : Nat := idx.idxOf i
def maskOf (mops : Array Oper) (idx : List Nat) (acc : List Nat) (i : Nat) : Nat :=
  match mops[i]? with
  | some o => o.after.toList.foldl (fun s e => if Region.binds .any e then s ||| 2 ^ posOf idx e.on ||| acc.getD (posOf idx e.on) 0 else s) 0
  | none => 0
def masks (mops : Array Oper) (idx : List Nat) : List Nat → List Nat → List Nat
  | [], acc => acc
  | i :: rest, acc => masks mops idx rest (acc ++ [maskOf mops idx acc i])

/-- an edge between places -/
def predP (mops : Array Oper) (idx : List Nat) (q p : Nat) : Prop :=
  ∃ i, idx[p]? = some i ∧ ∃ o, mops[i]? = some o ∧ ∃ e ∈ o.after, Region.binds .any e = true ∧ posOf idx e.on = q

theorem maskOf_bit {idx acc : List Nat} {j : Nat} : ∀ (es : List Edge) (s : Nat), (es.foldl (fun s e => if Region.binds .any e then s ||| 2 ^ posOf idx e.on ||| acc.getD (posOf idx e.on) 0 else s) s).testBit j = true ↔
    s.testBit j = true ∨ ∃ e ∈ es, Region.binds .any e = true ∧ (j = posOf idx e.on ∨ (acc.getD (posOf idx e.on) 0).testBit j = true)
  | [], s => by simp
  | e :: es, s => by
    rw [List.foldl_cons, maskOf_bit es]
    by_cases hb : Region.binds .any e = true
    · rw [if_pos hb]
      simp only [Nat.testBit_or, Bool.or_eq_true, Nat.testBit_two_pow, decide_eq_true_eq, List.mem_cons]
      constructor
      · rintro (((h | h) | h) | ⟨e', h1, h2⟩)
        · exact .inl h
        · exact .inr ⟨e, .inl rfl, hb, .inl h.symm⟩
        · exact .inr ⟨e, .inl rfl, hb, .inr h⟩
        · exact .inr ⟨e', .inr h1, h2⟩
      · rintro (h | ⟨e', (rfl | h1), h2, h3⟩)
        · exact .inl (.inl (.inl h))
        · rcases h3 with h3 | h3
          · exact .inl (.inl (.inr h3.symm))
          · exact .inl (.inr h3)
        · exact .inr ⟨e', h1, h2, h3⟩
    · rw [if_neg hb]
      simp only [List.mem_cons]
      constructor
      · rintro (h | ⟨e', h1, h2⟩)
        · exact .inl h
        · exact .inr ⟨e', .inr h1, h2⟩
      · rintro (h | ⟨e', (rfl | h1), h2, h3⟩)
        · exact .inl h
        · exact absurd h2 hb
        · exact .inr ⟨e', h1, h2, h3⟩

theorem masks_at {mops : Array Oper} {idx : List Nat} : ∀ (l acc : List Nat), (∃ tl, masks mops idx l acc = acc ++ tl ∧ tl.length = l.length) ∧
    ∀ p i, l[p]? = some i → (masks mops idx l acc)[acc.length + p]? = some (maskOf mops idx ((masks mops idx l acc).take (acc.length + p)) i)
  | [], acc => ⟨⟨[], by simp [masks]⟩, by simp⟩
  | i :: l, acc => by
    obtain ⟨⟨tl, h1, h2⟩, h3⟩ := masks_at (mops := mops) (idx := idx) l (acc ++ [maskOf mops idx acc i])
    refine ⟨⟨maskOf mops idx acc i :: tl, by simp [masks, h1], by simp [h2]⟩, fun p j hp => ?_⟩
    cases p with
    | zero =>
      simp only [List.getElem?_cons_zero, Option.some.injEq] at hp
      subst hp
      simp [masks, h1]
    | succ p =>
      have := h3 p j (by simpa using hp)
      simp only [masks]
      have e : (acc ++ [maskOf mops idx acc i]).length + p = acc.length + (p + 1) := by simp; omega
      rw [e] at this
      exact this

/-- behind one another, by places -/
def AnP (mops : Array Oper) (idx : List Nat) (j p : Nat) : Prop := ((masks mops idx idx []).getD p 0).testBit j = true

theorem AnP_iff {mops : Array Oper} {idx : List Nat} (hf : ∀ q p, predP mops idx q p → q < p) {j p : Nat} : AnP mops idx j p ↔ ∃ q, predP mops idx q p ∧ (j = q ∨ AnP mops idx j q) := by
  obtain ⟨⟨tl, h1, h2⟩, h3⟩ := masks_at (mops := mops) (idx := idx) idx []
  cases hp : idx[p]? with
  | none =>
    have hlen : (masks mops idx idx []).length ≤ p := by
      rw [h1]
      have := List.getElem?_eq_none_iff.1 hp
      simp [h2]
      omega
    constructor
    · intro h
      unfold AnP at h
      rw [List.getD_eq_getElem?_getD, List.getElem?_eq_none_iff.2 hlen] at h
      simp at h
    · rintro ⟨q, ⟨i, hi, _⟩, _⟩
      rw [hp] at hi
      cases hi
  | some i =>
    have hat := h3 p i hp
    simp only [List.length_nil, Nat.zero_add] at hat
    have htake : ∀ q, q < p → ((masks mops idx idx []).take p).getD q 0 = (masks mops idx idx []).getD q 0 := by
      intro q hq
      simp [List.getD_eq_getElem?_getD, List.getElem?_take, hq]
    unfold AnP
    rw [List.getD_eq_getElem?_getD, hat, Option.getD_some]
    unfold maskOf
    cases ho : mops[i]? with
    | none =>
      simp only [Nat.zero_testBit, Bool.false_eq_true, false_iff]
      rintro ⟨q, ⟨i', hi', o, ho', _⟩, _⟩
      rw [hp] at hi'
      cases hi'
      rw [ho] at ho'
      cases ho'
    | some o =>
      simp only
      rw [maskOf_bit]
      simp only [Nat.zero_testBit, Bool.false_eq_true, false_or]
      constructor
      · rintro ⟨e, he, hb, h⟩
        have hpr : predP mops idx (posOf idx e.on) p := ⟨i, hp, o, ho, e, by simpa using he, hb, rfl⟩
        refine ⟨_, hpr, ?_⟩
        rw [htake _ (hf _ _ hpr)] at h
        exact h
      · rintro ⟨q, hpr, h⟩
        have hq := hf _ _ hpr
        obtain ⟨i', hi', o', ho', e, he, hb, rfl⟩ := hpr
        rw [hp] at hi'
        cases hi'
        rw [ho] at ho'
        cases ho'
        refine ⟨e, by simpa using he, hb, ?_⟩
        rw [htake _ hq]
        exact h
theorem AnP_anc {mops : Array Oper} {idx : List Nat} (hf : ∀ q p, predP mops idx q p → q < p) : Anc (predP mops idx) (AnP mops idx) id :=
  ⟨fun j i h => (AnP_iff hf).1 h, hf⟩
theorem AnP_pred {mops : Array Oper} {idx : List Nat} (hf : ∀ q p, predP mops idx q p → q < p) {q p : Nat} (h : predP mops idx q p) : AnP mops idx q p := (AnP_iff hf).2 ⟨q, h, .inl rfl⟩

/-! ### the machine's orders, by places -/
theorem order_pos {mops : Array Oper} {idx : List Nat} (hn : idx.Nodup) : ∀ (σ done : List Nat), OrderP (predOf mops) done σ → (∀ i ∈ σ, i ∈ idx) → (∀ i ∈ done, i ∈ idx) → OrderP (predP mops idx) (done.map (posOf idx)) (σ.map (posOf idx))
  | [], done, h, hs, hd => trivial
  | i :: σ, done, h, hs, hd => by
    obtain ⟨h1, h2, h3⟩ := h
    have hi := hs i (by simp)
    have hat : idx[posOf idx i]? = some i := by
      have hlt : idx.idxOf i < idx.length := List.idxOf_lt_length_iff.2 hi
      unfold posOf
      rw [List.getElem?_eq_getElem hlt, List.getElem_idxOf]
    refine ⟨?_, ?_, ?_⟩
    · intro hm
      obtain ⟨j, hj, he⟩ := List.mem_map.1 hm
      have hj' := hd j hj
      have : j = i := by
        have h4 : idx[posOf idx j]? = some j := by
          have hlt : idx.idxOf j < idx.length := List.idxOf_lt_length_iff.2 hj'
          unfold posOf
          rw [List.getElem?_eq_getElem hlt, List.getElem_idxOf]
        rw [he, hat] at h4
        cases h4
        rfl
      exact h1 (this ▸ hj)
    · rintro q ⟨i', hi', o, ho, e, he, hb, rfl⟩
      rw [hat] at hi'
      cases hi'
      exact List.mem_map.2 ⟨e.on, h2 e.on ⟨o, ho, e, he, hb, rfl⟩, rfl⟩
    · exact order_pos hn σ (i :: done) h3 (fun j hj => hs j (by simp [hj])) (fun j hj => by
        rcases List.mem_cons.1 hj with rfl | hj
        · exact hi
        · exact hd j hj)

end Go.Wm

set_option linter.unusedVariables false
set_option linter.unusedSimpArgs false
namespace Go.Wm
open Go.RowKit

variable {A : Alike} {P : Program} {B0 : Nat} {w0 w w' : World} {g g' : Sg} {S S' : Sto} {b : Frame} {tm : Array Value} {k : List Item} {cs : List Frame} {env : Env} {cx : Cx}

def nodupB : List Nat → Bool
  | [] => true
  | x :: l => !l.contains x && nodupB l
theorem nodupB.out : ∀ {l : List Nat}, nodupB l = true → l.Nodup
  | [], _ => List.nodup_nil
  | x :: l, h => by
    simp only [nodupB, Bool.and_eq_true, Bool.not_eq_true'] at h
    refine List.nodup_cons.2 ⟨fun hm => ?_, nodupB.out h.2⟩
    have := List.contains_iff_mem.2 hm
    rw [h.1] at this
    cases this
def distinctB : List (Option Nat) → Bool
  | [] => true
  | none :: l => distinctB l
  | some t :: l => !l.contains (some t) && distinctB l
theorem distinctB.out : ∀ {l : List (Option Nat)}, distinctB l = true → ∀ (p q t : Nat), l[p]? = some (some t) → l[q]? = some (some t) → q = p
  | [], _, p, q, t, hp, _ => by simp at hp
  | x :: l, h, p, q, t, hp, hq => by
    have htl : distinctB l = true := by
      cases x with
      | none => exact h
      | some u => simp only [distinctB, Bool.and_eq_true] at h; exact h.2
    have hhd : ∀ j : Nat, x = some t → l[j]? = some (some t) → False := by
      intro j hx hj
      subst hx
      simp only [distinctB, Bool.and_eq_true, Bool.not_eq_true'] at h
      have := List.contains_iff_mem.2 (List.mem_of_getElem? hj)
      rw [h.1] at this
      cases this
    cases p with
    | zero =>
      cases q with
      | zero => rfl
      | succ q => exact (hhd q (by simpa using hp) (by simpa using hq)).elim
    | succ p =>
      cases q with
      | zero => exact (hhd p (by simpa using hq) (by simpa using hp)).elim
      | succ q => rw [distinctB.out htl p q t (by simpa using hp) (by simpa using hq)]
def okAll (P : Program) (N : Nat) (mops : Array Oper) : List IOper → List Nat → Bool
  | [], [] => true
  | o :: os, i :: is => (match mops[i]? with | some m => okOper P N false mops o m && !isSpec o.op | none => false) && okAll P N mops os is
  | _, _ => false
theorem okAll.out {N : Nat} {mops : Array Oper} : ∀ {os : List IOper} {is : List Nat}, okAll P N mops os is = true → os.length = is.length ∧ ∀ (p : Nat) (o : IOper), os[p]? = some o → ∃ (i : Nat) (m : Oper), is[p]? = some i ∧ mops[i]? = some m ∧ okOper P N false mops o m = true ∧ isSpec o.op = false
  | [], [], _ => ⟨rfl, by simp⟩
  | [], _ :: _, h => by simp [okAll] at h
  | _ :: _, [], h => by simp [okAll] at h
  | o :: os, i :: is, h => by
    simp only [okAll, Bool.and_eq_true] at h
    obtain ⟨h1, h2⟩ := h
    obtain ⟨h3, h4⟩ := okAll.out h2
    refine ⟨by simp [h3], fun p q hp => ?_⟩
    cases p with
    | zero =>
      simp only [List.getElem?_cons_zero, Option.some.injEq] at hp
      subst hp
      split at h1
      · rename_i m hm
        simp only [Bool.and_eq_true, Bool.not_eq_true'] at h1
        exact ⟨i, m, rfl, hm, h1.1, h1.2⟩
      · cases h1
    | succ p => simpa using h4 p q (by simpa using hp)
def fwdB (mops : Array Oper) (idx : List Nat) : Nat → List Nat → Bool
  | _, [] => true
  | p, i :: rest => (match mops[i]? with | some o => o.after.toList.all (fun e => !Region.binds .any e || decide (posOf idx e.on < p)) | none => false) && fwdB mops idx (p + 1) rest
theorem fwdB.out {mops : Array Oper} {idx : List Nat} : ∀ {l : List Nat} {p0 : Nat}, fwdB mops idx p0 l = true → ∀ (p i : Nat) (o : Oper) (e : Edge), l[p]? = some i → mops[i]? = some o → e ∈ o.after → Region.binds .any e = true → posOf idx e.on < p0 + p
  | [], _, _, p, i, o, e, hi, _, _, _ => by simp at hi
  | j :: l, p0, h, p, i, o, e, hi, ho, he, hb => by
    simp only [fwdB, Bool.and_eq_true] at h
    cases p with
    | zero =>
      simp only [List.getElem?_cons_zero, Option.some.injEq] at hi
      subst hi
      have h1 := h.1
      rw [ho] at h1
      have := List.all_eq_true.1 h1 e (by simpa using he)
      simpa [hb] using this
    | succ p =>
      have := fwdB.out h.2 p i o e (by simpa using hi) ho he hb
      omega
def bitB (M : List Nat) (p j : Nat) : Bool := (M.getD p 0).testBit j
def usesB (M : List Nat) (os : List IOper) : Bool :=
  (List.range os.length).all fun p => match os[p]? with
    | some o => (uses o).all fun t => (List.range os.length).all fun j => match os[j]? with
      | some q => q.dst != some t || j == p || bitB M p j || bitB M j p
      | none => true
    | none => true
def exemptB : Option (Bool × Nat × Nat) → Nat → Nat → Bool
  | some (true, c, a), p, q => p == c && q == a
  | some (false, c, m), p, q => q == c && decide (c ≤ p + m)
  | none, _, _ => false
def clsAt (os : List IOper) (p : Nat) : Nat := match os[p]? with | some o => clsOp o.op | none => 0
def covB (M : List Nat) (os : List IOper) (sp : Option (Bool × Nat × Nat)) (pairs : List (Nat × Nat)) : Bool :=
  (List.range os.length).all fun q => (List.range q).all fun p =>
    bitB M q p || clsAt os p == 0 || clsAt os q == 0 || (decide (clsAt os p ≤ 1) && decide (clsAt os q ≤ 1)) || pairs.contains (p, q) || exemptB sp p q
def isAlloc : Iop → Bool
  | .alloc _ _ _ => true
  | _ => false
def spB (M : List Nat) (os : List IOper) : Option (Bool × Nat × Nat) → Bool
  | none => true
  | some (true, c, a) => decide (c < a) && decide (a < os.length) && (match os[a]? with
    | some o => isAlloc o.op && o.guard.isNone && o.xs.isEmpty && o.dst.isSome && (List.range os.length).all fun p => p == a || !bitB M p a || bitB M p c
    | none => false)
  | some (false, c, m) => decide (m ≤ c) && decide (c < os.length) && (List.range os.length).all fun p => !(decide (c ≤ p + m) && decide (p < c)) || (!bitB M c p && decide (clsAt os p ≤ 1) && (match os[p]? with
    | some o => (uses o).all fun t => (List.range os.length).all fun j => !(decide (p ≤ j) && decide (j < c)) || (match os[j]? with | some q => q.dst != some t | none => true)
    | none => true))

/-- the variable that is made beside a call -/
def lateB (P : Program) (mops : Array Oper) (os : List IOper) (idx : List Nat) : Option (Bool × Nat × Nat) → Bool
  | some (true, _, a) => (match os[a]?, (idx[a]?).bind (mops[·]?) with
    | some o, some m => (match o.op, m.op with
      | .alloc _ t zero, .alloc t' => t == t' && zeroOk P t zero && m.guard.isNone
      | _, _ => false)
    | _, _ => false)
  | _ => true

def okReg (P : Program) (N : Nat) (mops : Array Oper) (os : List IOper) (idx : List Nat) (sp : Option (Bool × Nat × Nat)) (pairs : List (Nat × Nat)) : Bool :=
  decide (mops.size = idx.length) && idx.all (fun i => decide (i < mops.size)) && nodupB idx && okAll P N mops os idx && fwdB mops idx 0 idx &&
  wit .any mops [] idx && wit .text mops [] (Region.linearise .text mops 0) && wit .gc mops [] (Region.linearise .gc mops 0) &&
  distinctB (os.map (·.dst)) && (let M := masks mops idx idx []; usesB M os && covB M os sp pairs && spB M os sp) && lateB P mops os idx sp

/-- what the check says -/
structure RegC (P : Program) (N : Nat) (mops : Array Oper) (os : List IOper) (idx : List Nat) (sp : Option (Bool × Nat × Nat)) (pairs : List (Nat × Nat)) : Prop where
  size : mops.size = idx.length
  len : os.length = idx.length
  mem : ∀ i, i ∈ idx ↔ i < mops.size
  nodup : idx.Nodup
  op : ∀ (p : Nat) (o : IOper), os[p]? = some o → ∃ (i : Nat) (m : Oper), idx[p]? = some i ∧ mops[i]? = some m ∧ okOper P N false mops o m = true ∧ isSpec o.op = false
  fwd : ∀ q p, predP mops idx q p → q < p
  ord : ∀ m t, Order m mops [] (Region.linearise m mops t) ∧ ∀ i, i ∈ Region.linearise m mops t ↔ i < mops.size
  dst : ∀ (p q t : Nat) (o o' : IOper), os[p]? = some o → os[q]? = some o' → o.dst = some t → o'.dst = some t → q = p
  use : ∀ (p : Nat) (o : IOper) (t j : Nat) (o' : IOper), os[p]? = some o → t ∈ uses o → os[j]? = some o' → o'.dst = some t → j ≠ p → AnP mops idx j p ∨ AnP mops idx p j
  cov : ∀ p q, p < q → q < os.length → AnP mops idx p q ∨ clsAt os p = 0 ∨ clsAt os q = 0 ∨ (clsAt os p ≤ 1 ∧ clsAt os q ≤ 1) ∨ (p, q) ∈ pairs ∨ exemptB sp p q = true
  spc : spB (masks mops idx idx []) os sp = true
  late : lateB P mops os idx sp = true

theorem nodup_full : ∀ (n : Nat) (l : List Nat), l.Nodup → (∀ i ∈ l, i < n) → l.length = n → ∀ i, i < n → i ∈ l := by
  intro n l hn hl hlen i hi
  refine Classical.byContradiction fun h => ?_
  have := nodup_le n (i :: l) (List.nodup_cons.2 ⟨h, hn⟩) (fun j hj => by
    rcases List.mem_cons.1 hj with rfl | hj
    · exact hi
    · exact hl j hj)
  simp at this
  omega

theorem okReg.out {N : Nat} {mops : Array Oper} {os : List IOper} {idx : List Nat} {sp : Option (Bool × Nat × Nat)} {pairs : List (Nat × Nat)} (h : okReg P N mops os idx sp pairs = true) : RegC P N mops os idx sp pairs := by
  unfold okReg at h
  simp only [Bool.and_eq_true, decide_eq_true_eq] at h
  obtain ⟨⟨⟨⟨⟨⟨⟨⟨⟨⟨h1, h2⟩, h3⟩, h4⟩, h5⟩, h6⟩, h7⟩, h8⟩, h9⟩, ⟨h10, h11⟩, h12⟩, hlate⟩ := h
  have hlt : ∀ i ∈ idx, i < mops.size := fun i hi => by simpa using List.all_eq_true.1 h2 i hi
  have hnd := nodupB.out h3
  have hmem : ∀ i, i ∈ idx ↔ i < mops.size := fun i => ⟨hlt i, fun hi => nodup_full _ _ hnd hlt h1.symm i hi⟩
  obtain ⟨h13, h14⟩ := okAll.out h4
  refine ⟨h1, h13, hmem, hnd, h14, ?_, ?_, ?_, ?_, ?_, h12, hlate⟩
  · rintro q p ⟨i, hi, o, ho, e, he, hb, rfl⟩
    have := fwdB.out h5 p i o e hi ho he hb
    omega
  · intro m t
    cases m with
    | any => exact linearise_all h6 t
    | text => exact linearise_all h7 t
    | gc => exact linearise_all h8 t
  · intro p q t o o' hp hq ht ht'
    exact distinctB.out h9 p q t (by simp [hp, ht]) (by simp [hq, ht'])
  · intro p o t j o' hp ht hj ht' hne
    have hpl : p < os.length := (List.getElem?_eq_some_iff.1 hp).1
    have hjl : j < os.length := (List.getElem?_eq_some_iff.1 hj).1
    have a1 := List.all_eq_true.1 h10 p (by simpa using hpl)
    rw [hp] at a1
    have a2 := List.all_eq_true.1 a1 t ht
    have a3 := List.all_eq_true.1 a2 j (by simpa using hjl)
    rw [hj] at a3
    simp only [ht', Bool.or_eq_true, bne_self_eq_false, Bool.false_eq_true, false_or, beq_iff_eq] at a3
    rcases a3 with (a3 | a3) | a3
    · exact absurd a3 hne
    · exact .inl a3
    · exact .inr a3
  · intro p q hpq hq
    have a1 := List.all_eq_true.1 h11 q (by simpa using hq)
    have a2 := List.all_eq_true.1 a1 p (by simpa using hpq)
    simp only [Bool.or_eq_true, Bool.and_eq_true, beq_iff_eq, decide_eq_true_eq, List.contains_iff_mem] at a2
    rcases a2 with ((((a | a) | a) | a) | a) | a
    · exact .inl a
    · exact .inr (.inl a)
    · exact .inr (.inr (.inl a))
    · exact .inr (.inr (.inr (.inl a)))
    · exact .inr (.inr (.inr (.inr (.inl a))))
    · exact .inr (.inr (.inr (.inr (.inr a))))

section
variable {N base : Nat} {env0 : Env} {mops : Array Oper} {os : List IOper} {idx : List Nat} {sp : Option (Bool × Nat × Nat)} {pairs : List (Nat × Nat)} {es : List (IOper × Env × AV)} {fs : List Fp}

theorem es_os (hm : es.map (·.1) = os) {p : Nat} {o : IOper} {e : Env} {v : AV} (h : es[p]? = some (o, e, v)) : os[p]? = some o := by
  rw [← hm]
  simp [h]
theorem stD_os (hm : es.map (·.1) = os) {p t : Nat} (h : stD es p = some t) : ∃ o, os[p]? = some o ∧ o.dst = some t := by
  unfold stD at h
  split at h
  · rename_i o e v hp
    exact ⟨o, es_os hm hp, h⟩
  · cases h

theorem RegC.ok (C : RegC P N mops os idx sp pairs) (hm : es.map (·.1) = os) : RegOK P N mops es (fun p => idx.getD p 0) (AnP mops idx) where
  op p o e v h := by
    obtain ⟨i, m, h1, h2, h3, h4⟩ := C.op p o (es_os hm h)
    exact ⟨m, by simpa [List.getD_eq_getElem?_getD, h1] using h2, h3, h4⟩
  dst p q t hp hq := by
    obtain ⟨o, h1, h2⟩ := stD_os hm hp
    obtain ⟨o', h3, h4⟩ := stD_os hm hq
    exact C.dst p q t o o' h1 h3 h2 h4
  use p o e v t j h ht hj hne := by
    obtain ⟨o', h3, h4⟩ := stD_os hm hj
    exact C.use p o t j o' (es_os hm h) ht h3 h4 hne

theorem RegC.anc (C : RegC P N mops os idx sp pairs) : Anc (predP mops idx) (AnP mops idx) id := AnP_anc C.fwd
theorem RegC.an_lt (C : RegC P N mops os idx sp pairs) : ∀ j i, AnP mops idx j i → j < i := fun j i h => C.anc.rk_lt _ i j rfl h

/-- pairs that need not stand in order -/
theorem RegC.apart (C : RegC P N mops os idx sp pairs) (hm : es.map (·.1) = os) (hf : fs = es.map (fun p => fpStep base p.1 p.2.1)) (hp : pairsOk fs pairs = true) {p q : Nat} (hpq : p < q) (hq : q < os.length)
    (hn : ¬ AnP mops idx p q) (hx : exemptB sp p q = false) : Fp.apart (stF base es p) (stF base es q) = true := by
  have hcl : ∀ p : Nat, p < os.length → ∃ o e v, es[p]? = some (o, e, v) ∧ os[p]? = some o := by
    intro p hp
    have hlt : p < es.length := by rw [← hm] at hp; simpa using hp
    exact ⟨_, _, _, List.getElem?_eq_getElem hlt, es_os hm (List.getElem?_eq_getElem hlt)⟩
  obtain ⟨o1, e1, v1, a1, b1⟩ := hcl p (by omega)
  obtain ⟨o2, e2, v2, a2, b2⟩ := hcl q hq
  have s1 : stF base es p = fpStep base o1 e1 := by simp [stF, a1]
  have s2 : stF base es q = fpStep base o2 e2 := by simp [stF, a2]
  have c1 : clsAt os p = clsOp o1.op := by simp [clsAt, b1]
  have c2 : clsAt os q = clsOp o2.op := by simp [clsAt, b2]
  rcases C.cov p q hpq hq with h | h | h | h | h | h
  · exact absurd h hn
  · rw [c1] at h
    exact apart0 (.inl (by rw [s1]; exact fpStep0 h _))
  · rw [c2] at h
    exact apart0 (.inr (by rw [s2]; exact fpStep0 h _))
  · rw [c1, c2] at h
    obtain ⟨l, hl⟩ := fpStep1 (base := base) h.1 e1
    obtain ⟨m, hm'⟩ := fpStep1 (base := base) h.2 e2
    exact apart1 ⟨⟨l, by rw [s1]; exact hl⟩, m, by rw [s2]; exact hm'⟩
  · have := List.all_eq_true.1 hp (p, q) h
    subst hf
    simp only [List.getElem?_map, a1, a2, Option.map_some] at this
    rw [s1, s2]
    exact this
  · rw [hx] at h
    cases h

/-- where a drawn region leaves the frame -/
def RegEnds (A : Alike) (P : Program) (B0 : Nat) (w0 : World) (N : Nat) (m : Machine) (b : Frame) (k : List Item) (cs : List Frame) (g : Sg) (S : Sto) (env1 : Env) (S1 : Sto) : Prop :=
  ∃ tm' g' w', Steps P m (lone (fat b tm' k) cs w') ∧ Rel A B0 w0 g' S1 w' ∧ (∀ k, Le k g S g' S1) ∧ S1.length = S.length ∧ ER g' S1 S1.length env1 tm' ∧ tm'.size = N

/-- environments behind all operations, in whatever order -/
theorem envD_all {n : Nat} {D : List Nat} (hD : ∀ p, p ∈ D ↔ p < n) (hu : ∀ p q t, stD es p = some t → stD es q = some t → q = p) (hn : ∀ p t, stD es p = some t → p < n) (t : Nat) :
    (envD es env D).get t = (envD es env (List.range n).reverse).get t := by
  by_cases hj : ∃ j, stD es j = some t
  · obtain ⟨j, hj⟩ := hj
    have hu' : ∀ q, stD es q = some t → q = j := fun q hq => hu j q t hj hq
    rw [envD_in hj hu' ((hD j).2 (hn j t hj)), envD_in hj hu' (by simpa using hn j t hj)]
  · have hno : ∀ q, stD es q ≠ some t := fun q hq => hj ⟨q, hq⟩
    rw [envD_out fun q _ => hno q, envD_out fun q _ => hno q]

theorem ER.congr {k : Nat} {e1 e2 : Env} (E : ER g S k e1 tm) (h : ∀ t, e1.get t = e2.get t) : ER g S k e2 tm := fun t ht => by rw [← h t]; exact E t ht

theorem stD_lt (hm : es.map (·.1) = os) {p t : Nat} (h : stD es p = some t) : p < os.length := by
  obtain ⟨o, h1, _⟩ := stD_os hm h
  exact (List.getElem?_eq_some_iff.1 h1).1

/-- a draw of the machine, by places -/
theorem RegC.order (C : RegC P N mops os idx sp pairs) {mixed : Bool} {t : Nat} : ∃ σ, OrderP (predP mops idx) [] σ ∧ (∀ p, p ∈ σ ↔ p < os.length) ∧ σ.map (fun p => idx.getD p 0) = Region.schedule mixed mops t := by
  have key : ∀ (m : Region.Mode) (t : Nat), ∃ σ, OrderP (predP mops idx) [] σ ∧ (∀ p, p ∈ σ ↔ p < os.length) ∧ σ.map (fun p => idx.getD p 0) = Region.linearise m mops t := by
    intro m t
    obtain ⟨h1, h2⟩ := C.ord m t
    have hat : ∀ i, i ∈ idx → idx[posOf idx i]? = some i := by
      intro i hi
      have hlt : idx.idxOf i < idx.length := List.idxOf_lt_length_iff.2 hi
      unfold posOf
      rw [List.getElem?_eq_getElem hlt, List.getElem_idxOf]
    refine ⟨(Region.linearise m mops t).map (posOf idx), ?_, ?_, ?_⟩
    · exact order_pos C.nodup _ [] h1.toP (fun i hi => (C.mem i).2 ((h2 i).1 hi)) (by simp)
    · intro p
      rw [List.mem_map]
      constructor
      · rintro ⟨i, hi, rfl⟩
        have := (List.getElem?_eq_some_iff.1 (hat i ((C.mem i).2 ((h2 i).1 hi)))).1
        rw [C.len]
        exact this
      · intro hp
        rw [C.len] at hp
        have hi : idx[p] ∈ idx := List.getElem_mem hp
        refine ⟨idx[p], (h2 _).2 ((C.mem _).1 hi), ?_⟩
        have := hat _ hi
        have hlt := (List.getElem?_eq_some_iff.1 this)
        obtain ⟨hl, he⟩ := hlt
        exact (List.getElem_inj C.nodup).1 he
    · rw [List.map_map]
      have : ∀ (l : List Nat), (∀ i ∈ l, i ∈ idx) → l.map ((fun p => idx.getD p 0) ∘ posOf idx) = l := by
        intro l
        induction l with
        | nil => intro _; rfl
        | cons i l ih =>
          intro h
          rw [List.map_cons, ih fun j hj => h j (by simp [hj])]
          have := hat i (h i (by simp))
          simp [List.getD_eq_getElem?_getD, this]
      exact this _ fun i hi => (C.mem i).2 ((h2 i).1 hi)
  unfold Region.schedule
  split
  · exact key _ _
  · exact key _ _

theorem reg_first (R : Rel A B0 w0 g S w) {id : Nat} : ∃ t, step P (lone (fat b tm (.code (.region id mops true) :: k)) cs w) = .next (lone (fat b tm (.inRegion mops (Region.schedule (P.follows .mixedOrders) mops t) :: k)) cs { w with drawn := w.drawn + 1 }) ∧
    Rel A B0 w0 g S { w with drawn := w.drawn + 1 } :=
  ⟨_, st_region_draw, R.later (Below.refl _ _).drew⟩

/-- the whole region in one go: where the run is turned to the machine's order -/
theorem reg_go (hc : CallOK A P cx.cd) (he : ExtOK A P cx.ext) (hN : N ≤ 900000) (C : RegC P N mops os idx sp pairs) (hm : es.map (·.1) = os) {S1 : Sto} {env1 : Env} (henv : ∀ (p : Nat) (o : IOper) (e : Env) (v : AV), es[p]? = some (o, e, v) → e = envD es env (List.range p).reverse)
    (henv1 : env1 = envD es env (List.range os.length).reverse) {σ : List Nat} (hσ : OrderP (predP mops idx) [] σ) (hall : ∀ p, p ∈ σ ↔ p < os.length) (hrun : runE (stE cx base env0 es) (stV es) σ S S1)
    (R : Rel A B0 w0 g S w) (E : ER g S S.length env tm) (ht : tm.size = N) : RegEnds A P B0 w0 N (lone (fat b tm (.inRegion mops (σ.map (fun p => idx.getD p 0)) :: k)) cs w) b k cs g S env1 S1 := by
  obtain ⟨tm', g', w', hs, R', l', n', E', ht', _⟩ := simOps (b := b) (k := k) (cs := cs) (rest := []) (envx := env) hc he hN C.anc C.an_lt (C.ok hm) henv σ [] hσ (by intro i hi; cases hi) hrun (fun _ _ _ _ _ _ _ _ => rfl) R E ht
  rw [List.append_nil] at hs E'
  refine ⟨tm', g', w', Steps.trans hs (.one st_region_end), R', l', n', ?_, ht'⟩
  rw [henv1]
  refine E'.congr fun t => ?_
  refine envD_all (fun p => by rw [List.mem_reverse]; exact hall p) (C.ok hm).dst (fun p t h => stD_lt hm h) t

end
end Go.Wm

set_option linter.unusedVariables false
set_option linter.unusedSimpArgs false
namespace Go.Wm
open Go.RowKit

variable {A : Alike} {P : Program} {B0 : Nat} {w0 w w' : World} {g g' : Sg} {S S' S1 : Sto} {b : Frame} {tm : Array Value} {k : List Item} {cs : List Frame} {env env1 : Env} {cx : Cx}
variable {N base : Nat} {env0 : Env} {mops : Array Oper} {os : List IOper} {idx : List Nat} {sp : Option (Bool × Nat × Nat)} {pairs : List (Nat × Nat)} {es : List (IOper × Env × AV)} {fs : List Fp}

theorem runE_app {E : Nat → Sto → R} {v : Nat → AV} : ∀ {l l' : List Nat} {S S' : Sto}, runE E v (l ++ l') S S' ↔ ∃ T, runE E v l S T ∧ runE E v l' T S'
  | [], l', S, S' => by simp [runE]
  | i :: l, l', S, S' => by
    simp only [List.cons_append, runE]
    constructor
    · rintro ⟨S1, h1, h2⟩
      obtain ⟨T, h3, h4⟩ := runE_app.1 h2
      exact ⟨T, ⟨S1, h1, h3⟩, h4⟩
    · rintro ⟨T, ⟨S1, h1, h3⟩, h4⟩
      exact ⟨S1, h1, runE_app.2 ⟨T, h3, h4⟩⟩
theorem runE_rd {E : Nat → Sto → R} {v : Nat → AV} : ∀ {l : List Nat} {S S' : Sto}, (∀ u ∈ l, ∃ m, Rd m (E u)) → runE E v l S S' → S' = S ∧ ∀ u ∈ l, E u S = some (.ret (v u), S)
  | [], S, S', _, h => ⟨(h : S = S').symm, by simp⟩
  | i :: l, S, S', hr, h => by
    obtain ⟨S1, h1, h2⟩ := h
    obtain ⟨m, hm⟩ := hr i (by simp)
    obtain ⟨rfl, _⟩ := hm S S _ S1 (fun _ _ => rfl) h1
    obtain ⟨h3, h4⟩ := runE_rd (fun u hu => hr u (by simp [hu])) h2
    refine ⟨h3, fun u hu => ?_⟩
    rcases List.mem_cons.1 hu with rfl | hu
    · exact h1
    · exact h4 u hu
theorem runE_still {E : Nat → Sto → R} {v : Nat → AV} : ∀ {l : List Nat} {S : Sto}, (∀ u ∈ l, E u S = some (.ret (v u), S)) → runE E v l S S
  | [], S, _ => rfl
  | i :: l, S, h => ⟨S, h i (by simp), runE_still fun u hu => h u (by simp [hu])⟩

theorem OrderP.app {pred : Nat → Nat → Prop} : ∀ {σ τ done : List Nat}, OrderP pred done (σ ++ τ) ↔ OrderP pred done σ ∧ OrderP pred (σ.reverse ++ done) τ
  | [], τ, done => by simp [OrderP]
  | i :: σ, τ, done => by
    simp only [List.cons_append, OrderP, OrderP.app (σ := σ), List.reverse_cons, List.append_assoc, List.singleton_append, and_assoc]
    exact Iff.rfl
/-- with more that is to be ahead -/
theorem OrderP.add {pred ext : Nat → Nat → Prop} : ∀ {σ done : List Nat}, OrderP pred done σ → (∀ σ1 p σ2, σ = σ1 ++ p :: σ2 → ∀ q, ext q p → q ∈ σ1 ∨ q ∈ done) → OrderP (fun q p => pred q p ∨ ext q p) done σ
  | [], done, _, _ => trivial
  | i :: σ, done, h, hx => by
    obtain ⟨h1, h2, h3⟩ := h
    refine ⟨h1, fun p hp => ?_, OrderP.add h3 fun σ1 p σ2 e q hq => ?_⟩
    · rcases hp with hp | hp
      · exact h2 p hp
      · rcases hx [] i σ rfl p hp with h | h
        · cases h
        · exact h
    · rcases hx (i :: σ1) p σ2 (by rw [e]; rfl) q hq with h | h
      · rcases List.mem_cons.1 h with rfl | h
        · exact .inr (by simp)
        · exact .inl h
      · exact .inr (by simp [h])
theorem OrderP.back {pred : Nat → Nat → Prop} : ∀ {σ1 σ2 done : List Nat} {p q : Nat}, OrderP pred done (σ1 ++ σ2) → p ∈ σ1 → pred q p → q ∈ σ1 ∨ q ∈ done
  | [], σ2, done, p, q, _, h, _ => by cases h
  | i :: σ1, σ2, done, p, q, ho, h, hp => by
    obtain ⟨h1, h2, h3⟩ := ho
    rcases List.mem_cons.1 h with rfl | h
    · exact .inr (h2 q hp)
    · rcases OrderP.back h3 h hp with h | h
      · exact .inl (by simp [h])
      · rcases List.mem_cons.1 h with rfl | h
        · exact .inl (by simp)
        · exact .inr h

theorem range_pw {n s : Nat} {rk : Nat → Nat} {l : List Nat} (hl : l.Pairwise (· < ·)) (h : ∀ a ∈ l, ∀ b ∈ l, a < b → rk a < rk b) : l.Pairwise (fun a b => rk a < rk b) := by
  induction l with
  | nil => exact List.Pairwise.nil
  | cons a l ih =>
    obtain ⟨h1, h2⟩ := List.pairwise_cons.1 hl
    exact List.pairwise_cons.2 ⟨fun b hb => h a (by simp) b (by simp [hb]) (h1 b hb), ih h2 fun x hx y hy => h x (by simp [hx]) y (by simp [hy])⟩

/-- no operation stands beside the order -/
theorem reg_plain (C : RegC P N mops os idx none pairs) (hm : es.map (·.1) = os) (hf : fs = es.map (fun p => fpStep base p.1 p.2.1)) (hp : pairsOk fs pairs = true) (hrun : runE (stE cx base env0 es) (stV es) (List.range os.length) S S1)
    {σ : List Nat} (hσ : OrderP (predP mops idx) [] σ) (hall : ∀ p, p ∈ σ ↔ p < os.length) : runE (stE cx base env0 es) (stV es) σ S S1 :=
  runE_order C.anc (U := fun p => p < os.length) (fun j i hj hi hlt hn => stE_comm (C.apart hm hf hp hlt hi hn rfl)) σ [] (List.range os.length) S S1 hσ (by intro i hi; cases hi) List.pairwise_lt_range
    (fun i => by rw [List.mem_range, hall]) (by simp) (by simp) hrun

theorem stE_rd' (hm : es.map (·.1) = os) {p : Nat} (h : clsAt os p ≤ 1) : ∃ m, Rd m (stE cx base env0 es p) := by
  cases hat : es[p]? with
  | none =>
    refine ⟨[], ?_⟩
    have : stE cx base env0 es p = fun _ => none := by
      funext S
      simp [stE, hat]
    rw [this]
    exact Rd.none
  | some q =>
    obtain ⟨o, e, v⟩ := q
    have hE : stE cx base env0 es p = valOp cx base env0 o e := by
      funext S
      simp [stE, hat]
    have hc : clsOp o.op ≤ 1 := by simpa [clsAt, es_os hm hat] using h
    obtain ⟨l, hl⟩ := fpStep1 (base := base) hc e
    rw [hE]
    exact ⟨l, valOp_fp.1 l hl⟩
theorem stF_rd (hm : es.map (·.1) = os) {p : Nat} (h : clsAt os p ≤ 1) : ∃ l, stF base es p = some (false, l) := by
  unfold stF
  split
  · rename_i o e v hat
    have hc : clsOp o.op ≤ 1 := by simpa [clsAt, es_os hm hat] using h
    exact fpStep1 hc e
  · exact ⟨[], rfl⟩

theorem sameV.out {x y : AV} (h : sameV x y = true) : x = y := by
  cases x <;> cases y <;> simp [sameV] at h <;> simp [h]

/-- operations that read beside a call that may write -/
theorem reg_twin {c m : Nat} (C : RegC P N mops os idx (some (false, c, m)) pairs) (hm : es.map (·.1) = os) (hf : fs = es.map (fun p => fpStep base p.1 p.2.1)) (hp : pairsOk fs pairs = true)
    {Sc S2 : Sto} (h1 : runE (stE cx base env0 es) (stV es) (List.range c) S Sc) (h2 : stE cx base env0 es c Sc = some (.ret (stV es c), S2)) (h3 : runE (stE cx base env0 es) (stV es) (List.range' (c + 1) (os.length - (c + 1))) S2 S1)
    (ht : ∀ u, c ≤ u + m → u < c → stE cx base env0 es u S2 = some (.ret (stV es u), S2))
    {σ : List Nat} (hσ : OrderP (predP mops idx) [] σ) (hall : ∀ p, p ∈ σ ↔ p < os.length) : runE (stE cx base env0 es) (stV es) σ S S1 := by
  have hsp := C.spc
  simp only [spB, Bool.and_eq_true, decide_eq_true_eq] at hsp
  obtain ⟨⟨hmc, hcn⟩, hu⟩ := hsp
  have hU : ∀ u, c ≤ u + m → u < c → ¬ AnP mops idx u c ∧ clsAt os u ≤ 1 := by
    intro u ha hb
    have := List.all_eq_true.1 hu u (by simp; omega)
    simp only [ha, hb, decide_true, Bool.and_self, Bool.not_true, Bool.false_or, Bool.and_eq_true, Bool.not_eq_true', decide_eq_true_eq] at this
    refine ⟨fun h => ?_, this.1.2⟩
    have h' : bitB (masks mops idx idx []) c u = true := h
    rw [this.1.1] at h'
    cases h'
  obtain ⟨σ1, σ2, rfl⟩ := List.append_of_mem ((hall c).2 hcn)
  have hnd := hσ.nodup.1
  have hc1 : c ∉ σ1 := fun h => (List.nodup_append.1 hnd).2.2 c h c (by simp) rfl
  let Ua : Nat → Prop := fun p => c ≤ p + m ∧ p < c ∧ p ∉ σ1
  let ub : List Nat := (List.range' (c - m) m).filter fun p => σ1.contains p
  let ua : List Nat := (List.range' (c - m) m).filter fun p => !σ1.contains p
  let rk : Nat → Nat := fun p => if c ≤ p + m ∧ p < c ∧ p ∉ σ1 then os.length + p else if c < p then 2 * os.length + p else p
  let ext : Nat → Nat → Prop := fun q p => (p = c ∧ c ≤ q + m ∧ q < c ∧ q ∈ σ1) ∨ (q = c ∧ c ≤ p + m ∧ p < c ∧ p ∉ σ1)
  have hub : ∀ p, p ∈ ub ↔ c ≤ p + m ∧ p < c ∧ p ∈ σ1 := by
    intro p
    simp only [ub, List.mem_filter, List.mem_range'_1, List.contains_iff_mem]
    constructor
    · rintro ⟨⟨a, b⟩, h⟩; exact ⟨by omega, by omega, h⟩
    · rintro ⟨a, b, h⟩; exact ⟨⟨by omega, by omega⟩, h⟩
  have hua : ∀ p, p ∈ ua ↔ c ≤ p + m ∧ p < c ∧ p ∉ σ1 := by
    intro p
    simp only [ua, List.mem_filter, List.mem_range'_1, Bool.not_eq_true']
    constructor
    · rintro ⟨⟨a, b⟩, h⟩
      refine ⟨by omega, by omega, fun h' => ?_⟩
      rw [List.contains_iff_mem.2 h'] at h
      cases h
    · rintro ⟨a, b, h⟩
      refine ⟨⟨by omega, by omega⟩, ?_⟩
      cases hb : σ1.contains p with
      | false => rfl
      | true => exact absurd (List.contains_iff_mem.1 hb) h
  have hrkua : ∀ p, c ≤ p + m → p < c → p ∉ σ1 → rk p = os.length + p := fun p a b h => if_pos ⟨a, b, h⟩
  have hrkpost : ∀ p, c < p → rk p = 2 * os.length + p := fun p a => by
    show (if _ then _ else if _ then _ else _) = _
    rw [if_neg (by omega), if_pos a]
  have hrkpre : ∀ p, p ≤ c → ¬ (c ≤ p + m ∧ p < c ∧ p ∉ σ1) → rk p = p := fun p a h => by
    show (if _ then _ else if _ then _ else _) = _
    rw [if_neg h, if_neg (by omega)]
  have hrkge : ∀ p, p ≤ rk p := by
    intro p
    show p ≤ (if _ then _ else if _ then _ else _)
    split
    · exact Nat.le_add_left _ _
    · split
      · exact Nat.le_add_left _ _
      · exact Nat.le_refl _
  have hrkc : rk c = c := hrkpre c (Nat.le_refl _) (by omega)
  have hanc : Anc (fun q p => predP mops idx q p ∨ ext q p) (fun j i => AnP mops idx j i ∨ ext j i) rk := by
    refine ⟨fun j i h => ?_, fun q p h => ?_⟩
    · rcases h with h | h
      · obtain ⟨p, h4, h5⟩ := C.anc.a j i h
        exact ⟨p, .inl h4, h5.imp id .inl⟩
      · exact ⟨j, .inr h, .inl rfl⟩
    · rcases h with h | h
      · have hlt := C.fwd q p h
        by_cases hqa : c ≤ q + m ∧ q < c ∧ q ∉ σ1
        · rw [hrkua q hqa.1 hqa.2.1 hqa.2.2]
          by_cases hpa : c ≤ p + m ∧ p < c ∧ p ∉ σ1
          · rw [hrkua p hpa.1 hpa.2.1 hpa.2.2]; omega
          · rcases Nat.lt_or_ge c p with hcp | hcp
            · rw [hrkpost p hcp]; omega
            · rcases Nat.lt_or_ge p c with hpc | hpc
              · have hp1 : p ∈ σ1 := Classical.byContradiction fun h' => hpa ⟨by omega, hpc, h'⟩
                rcases OrderP.back hσ hp1 h with h' | h'
                · exact absurd h' hqa.2.2
                · cases h'
              · have : p = c := by omega
                subst this
                exact absurd (AnP_pred C.fwd h) (hU q hqa.1 hqa.2.1).1
        · rcases Nat.lt_or_ge c q with hcq | hcq
          · rw [hrkpost q hcq, hrkpost p (by omega)]; omega
          · rw [hrkpre q hcq hqa]
            exact Nat.lt_of_lt_of_le hlt (hrkge p)
      · rcases h with ⟨rfl, ha, hb, hc'⟩ | ⟨rfl, ha, hb, hc'⟩
        · rw [hrkc, hrkpre q (by omega) (fun h => h.2.2 hc')]
          exact hb
        · rw [hrkc, hrkua p ha hb hc']
          omega
  have hσ' : OrderP (fun q p => predP mops idx q p ∨ ext q p) [] (σ1 ++ c :: σ2) := by
    refine hσ.add fun τ1 p τ2 e q hx => .inl ?_
    rcases hx with ⟨rfl, ha, hb, hc'⟩ | ⟨rfl, ha, hb, hc'⟩
    · -- what is ahead of the call
      have : τ1 = σ1 := by
        have hnd' := hnd
        rw [e] at hnd'
        have h5 : p ∉ τ1 := fun h => (List.nodup_append.1 hnd').2.2 p h p (by simp) rfl
        have : ∀ (l l' r r' : List Nat), p ∉ l → p ∉ l' → l ++ p :: r = l' ++ p :: r' → l = l' := by
          intro l
          induction l with
          | nil =>
            intro l' r r' _ h' e
            cases l' with
            | nil => rfl
            | cons x l' => simp at e; exact absurd e.1 (by rintro rfl; exact h' (by simp))
          | cons x l ih =>
            intro l' r r' h h' e
            cases l' with
            | nil => simp at e; exact absurd e.1.symm (by rintro rfl; exact h (by simp))
            | cons y l' =>
              simp only [List.cons_append, List.cons.injEq] at e
              rw [e.1, ih l' r r' (fun hh => h (by simp [hh])) (fun hh => h' (by simp [hh])) e.2]
        exact this _ _ _ _ h5 hc1 e.symm
      rw [this]
      exact hc'
    · -- what is behind the call
      have hnd' := hnd
      rw [e] at hnd'
      refine Classical.byContradiction fun hn => ?_
      have hq2 : q ∈ p :: τ2 := by
        have : q ∈ τ1 ++ p :: τ2 := by rw [← e]; simp
        rcases List.mem_append.1 this with h | h
        · exact absurd h hn
        · exact h
      have hp1 : ∀ (l l' r r' : List Nat), q ∉ l → p ≠ q → l ++ p :: r = l' ++ q :: r' → p ∈ l' := by
        intro l
        induction l with
        | nil =>
          intro l' r r' _ hne e
          cases l' with
          | nil => simp at e; exact absurd e.1 hne
          | cons x l' => simp at e; simp [e.1]
        | cons x l ih =>
          intro l' r r' h hne e
          cases l' with
          | nil => simp at e; exact absurd e.1 (by rintro rfl; exact h (by simp))
          | cons y l' =>
            simp only [List.cons_append, List.cons.injEq] at e
            exact List.mem_cons_of_mem _ (ih l' r r' (fun hh => h (by simp [hh])) hne e.2)
      exact hc' (hp1 τ1 σ1 τ2 σ2 hn (by omega) e.symm)
  refine runE_order hanc (U := fun p => p < os.length) ?_ (σ1 ++ c :: σ2) [] (List.range (c - m) ++ (ub ++ (c :: (ua ++ List.range' (c + 1) (os.length - (c + 1)))))) S S1 hσ' (by intro i hi; cases hi) ?_ ?_ (by simp) ?_ ?_
  · intro j i hj hi hlt hn
    have hn1 : ¬ AnP mops idx j i := fun h => hn (.inl h)
    have hn2 : ¬ ext j i := fun h => hn (.inr h)
    rcases Nat.lt_or_ge j i with hji | hji
    · refine stE_comm (C.apart hm hf hp hji hi hn1 ?_)
      cases hx : exemptB (some (false, c, m)) j i with
      | false => rfl
      | true =>
        simp only [exemptB, Bool.and_eq_true, beq_iff_eq, decide_eq_true_eq] at hx
        obtain ⟨rfl, hx⟩ := hx
        by_cases hj1 : j ∈ σ1
        · exact absurd (.inl ⟨rfl, hx, hji, hj1⟩) hn2
        · rw [hrkua j hx hji hj1, hrkc] at hlt
          omega
    · have hne : j ≠ i := by rintro rfl; omega
      by_cases hia : c ≤ i + m ∧ i < c ∧ i ∉ σ1
      · have hjc : j ≤ c := by
          refine Classical.byContradiction fun h => ?_
          rw [hrkpost j (by omega), hrkua i hia.1 hia.2.1 hia.2.2] at hlt
          omega
        have hjc' : j ≠ c := by
          rintro rfl
          exact hn2 (.inr ⟨rfl, hia⟩)
        have h5 := stF_rd (base := base) hm (hU j (by omega) (by omega)).2
        have h6 := stF_rd (base := base) hm (hU i hia.1 hia.2.1).2
        exact stE_comm (apart1 ⟨h5, h6⟩)
      · rcases Nat.lt_or_ge c i with hci | hci
        · rw [hrkpost j (by omega), hrkpost i hci] at hlt
          omega
        · rw [hrkpre i hci hia] at hlt
          have := hrkge j
          omega
  · refine List.pairwise_append.2 ⟨range_pw (n := 0) (s := 0) List.pairwise_lt_range fun a ha b hb hab => ?_, List.pairwise_append.2 ⟨range_pw (n := 0) (s := 0) ((List.pairwise_lt_range' ).filter _) fun a ha b hb hab => ?_, List.pairwise_cons.2 ⟨fun x hx => ?_, List.pairwise_append.2 ⟨range_pw (n := 0) (s := 0) ((List.pairwise_lt_range').filter _) fun a ha b hb hab => ?_,
      range_pw (n := 0) (s := 0) (List.pairwise_lt_range') fun a ha b hb hab => ?_, fun x hx y hy => ?_⟩⟩, fun x hx y hy => ?_⟩, fun x hx y hy => ?_⟩
    · have ha := List.mem_range.1 ha
      have hb := List.mem_range.1 hb
      rw [hrkpre a (by omega) (by omega), hrkpre b (by omega) (by omega)]
      exact hab
    · have ha := (hub a).1 ha
      have hb := (hub b).1 hb
      rw [hrkpre a (by omega) (fun h => h.2.2 ha.2.2), hrkpre b (by omega) (fun h => h.2.2 hb.2.2)]
      exact hab
    · rw [hrkc]
      rcases List.mem_append.1 hx with hx | hx
      · have hx := (hua x).1 hx
        rw [hrkua x hx.1 hx.2.1 hx.2.2]
        omega
      · have hx := List.mem_range'_1.1 hx
        rw [hrkpost x (by omega)]
        omega
    · have ha := (hua a).1 ha
      have hb := (hua b).1 hb
      rw [hrkua a ha.1 ha.2.1 ha.2.2, hrkua b hb.1 hb.2.1 hb.2.2]
      omega
    · have ha := List.mem_range'_1.1 ha
      have hb := List.mem_range'_1.1 hb
      rw [hrkpost a (by omega), hrkpost b (by omega)]
      omega
    · have hx := (hua x).1 hx
      have hy := List.mem_range'_1.1 hy
      rw [hrkua x hx.1 hx.2.1 hx.2.2, hrkpost y (by omega)]
      omega
    · have hx := (hub x).1 hx
      rw [hrkpre x (by omega) (fun h => h.2.2 hx.2.2)]
      rcases List.mem_cons.1 hy with rfl | hy
      · rw [hrkc]; omega
      · rcases List.mem_append.1 hy with hy | hy
        · have hy := (hua y).1 hy
          rw [hrkua y hy.1 hy.2.1 hy.2.2]
          omega
        · have hy := List.mem_range'_1.1 hy
          rw [hrkpost y (by omega)]
          omega
    · have hx := List.mem_range.1 hx
      rw [hrkpre x (by omega) (by omega)]
      rcases List.mem_append.1 hy with hy | hy
      · have hy := (hub y).1 hy
        rw [hrkpre y (by omega) (fun h => h.2.2 hy.2.2)]
        omega
      · rcases List.mem_cons.1 hy with rfl | hy
        · rw [hrkc]; omega
        · rcases List.mem_append.1 hy with hy | hy
          · have hy := (hua y).1 hy
            rw [hrkua y hy.1 hy.2.1 hy.2.2]
            omega
          · have hy := List.mem_range'_1.1 hy
            rw [hrkpost y (by omega)]
            omega
  · intro i
    rw [hall i]
    simp only [List.mem_append, List.mem_cons, List.mem_range, List.mem_range'_1, hub, hua]
    constructor
    · rintro (h | h | h | h | h) <;> omega
    · intro h
      by_cases h4 : i < c - m
      · exact .inl h4
      · by_cases h5 : i < c
        · by_cases h6 : i ∈ σ1
          · exact .inr (.inl ⟨by omega, h5, h6⟩)
          · exact .inr (.inr (.inr (.inl ⟨by omega, h5, h6⟩)))
        · by_cases h6 : i = c
          · exact .inr (.inr (.inl h6))
          · exact .inr (.inr (.inr (.inr ⟨by omega, by omega⟩)))
  · intro i hi
    simp only [List.mem_append, List.mem_cons, List.mem_range, List.mem_range'_1, hub, hua] at hi
    rcases hi with h | h | h | h | h <;> omega
  · have hsplit : List.range c = List.range (c - m) ++ List.range' (c - m) m := by
      rw [List.range_eq_range', List.range_eq_range']
      have := List.range'_append_1 (s := 0) (m := c - m) (n := m)
      rw [Nat.zero_add] at this
      rw [this]
      congr 1
      omega
    rw [hsplit] at h1
    obtain ⟨T, h4, h5⟩ := runE_app.1 h1
    obtain ⟨rfl, h6⟩ := runE_rd (fun u hu => by
      have hu := List.mem_range'_1.1 hu
      exact stE_rd' hm (hU u (by omega) (by omega)).2) h5
    refine runE_app.2 ⟨_, h4, runE_app.2 ⟨_, runE_still fun u hu => ?_, ⟨S2, h2, runE_app.2 ⟨S2, runE_still fun u hu => ?_, h3⟩⟩⟩⟩
    · have hu := (hub u).1 hu
      exact h6 u (by rw [List.mem_range'_1]; omega)
    · have hu := (hua u).1 hu
      exact ht u hu.1 hu.2.1

end Go.Wm

set_option linter.unusedVariables false
set_option linter.unusedSimpArgs false
namespace Go.Wm
open Go.RowKit

variable {A : Alike} {P : Program} {B0 : Nat} {w0 w w' : World} {g g' : Sg} {S S' S1 : Sto} {b : Frame} {tm : Array Value} {k : List Item} {cs : List Frame} {env env1 : Env} {cx : Cx}
variable {N base : Nat} {env0 : Env} {mops : Array Oper} {os : List IOper} {idx : List Nat} {sp : Option (Bool × Nat × Nat)} {pairs : List (Nat × Nat)} {es : List (IOper × Env × AV)} {fs : List Fp}

theorem OrderP.congr {pred : Nat → Nat → Prop} : ∀ {l D D' : List Nat}, (∀ x, x ∈ D ↔ x ∈ D') → OrderP pred D l → OrderP pred D' l
  | [], _, _, _, _ => trivial
  | i :: l, D, D', h, ⟨h1, h2, h3⟩ => ⟨fun hi => h1 ((h i).2 hi), fun p hp => (h p).1 (h2 p hp), OrderP.congr (fun x => by simp [h x]) h3⟩
theorem OrderP.dropDone {pred : Nat → Nat → Prop} {a : Nat} : ∀ {l D : List Nat}, (∀ p ∈ l, ¬ pred a p) → OrderP pred (a :: D) l → OrderP pred D l
  | [], _, _, _ => trivial
  | i :: l, D, hn, ⟨h1, h2, h3⟩ => by
    refine ⟨fun hi => h1 (by simp [hi]), fun p hp => ?_, OrderP.dropDone (a := a) (fun p hp => hn p (by simp [hp])) (h3.congr fun x => by simp only [List.mem_cons]; constructor <;> (rintro (h | h | h) <;> simp [h]))⟩
    rcases List.mem_cons.1 (h2 p hp) with rfl | h
    · exact absurd hp (hn i (by simp))
    · exact h
theorem OrderP.closed {pred : Nat → Nat → Prop} : ∀ {σ done : List Nat}, OrderP pred done σ → Closed pred done → Closed pred (σ.reverse ++ done)
  | [], done, _, hc => by simpa using hc
  | i :: σ, done, ⟨h1, h2, h3⟩, hc => by
    have := OrderP.closed h3 (hc.cons h2)
    simpa using this

/-- more memory waits -/
theorem Rel.wait (R : Rel A B0 w0 g S w) {r : Nat} {o : Obj} (h1 : B0 ≤ r) (h2 : w.heap[r]? = some o) (h3 : g.h r = none) (h4 : ∀ b s, S.sig b ≠ none → g.m b ≠ some (r, s)) : Rel A B0 w0 { g with q := (r, o) :: g.q } S w where
  below := R.below
  room := R.room
  him := R.him
  low := R.low
  blk b x hx := BR.congr (g := g) (g' := { g with q := (r, o) :: g.q }) rfl rfl (R.blk b x hx)
  inj := R.inj
  q p hp := by
    rcases List.mem_cons.1 hp with rfl | hp
    · exact ⟨h1, h2, h3, h4⟩
    · exact R.q p hp

theorem ER.congrG {kk : Nat} {e1 : Env} (hh : g'.h = g.h) (hm : g'.m = g.m) (E : ER g S kk e1 tm) : ER g' S kk e1 tm := fun t ht => V.congr hh hm _ _ (E t ht)

theorem reg_late (hc : CallOK A P cx.cd) (he : ExtOK A P cx.ext) (hN : N ≤ 900000) {c a : Nat} (C : RegC P N mops os idx (some (true, c, a)) pairs) (hm : es.map (·.1) = os) (hf : fs = es.map (fun p => fpStep base p.1 p.2.1)) (hp : pairsOk fs pairs = true)
    (henv : ∀ (p : Nat) (o : IOper) (e : Env) (v : AV), es[p]? = some (o, e, v) → e = envD es env (List.range p).reverse) (henv1 : env1 = envD es env (List.range os.length).reverse)
    (hrun : runE (stE cx base env0 es) (stV es) (List.range os.length) S S1) {σ : List Nat} (hσ : OrderP (predP mops idx) [] σ) (hall : ∀ p, p ∈ σ ↔ p < os.length)
    (R : Rel A B0 w0 g S w) (E : ER g S S.length env tm) (ht : tm.size = N) : RegEnds A P B0 w0 N (lone (fat b tm (.inRegion mops (σ.map (fun p => idx.getD p 0)) :: k)) cs w) b k cs g S env1 S1 := by
  have hsp := C.spc
  simp only [spB, Bool.and_eq_true, decide_eq_true_eq] at hsp
  obtain ⟨⟨hca, han⟩, hsp⟩ := hsp
  cases hoa : os[a]? with
  | none => rw [hoa] at hsp; cases hsp
  | some oa =>
  rw [hoa] at hsp
  simp only [Bool.and_eq_true] at hsp
  obtain ⟨⟨⟨⟨hal, hgu⟩, hxs⟩, hds⟩, hdep⟩ := hsp
  obtain ⟨d, hd⟩ := Option.isSome_iff_exists.1 hds
  have hbehind : ∀ p, p < os.length → p ≠ a → AnP mops idx a p → AnP mops idx c p := by
    intro p hpl hne hA
    have := List.all_eq_true.1 hdep p (by simpa using hpl)
    simp only [Bool.or_eq_true, beq_iff_eq, Bool.not_eq_true'] at this
    rcases this with (h | h) | h
    · exact absurd h hne
    · have h' : bitB (masks mops idx idx []) p a = true := hA
      rw [h] at h'
      cases h'
    · exact h
  let ext : Nat → Nat → Prop := fun q p => q = c ∧ p = a
  have hanc : Anc (fun q p => predP mops idx q p ∨ ext q p) (fun j i => AnP mops idx j i ∨ ext j i) id := by
    refine ⟨fun j i h => ?_, fun q p h => ?_⟩
    · rcases h with h | h
      · obtain ⟨p, h4, h5⟩ := C.anc.a j i h
        exact ⟨p, .inl h4, h5.imp id .inl⟩
      · exact ⟨j, .inr h, .inl rfl⟩
    · rcases h with h | ⟨rfl, rfl⟩
      · exact C.fwd q p h
      · exact hca
  have turn : ∀ τ, OrderP (fun q p => predP mops idx q p ∨ ext q p) [] τ → (∀ p, p ∈ τ ↔ p < os.length) → runE (stE cx base env0 es) (stV es) τ S S1 := by
    intro τ hτ hτa
    refine runE_order hanc (U := fun p => p < os.length) (fun j i hj hi hlt hn => stE_comm (C.apart hm hf hp hlt hi (fun h => hn (.inl h)) ?_)) τ [] (List.range os.length) S S1 hτ (by intro i hi; cases hi) List.pairwise_lt_range
      (fun i => by rw [List.mem_range, hτa]) (by simp) (by simp) hrun
    show exemptB (some (true, c, a)) j i = false
    cases hx : exemptB (some (true, c, a)) j i with
    | false => rfl
    | true =>
      simp only [exemptB, Bool.and_eq_true, beq_iff_eq] at hx
      exact absurd (.inr hx) hn
  obtain ⟨σ1, σ2, rfl⟩ := List.append_of_mem ((hall a).2 han)
  have hnd := hσ.nodup.1
  have ha1 : a ∉ σ1 := fun h => (List.nodup_append.1 hnd).2.2 a h a (by simp) rfl
  have ha2 : a ∉ σ2 := (List.nodup_cons.1 (List.nodup_append.1 hnd).2.1).1
  by_cases hc1 : c ∈ σ1
  · refine reg_go hc he hN C hm henv henv1 hσ hall (turn _ (hσ.add fun τ1 p τ2 e q hx => .inl ?_) hall) R E ht
    obtain ⟨rfl, rfl⟩ := hx
    have hnd' := hnd
    rw [e] at hnd'
    have h5 : p ∉ τ1 := fun h => (List.nodup_append.1 hnd').2.2 p h p (by simp) rfl
    have : ∀ (l l' r r' : List Nat), p ∉ l → p ∉ l' → l ++ p :: r = l' ++ p :: r' → l = l' := by
      intro l
      induction l with
      | nil =>
        intro l' r r' _ h' e
        cases l' with
        | nil => rfl
        | cons x l' => simp at e; exact absurd e.1 (by rintro rfl; exact h' (by simp))
      | cons x l ih =>
        intro l' r r' h h' e
        cases l' with
        | nil => simp at e; exact absurd e.1.symm (by rintro rfl; exact h (by simp))
        | cons y l' =>
          simp only [List.cons_append, List.cons.injEq] at e
          rw [e.1, ih l' r r' (fun hh => h (by simp [hh])) (fun hh => h' (by simp [hh])) e.2]
    rw [this τ1 σ1 τ2 σ2 h5 ha1 e.symm]
    exact hc1
  · -- the variable is made ahead of the call
    have hc2 : c ∈ σ2 := by
      have := (hall c).2 (by omega)
      rcases List.mem_append.1 this with h | h
      · exact absurd h hc1
      · rcases List.mem_cons.1 h with h | h
        · omega
        · exact h
    obtain ⟨mid, post, rfl⟩ := List.append_of_mem hc2
    obtain ⟨hσ1, hσ2⟩ := OrderP.app.1 hσ
    obtain ⟨haD, hapre, hσ3⟩ := hσ2
    rw [List.append_nil] at haD hapre hσ3
    obtain ⟨hσ4, hσ5⟩ := OrderP.app.1 hσ3
    obtain ⟨hcD, hcpre, hσ6⟩ := hσ5
    have hcl1 : Closed (predP mops idx) σ1.reverse := by simpa using hσ1.closed (by intro i hi; cases hi)
    have hcla : Closed (predP mops idx) (a :: σ1.reverse) := hcl1.cons hapre
    have hnm : ∀ p ∈ mid ++ [c], p ∉ σ1 ∧ p ≠ a ∧ p < os.length := by
      intro p hp
      have hp' : p ∈ mid ++ c :: post := by
        rcases List.mem_append.1 hp with h | h
        · simp [h]
        · simp at h; simp [h]
      refine ⟨fun h => (List.nodup_append.1 hnd).2.2 p h p (List.mem_cons_of_mem _ hp') rfl, fun h => ha2 (h ▸ hp'), (hall p).1 (List.mem_append_right _ (List.mem_cons_of_mem _ hp'))⟩
    have hnoA : ∀ p ∈ mid ++ [c], ¬ AnP mops idx a p := by
      intro p hp hA
      obtain ⟨h1, h2, h3⟩ := hnm p hp
      have hcp := hbehind p h3 h2 hA
      have hcne : p ≠ c := by
        rintro rfl
        exact absurd (C.an_lt _ _ hcp) (Nat.lt_irrefl _)
      have hpm : p ∈ mid := by
        rcases List.mem_append.1 hp with h | h
        · exact h
        · simp at h; exact absurd h hcne
      obtain ⟨m1, m2, rfl⟩ := List.append_of_mem hpm
      obtain ⟨h5, h6⟩ := OrderP.app.1 hσ4
      have hd5 := h5.closed hcla
      have := C.anc.done hd5 _ p c rfl h6.2.1 hcp
      rcases List.mem_append.1 this with h | h
      · exact hcD (by simp only [List.reverse_append, List.reverse_cons]; simp at h; simp [h])
      · rcases List.mem_cons.1 h with h | h
        · omega
        · exact hc1 (by simpa using h)
    have hnoP : ∀ p ∈ mid ++ [c], ¬ predP mops idx a p := fun p hp h => hnoA p hp (AnP_pred C.fwd h)
    have hmc : OrderP (predP mops idx) σ1.reverse (mid ++ [c]) := by
      refine OrderP.dropDone (a := a) hnoP (OrderP.app.2 ⟨hσ4, hcD, hcpre, trivial⟩)
    have hpost : OrderP (predP mops idx) (a :: ((mid ++ [c]).reverse ++ σ1.reverse)) post := by
      refine hσ6.congr fun x => ?_
      simp only [List.reverse_append, List.reverse_cons, List.reverse_nil, List.nil_append, List.mem_cons, List.mem_append, List.mem_reverse, List.singleton_append, List.cons_append]
      constructor
      · rintro (h | h | h | h) <;> simp [h]
      · rintro (h | h | h | h) <;> simp [h]
    have hτP : OrderP (predP mops idx) [] (σ1 ++ ((mid ++ [c]) ++ a :: post)) := by
      refine OrderP.app.2 ⟨hσ1, ?_⟩
      rw [List.append_nil]
      refine OrderP.app.2 ⟨hmc, ?_, ?_, hpost⟩
      · intro h
        rcases List.mem_append.1 h with h | h
        · exact (hnm a (List.mem_reverse.1 h)).2.1 rfl
        · exact haD h
      · intro p hp
        exact List.mem_append_right _ (hapre p hp)
    have hτmem : ∀ p, p ∈ σ1 ++ ((mid ++ [c]) ++ a :: post) ↔ p < os.length := by
      intro p
      rw [← hall p]
      simp only [List.mem_append, List.mem_cons, List.mem_singleton]
      grind
    have hτ : OrderP (fun q p => predP mops idx q p ∨ ext q p) [] (σ1 ++ ((mid ++ [c]) ++ a :: post)) := by
      refine hτP.add fun τ1 p τ2 e q hx => .inl ?_
      obtain ⟨rfl, rfl⟩ := hx
      have hnd' := hτP.nodup.1
      have hnd2 := hnd'
      rw [e] at hnd2
      have h5 : p ∉ τ1 := fun h => (List.nodup_append.1 hnd2).2.2 p h p (by simp) rfl
      have h6 : p ∉ σ1 ++ (mid ++ [q]) := by
        intro h
        rcases List.mem_append.1 h with h | h
        · exact ha1 h
        · exact (hnm p h).2.1 rfl
      have : ∀ (l l' r r' : List Nat), p ∉ l → p ∉ l' → l ++ p :: r = l' ++ p :: r' → l = l' := by
        intro l
        induction l with
        | nil =>
          intro l' r r' _ h' e
          cases l' with
          | nil => rfl
          | cons x l' => simp at e; exact absurd e.1 (by rintro rfl; exact h' (by simp))
        | cons x l ih =>
          intro l' r r' h h' e
          cases l' with
          | nil => simp at e; exact absurd e.1.symm (by rintro rfl; exact h (by simp))
          | cons y l' =>
            simp only [List.cons_append, List.cons.injEq] at e
            rw [e.1, ih l' r r' (fun hh => h (by simp [hh])) (fun hh => h' (by simp [hh])) e.2]
      rw [this τ1 (σ1 ++ (mid ++ [q])) τ2 post h5 h6 (by rw [← e]; simp)]
      simp
    obtain ⟨Ta, hr1, hr2⟩ := runE_app.1 (turn _ hτ hτmem)
    obtain ⟨Tc, hr3, Td, hr4, hr5⟩ := runE_app.1 hr2
    -- what is ahead of the variable
    have hRO := C.ok hm
    obtain ⟨tm1, g1, w1, s1, R1, l1, n1, E1, t1, st1⟩ := simOps (b := b) (k := k) (cs := cs) (rest := (a :: (mid ++ c :: post)).map (fun p => idx.getD p 0)) (envx := env) hc he hN C.anc C.an_lt hRO henv σ1 [] hσ1 (by intro i hi; cases hi) hr1 (fun _ _ _ _ _ _ _ _ => rfl) R E ht
    rw [List.append_nil] at E1
    -- the variable
    obtain ⟨ia, ma, hia, hma, hok, hspec⟩ := C.op a oa hoa
    have hixa : idx.getD a 0 = ia := by simp [List.getD_eq_getElem?_getD, hia]
    obtain ⟨hdst, _⟩ := okOper.dst_eq hok
    have hlate := C.late
    simp only [lateB, hoa, hia, Option.bind_some, hma] at hlate
    obtain ⟨sa, ta, zero, hop, hmop, hz, hmg⟩ : ∃ s t z, oa.op = .alloc s t z ∧ ma.op = .alloc t ∧ zeroOk P t z = true ∧ ma.guard = none := by
      split at hlate
      · rename_i s t z t' e1 e2
        simp only [Bool.and_eq_true, beq_iff_eq] at hlate
        obtain ⟨⟨rfl, h6⟩, h7⟩ := hlate
        exact ⟨s, t, z, e1, e2, h6, by simpa using h7⟩
      · cases hlate
    have hga : oa.guard = none := by cases hq : oa.guard with | none => rfl | some _ => rw [hq] at hgu; cases hgu
    obtain ⟨ii, zz, hii, hzz, hzc⟩ := zeroOk.out hz
    have halloc : (execOp (ev tm1) ma).run P w1 = .ok (.value (.pointer (some ⟨w1.heap.size, 0, none⟩))) (w1.alloc (.cells zz.cells ta)) := by
      have h0 : (do pure (.pointer (some (← newRow ta zz.cells))) : Sem Value).run P w1 = .ok (.pointer (some ⟨w1.heap.size, 0, none⟩)) (w1.alloc (.cells zz.cells ta)) := rfl
      have h1 : (Instr.alloc ta true (.tuple #[])).run P w1 = .ok (.pointer (some ⟨w1.heap.size, 0, none⟩)) (w1.alloc (.cells zz.cells ta)) := by
        rw [← h0]
        simp [Instr.alloc, run_zeroValue hii hzz, Result.andThen, newVar]
      unfold execOp
      rw [hmop]
      simp [h1, Result.andThen]
    have hmd : ma.dst = some d := hdst.trans hd
    have sa2 : step P (lone (fat b tm1 (.inRegion mops ((a :: (mid ++ c :: post)).map (fun p => idx.getD p 0)) :: k)) cs w1) =
        .next (lone (fat b (putT tm1 ma.dst (.pointer (some ⟨w1.heap.size, 0, none⟩))) (.inRegion mops ((mid ++ c :: post).map (fun p => idx.getD p 0)) :: k)) cs (w1.alloc (.cells zz.cells ta))) := by
      rw [List.map_cons, hixa]
      exact st_op hma (by simp [Region.wanted, hmg]) (.inr fun c e => by rw [hmop] at e; cases e) (.inl halloc)
    have hbel : Below w1.heap.size w1 (w1.alloc (.cells zz.cells ta)) := (Below.refl _ _).alloc (Nat.le_refl _) _
    have R2 : Rel A B0 w0 { g1 with q := (w1.heap.size, .cells zz.cells ta) :: g1.q } Ta (w1.alloc (.cells zz.cells ta)) := by
      refine (R1.later hbel).wait R1.room (heap_alloc_new w1 _) ?_ ?_
      · cases hh : g1.h w1.heap.size with
        | none => rfl
        | some x =>
          obtain ⟨t', fz, h⟩ := R1.him _ _ hh
          have := (Array.getElem?_eq_some_iff.1 h).1
          omega
      · intro b' s' h5 h6
        have := R1.there h5 h6
        omega
    have hsta : stD es a = some d := by
      have hlt : a < es.length := by rw [← hm] at han; simpa using han
      have hat := List.getElem?_eq_getElem hlt
      have := es_os (o := es[a].1) (e := es[a].2.1) (v := es[a].2.2) hm hat
      rw [hoa] at this
      cases this
      simp only [stD, hat]
      exact hd
    have honly : ∀ p, stD es p = some d → p = a := fun p h => hRO.dst a p d hsta h
    have hdN : d < N := by
      obtain ⟨_, h⟩ := okOper.dst_eq hok
      rw [hd] at h
      simpa [dstOk] using h
    have hstart : ∀ (e1 e2 : Env) (t : Nat), e1.get t = e2.get t → ∀ D, (envD es e1 D).get t = (envD es e2 D).get t := by
      intro e1 e2 t h D
      induction D with
      | nil => exact h
      | cons p D ih => simp only [envD, Env.get_put]; rw [ih]
    have hxget : ∀ t, t ≠ d → Env.get ((d, AV.any) :: env) t = env.get t := fun t h => by rw [Env.get_cons, if_neg h]
    have hputT : ∀ t, t ≠ d → (putT tm1 ma.dst (.pointer (some ⟨w1.heap.size, 0, none⟩))).getD t undef = tm1.getD t undef := by
      intro t h
      rw [hmd]
      simp only [putT]
      rw [Array.getD_eq_getD_getElem?, Array.getD_eq_getD_getElem?, Array.getElem?_setIfInBounds_ne (fun e => h e.symm)]
    have E2 : ER { g1 with q := (w1.heap.size, .cells zz.cells ta) :: g1.q } Ta Ta.length (envD es ((d, AV.any) :: env) σ1.reverse) (putT tm1 ma.dst (.pointer (some ⟨w1.heap.size, 0, none⟩))) := by
      intro t htl
      by_cases h : t = d
      · subst h
        rw [envD_out fun p hp hpt => ha1 (by rw [← honly p hpt]; simpa using hp), Env.get_cons, if_pos rfl]
        simp [V]
      · rw [hputT t h, hstart _ _ t (hxget t h)]
        exact V.congr (g := g1) (g' := { g1 with q := (w1.heap.size, .cells zz.cells ta) :: g1.q }) rfl rfl _ _ (E1 t htl)
    have huse : ∀ p ∈ mid ++ [c], ∀ (o : IOper) (e : Env) (v : AV), es[p]? = some (o, e, v) → ∀ t ∈ uses o, Env.get ((d, AV.any) :: env) t = env.get t := by
      intro p hp o e v hat t htu
      refine hxget t ?_
      rintro rfl
      obtain ⟨h1, h2, h3⟩ := hnm p hp
      rcases hRO.use p o e v t a hat htu hsta (fun e => h2 e.symm) with h | h
      · exact hnoA p hp h
      · have := C.anc.done hcl1 _ a p rfl hapre h
        exact h1 (by simpa using this)
    obtain ⟨tm3, g3, w3, s3, R3, l3, n3, E3, t3, st3⟩ := simOps (b := b) (k := k) (cs := cs) (rest := post.map (fun p => idx.getD p 0)) (envx := (d, AV.any) :: env) hc he hN C.anc C.an_lt hRO henv (mid ++ [c]) σ1.reverse hmc hcl1 hr3 huse R2 E2 (by rw [size_putT]; exact t1)
    have hptr : tm3.getD d undef = .pointer (some ⟨w1.heap.size, 0, none⟩) := by
      rw [st3 d fun p hp hpt => (hnm p hp).2.1 (honly p hpt), hmd]
      simp only [putT]
      simp [Array.getD, t1, hdN]
    have hq3 := (l3 0).q (w1.heap.size, .cells zz.cells ta) (by simp)
    obtain ⟨q1, q2, q3, q4⟩ := R3.q _ hq3
    -- the variable gets its block
    have hE : stE cx base env0 es a Tc = opAlloc (base + sa) ta zero Tc := by
      have hlt : a < es.length := by rw [← hm] at han; simpa using han
      have hat := List.getElem?_eq_getElem hlt
      have := es_os (o := es[a].1) (e := es[a].2.1) (v := es[a].2.2) hm hat
      rw [hoa] at this
      cases this
      simp only [stE, hat]
      simp only [valOp, wants, hga, hop, evalOp, opAlloc]
      by_cases h : base + sa < List.length Tc
      · simp only [h, if_true]
      · simp only [h, if_false]
    rw [hE] at hr4
    simp only [opAlloc] at hr4
    split at hr4
    rotate_left
    · cases hr4
    rename_i hbl
    simp only [Option.some.injEq, Prod.mk.injEq, Out.ret.injEq] at hr4
    obtain ⟨hva, rfl⟩ := hr4
    have hlt1 := Nat.lt_succ_self (Tc.ver (base + sa))
    have R4 := (R3.requ (g3.q.filter fun p => p.1 != w1.heap.size) (fun p hp => (List.mem_filter.1 hp).1)).take (b := base + sa) (x := .var (Tc.ver (base + sa) + 1) ta zero) hbl hlt1 (some (w1.heap.size, zz.cells.size))
      (fun cb s e => by cases e; exact q4) (fun cb s e p hp => by
        cases e
        have := (List.mem_filter.1 hp).2
        simpa using this)
      (by
        obtain ⟨h5, h6⟩ := constsOk.VT (g := Sg.put { g3 with q := g3.q.filter fun p => p.1 != w1.heap.size } (base + sa) (some (w1.heap.size, zz.cells.size))) (S := Tc.set (base + sa) (.var (Tc.ver (base + sa) + 1) ta zero)) (k := (Tc.set (base + sa) (.var (Tc.ver (base + sa) + 1) ta zero)).length) hzc
        exact ⟨w1.heap.size, zz.cells, Sg.put_same _ _, q1, q3, q2, h5, h6⟩)
    have lb : ∀ k, Le k { g3 with q := [] } Tc (Sg.put { g3 with q := g3.q.filter fun p => p.1 != w1.heap.size } (base + sa) (some (w1.heap.size, zz.cells.size))) (Tc.set (base + sa) (.var (Tc.ver (base + sa) + 1) ta zero)) := by
      intro kk
      have h := Le.bump (g := g3) (x := .var (Tc.ver (base + sa) + 1) ta zero) hbl hlt1 (some (w1.heap.size, zz.cells.size)) kk
      exact ⟨h.h, h.ver, h.sig, h.h0, by simp⟩
    have hheapq : ∀ p ∈ g1.q, p.1 ≠ w1.heap.size := by
      intro p hp
      have := (Array.getElem?_eq_some_iff.1 (R1.q p hp).2.1).1
      omega
    have l4 : ∀ k, Le k g S (Sg.put { g3 with q := g3.q.filter fun p => p.1 != w1.heap.size } (base + sa) (some (w1.heap.size, zz.cells.size))) (Tc.set (base + sa) (.var (Tc.ver (base + sa) + 1) ta zero)) := by
      intro kk
      have h1 := l1 kk
      have h3 := l3 kk
      have h13 : Le kk g S { g3 with q := [] } Tc → True := fun _ => trivial
      have h4 := lb kk
      refine ⟨fun c a h => h4.h c a (h3.h c a (h1.h c a h)), fun i hi => Nat.le_trans (h1.ver i hi) (Nat.le_trans (h3.ver i hi) (h4.ver i hi)), fun i hi e s hs => ?_, (h4.h0.trans h3.h0).trans h1.h0, fun p hp => ?_⟩
      · have v1 := h1.ver i hi
        have v3 := h3.ver i hi
        have v4 := h4.ver i hi
        obtain ⟨a1, b1⟩ := h4.sig i hi (by omega) s hs
        obtain ⟨a2, b2⟩ := h3.sig i hi (by omega) s a1
        obtain ⟨a3, b3⟩ := h1.sig i hi (by omega) s a2
        exact ⟨a3, b1.trans (b2.trans b3)⟩
      · refine List.mem_filter.2 ⟨h3.q p (List.mem_cons_of_mem _ (h1.q p hp)), ?_⟩
        have := hheapq p (h1.q p hp)
        simpa using this
    have E4 : ER (Sg.put { g3 with q := g3.q.filter fun p => p.1 != w1.heap.size } (base + sa) (some (w1.heap.size, zz.cells.size))) (Tc.set (base + sa) (.var (Tc.ver (base + sa) + 1) ta zero)) (Tc.set (base + sa) (.var (Tc.ver (base + sa) + 1) ta zero)).length
        (envD es env (a :: ((mid ++ [c]).reverse ++ σ1.reverse))) tm3 := by
      intro t htl
      by_cases h : t = d
      · subst h
        rw [envD_in hsta honly (by simp), hptr, ← hva]
        simp only [V]
        exact ⟨rfl, by simpa using hbl, by rw [ver_set hbl]; simp [Blk.ver], fun _ e2 h5 => ⟨w1.heap.size, zz.cells.size, Sg.put_same _ _, rfl⟩⟩
      · have he4 : (envD es env (a :: ((mid ++ [c]).reverse ++ σ1.reverse))).get t = (envD es ((d, AV.any) :: env) ((mid ++ [c]).reverse ++ σ1.reverse)).get t := by
          simp only [envD, Env.get_put]
          rw [if_neg (by rw [hsta]; intro e; exact h (by cases e; rfl))]
          exact hstart _ _ t (hxget t h).symm _
        rw [he4, List.length_set]
        exact V.mono (lb _) _ _ (V.congr (g := g3) (g' := { g3 with q := [] }) rfl rfl _ _ (E3 t htl))
    have hcl4 : Closed (predP mops idx) (a :: ((mid ++ [c]).reverse ++ σ1.reverse)) := (hmc.closed hcl1).cons fun p hp => List.mem_append_right _ (hapre p hp)
    obtain ⟨tm5, g5, w5, s5, R5, l5, n5, E5, t5, _⟩ := simOps (b := b) (k := k) (cs := cs) (rest := []) (envx := env) hc he hN C.anc C.an_lt hRO henv post _ hpost hcl4 hr5 (fun _ _ _ _ _ _ _ _ => rfl) R4 E4 t3
    refine ⟨tm5, g5, w5, ?_, R5, fun k => (l4 k).trans (l5 k), ?_, ?_, t5⟩
    · have e1 : (σ1 ++ a :: (mid ++ c :: post)).map (fun p => idx.getD p 0) = σ1.map (fun p => idx.getD p 0) ++ (a :: (mid ++ c :: post)).map (fun p => idx.getD p 0) := by simp
      have e2 : (mid ++ c :: post).map (fun p => idx.getD p 0) = (mid ++ [c]).map (fun p => idx.getD p 0) ++ post.map (fun p => idx.getD p 0) := by simp
      rw [e1]
      rw [e2] at sa2
      rw [List.append_nil] at s5
      exact Steps.trans s1 (.head sa2 (Steps.trans s3 (Steps.trans s5 (.one st_region_end))))
    · rw [n5, List.length_set, n3, n1]
    · rw [henv1]
      refine E5.congr fun t => ?_
      refine envD_all (fun p => ?_) hRO.dst (fun p t h => stD_lt hm h) t
      rw [← hτmem p]
      simp only [List.mem_append, List.mem_cons, List.mem_reverse, List.reverse_append, List.reverse_cons, List.reverse_nil, List.nil_append, List.mem_singleton]
      grind

end Go.Wm

set_option linter.unusedVariables false
set_option linter.unusedSimpArgs false
namespace Go.Wm
open Go.RowKit

variable {A : Alike} {P : Program} {B0 : Nat} {w0 w w' : World} {g g' : Sg} {S S' S1 : Sto} {b : Frame} {tm : Array Value} {k : List Item} {cs : List Frame} {env env1 : Env} {cx : Cx}
variable {N base : Nat} {env0 : Env} {mops : Array Oper} {os : List IOper} {idx : List Nat} {sp : Option (Bool × Nat × Nat)} {pairs : List (Nat × Nat)} {fs : List Fp}

theorem twinsOk_at {e : Env} {S2 : Sto} : ∀ {l : List IOper}, twinsOk cx base env0 e S2 l = true → ∀ o ∈ l, (match wants o e with
    | some true => (match fpOp base o.op (o.xs.map (·.get e)) with
      | some (false, []) => true
      | some (false, _) => (match evalOp cx base env0 o.op (o.xs.map (·.get e)) S2, o.dst with
        | some (.ret a, _), some d => sameV a (e.get d)
        | _, _ => false)
      | _ => false)
    | _ => true) = true
  | [], _, o, ho => by cases ho
  | x :: l, h, o, ho => by
    simp only [twinsOk, Bool.and_eq_true] at h
    rcases List.mem_cons.1 ho with rfl | ho
    · exact h.1
    · exact twinsOk_at h.2 o ho

theorem region_draw_sound (hc : CallOK A P cx.cd) (he : ExtOK A P cx.ext) (hN : N ≤ 900000) (hok : okReg P N mops os idx sp pairs = true) (h : runReg cx base env0 os sp env S = some (env1, S1, fs)) (hp : pairsOk fs pairs = true)
    (R : Rel A B0 w0 g S w) (E : ER g S S.length env tm) (ht : tm.size = N) {id : Nat} : RegEnds A P B0 w0 N (lone (fat b tm (.code (.region id mops true) :: k)) cs w) b k cs g S env1 S1 := by
  have C := okReg.out hok
  obtain ⟨t, hstep, Rw⟩ := reg_first (P := P) (b := b) (tm := tm) (k := k) (cs := cs) (mops := mops) (id := id) R
  obtain ⟨σ, hσ, hall, hmap⟩ := C.order (mixed := P.follows .mixedOrders) (t := t)
  rw [← hmap] at hstep
  have hspec : ∀ o ∈ os, isSpec o.op = false := by
    intro o ho
    obtain ⟨p, hp⟩ := List.mem_iff_getElem?.1 ho
    obtain ⟨_, _, _, _, _, h⟩ := C.op p o hp
    exact h
  have done : RegEnds A P B0 w0 N (lone (fat b tm (.inRegion mops (σ.map (fun p => idx.getD p 0)) :: k)) cs { w with drawn := w.drawn + 1 }) b k cs g S env1 S1 → RegEnds A P B0 w0 N (lone (fat b tm (.code (.region id mops true) :: k)) cs w) b k cs g S env1 S1 := by
    rintro ⟨tm', g', w', hs, h2⟩
    exact ⟨tm', g', w', .head hstep hs, h2⟩
  apply done
  have whole : ∀ (es : List (IOper × Env × AV)), TR cx base env0 os env S es env1 S1 → es.map (·.1) = os ∧ (∀ (p : Nat) (o : IOper) (e : Env) (v : AV), es[p]? = some (o, e, v) → e = envD es env (List.range p).reverse) ∧ env1 = envD es env (List.range os.length).reverse ∧
      runE (stE cx base env0 es) (stV es) (List.range os.length) S S1 := by
    intro es hTR
    have h1 := hTR.length
    obtain ⟨h2, h3⟩ := TR.envs hTR [] env rfl
    refine ⟨h1, fun p o e v hat => h2 p o e v (by simp) hat, by simpa using h3, ?_⟩
    have := TR.runE hTR []
    rw [List.range_eq_range']
    simpa using this
  match sp, C, h with
  | none, C, h =>
    obtain ⟨es, hTR, hf⟩ := runOpsD_TR hspec h
    obtain ⟨h1, h2, h3, h4⟩ := whole es hTR
    exact reg_go hc he hN C h1 h2 h3 hσ hall (reg_plain C h1 (by simpa using hf) hp h4 hσ hall) Rw E ht
  | some (true, c, a), C, h =>
    obtain ⟨es, hTR, hf⟩ := runOpsD_TR hspec h
    obtain ⟨h1, h2, h3, h4⟩ := whole es hTR
    exact reg_late hc he hN C h1 (by simpa using hf) hp h2 h3 h4 hσ hall Rw E ht
  | some (false, c, m), C, h =>
    simp only [runReg] at h
    split at h
    · rename_i envc Sc fs1 e1
      split at h
      · rename_i env2 S2 fs2 e2
        split at h
        · rename_i htw
          obtain ⟨es1, t1, f1⟩ := runOpsD_TR (fun o ho => hspec o (List.mem_of_mem_take ho)) e1
          obtain ⟨es2, t2, f2⟩ := runOpsD_TR (fun o ho => hspec o (List.mem_of_mem_drop (List.mem_of_mem_take ho))) e2
          obtain ⟨es3, t3, f3⟩ := runOpsD_TR (fun o ho => hspec o (List.mem_of_mem_drop ho)) h
          have hsp := C.spc
          simp only [spB, Bool.and_eq_true, decide_eq_true_eq] at hsp
          obtain ⟨⟨hmc, hcn⟩, hu⟩ := hsp
          have hsplit : os = os.take c ++ ((os.drop c).take 1 ++ os.drop (c + 1)) := by
            have h5 : os.drop c = (os.drop c).take 1 ++ os.drop (c + 1) := by
              rw [← List.drop_drop, List.take_append_drop]
            rw [← h5, List.take_append_drop]
          have t123 : TR cx base env0 os env S (es1 ++ (es2 ++ es3)) env1 S1 := by
            rw [hsplit]
            exact TR.app t1 (TR.app t2 t3)
          obtain ⟨h1, h2, h3, h4⟩ := whole _ t123
          have hl1 : es1.length = c := by
            have := congrArg List.length t1.length
            simp at this
            omega
          have hl2 : es2.length = 1 := by
            have := congrArg List.length t2.length
            simp at this
            omega
          have r1 : runE (stE cx base env0 (es1 ++ (es2 ++ es3))) (stV (es1 ++ (es2 ++ es3))) (List.range c) S Sc := by
            have hTR := TR.runE t1 []
            have hlen : (os.take c).length = c := by simp; omega
            rw [hlen] at hTR
            rw [List.range_eq_range']
            have key : ∀ (l : List Nat) (T T' : Sto), (∀ p ∈ l, p < c) → runE (stE cx base env0 es1) (stV es1) l T T' → runE (stE cx base env0 (es1 ++ (es2 ++ es3))) (stV (es1 ++ (es2 ++ es3))) l T T' := by
              intro l
              induction l with
              | nil => intro T T' _ h; exact h
              | cons p l ih =>
                intro T T' hl h
                obtain ⟨T1, a1, a2⟩ := h
                have hp : (es1 ++ (es2 ++ es3))[p]? = es1[p]? := by rw [List.getElem?_append_left (by rw [hl1]; exact hl p (by simp))]
                refine ⟨T1, ?_, ih T1 T' (fun q hq => hl q (by simp [hq])) a2⟩
                simp only [stE, stV, hp]
                exact a1
            exact key _ _ _ (fun p hp => by have := List.mem_range'_1.1 hp; omega) (by simpa using hTR)
          -- the call, and what is behind it
          have r23 := h4
          have hrange : List.range os.length = List.range c ++ (c :: List.range' (c + 1) (os.length - (c + 1))) := by
            rw [List.range_eq_range', List.range_eq_range']
            have e1 := List.range'_append_1 (s := 0) (m := c) (n := os.length - c)
            rw [Nat.zero_add] at e1
            have e2 : c + (os.length - c) = os.length := by omega
            rw [e2] at e1
            rw [← e1]
            congr 1
            have e3 : os.length - c = (os.length - (c + 1)) + 1 := by omega
            rw [e3, List.range'_succ]
          have det : ∀ (E : Nat → Sto → Option (Out × Sto)) (v : Nat → AV) (l : List Nat) (T T1 T2 : Sto), runE E v l T T1 → runE E v l T T2 → T1 = T2 := by
            intro E v l
            induction l with
            | nil => intro T T1 T2 h h'; exact (h : T = T1).symm.trans h'
            | cons p l ih =>
              intro T T1 T2 h h'
              obtain ⟨U, a1, a2⟩ := h
              obtain ⟨U', b1, b2⟩ := h'
              rw [a1] at b1
              simp only [Option.some.injEq, Prod.mk.injEq, true_and] at b1
              subst b1
              exact ih U T1 T2 a2 b2
          rw [hrange] at r23
          obtain ⟨Sc', q1, S2', q2, q3⟩ := runE_app.1 r23
          have := det _ _ _ _ _ _ r1 q1
          subst this
          have hS2 : S2' = S2 := by
            have hTR := TR.runE t2 es1
            have hlen : ((os.drop c).take 1).length = 1 := by simp; omega
            rw [hlen, hl1] at hTR
            simp only [List.range'_one, runE] at hTR
            obtain ⟨U, a1, rfl⟩ := hTR
            have hat : (es1 ++ (es2 ++ es3))[c]? = (es1 ++ es2)[c]? := by
              rw [← List.append_assoc, List.getElem?_append_left (by simp; omega)]
            simp only [stE, stV, hat] at q2
            simp only [stE, stV] at a1
            rw [a1] at q2
            simp only [Option.some.injEq, Prod.mk.injEq, true_and] at q2
            exact q2.symm
          subst hS2
          refine reg_go hc he hN C h1 h2 h3 hσ hall (reg_twin C h1 (by rw [f3, f2, f1]; simp) hp r1 q2 q3 ?_ hσ hall) Rw E ht
          -- the operations that read
          intro u ha hb
          have hus := List.all_eq_true.1 hu u (by simp; omega)
          simp only [ha, hb, decide_true, Bool.and_self, Bool.not_true, Bool.false_or, Bool.and_eq_true, Bool.not_eq_true', decide_eq_true_eq] at hus
          have hul : u < es1.length := by omega
          have hat1 := List.getElem?_eq_getElem hul
          have hat : (es1 ++ (es2 ++ es3))[u]? = some (es1[u].1, es1[u].2.1, es1[u].2.2) := by
            rw [List.getElem?_append_left hul, hat1]
          have hou := es_os h1 hat
          rw [hou] at hus
          obtain ⟨⟨_, hcls⟩, hapart⟩ := hus
          -- its operands are the same at the call
          have henvc : envc = envD (es1 ++ (es2 ++ es3)) env (List.range c).reverse := by
            obtain ⟨_, h5⟩ := TR.envs t1 [] env rfl
            have hlen : (os.take c).length = c := by simp; omega
            rw [hlen] at h5
            have key : ∀ (D : List Nat), (∀ p ∈ D, p < c) → envD es1 env D = envD (es1 ++ (es2 ++ es3)) env D := by
              intro D
              induction D with
              | nil => intro _; rfl
              | cons p D ih =>
                intro hD
                have hp : (es1 ++ (es2 ++ es3))[p]? = es1[p]? := by rw [List.getElem?_append_left (by rw [hl1]; exact hD p (by simp))]
                simp only [envD, stD, stV, hp]
                rw [ih fun q hq => hD q (by simp [hq])]
            rw [← key _ (fun p hp => by simpa using hp)]
            simpa using h5
          have hcong : ∀ t ∈ uses es1[u].1, Env.get es1[u].2.1 t = envc.get t := by
            intro t htu
            rw [h2 u _ _ _ hat, henvc]
            have hn : ∀ j, u ≤ j → j < c → stD (es1 ++ (es2 ++ es3)) j ≠ some t := by
              intro j h5 h6 h7
              obtain ⟨o', h8, h9⟩ := stD_os h1 h7
              have := List.all_eq_true.1 (List.all_eq_true.1 hapart t htu) j (by simp; omega)
              rw [h8] at this
              simp [h5, h6, h9] at this
            have : ∀ n, (envD (es1 ++ (es2 ++ es3)) env (List.range n).reverse).get t = (envD (es1 ++ (es2 ++ es3)) env (List.range n).reverse).get t := fun _ => rfl
            have step : ∀ d, u + d ≤ c → (envD (es1 ++ (es2 ++ es3)) env (List.range u).reverse).get t = (envD (es1 ++ (es2 ++ es3)) env (List.range (u + d)).reverse).get t := by
              intro d
              induction d with
              | zero => intro _; rfl
              | succ d ih =>
                intro hd
                rw [ih (by omega), show u + (d + 1) = (u + d) + 1 by omega, List.range_succ, List.reverse_append]
                simp only [List.reverse_singleton, List.singleton_append, envD, Env.get_put]
                rw [if_neg (hn (u + d) (by omega) (by omega))]
            have := step (c - u) (by omega)
            rwa [show u + (c - u) = c by omega] at this
          -- it is told the same
          have hU : ∀ x, c ≤ x + m → x < c → clsAt os x ≤ 1 := by
            intro x h5 h6
            have hxs := List.all_eq_true.1 hu x (by simp; omega)
            simp only [h5, h6, decide_true, Bool.and_self, Bool.not_true, Bool.false_or, Bool.and_eq_true, Bool.not_eq_true', decide_eq_true_eq] at hxs
            exact hxs.1.2
          have hread : stE cx base env0 (es1 ++ (es2 ++ es3)) u Sc = some (.ret (stV (es1 ++ (es2 ++ es3)) u), Sc) := by
            have hs : List.range c = List.range (c - m) ++ List.range' (c - m) m := by
              rw [List.range_eq_range', List.range_eq_range']
              have := List.range'_append_1 (s := 0) (m := c - m) (n := m)
              rw [Nat.zero_add] at this
              rw [this]
              congr 1
              omega
            have r1' := r1
            rw [hs] at r1'
            obtain ⟨T, a1, a2⟩ := runE_app.1 r1'
            obtain ⟨h7, h8⟩ := runE_rd (fun x hx => by
              have hx := List.mem_range'_1.1 hx
              exact stE_rd' (cx := cx) (base := base) (env0 := env0) h1 (hU x (by omega) (by omega))) a2
            subst h7
            exact h8 u (by rw [List.mem_range'_1]; omega)
          have hm := twinsOk_at htw es1[u].1 (by
            refine List.mem_of_getElem? (i := u - (c - m)) ?_
            rw [List.getElem?_drop, show c - m + (u - (c - m)) = u by omega, List.getElem?_take, if_pos hb]
            exact hou)
          simp only [stE, stV, hat] at hread ⊢
          rw [valOp_congr hcong] at hread ⊢
          unfold valOp at hread ⊢
          cases hw : wants es1[u].1 envc with
          | none => rw [hw] at hread; cases hread
          | some wt =>
            cases wt with
            | false =>
              rw [hw] at hread
              simp only [Option.some.injEq, Prod.mk.injEq, and_true] at hread
              simp only [hread]
            | true =>
              rw [hw] at hread hm
              simp only at hread hm ⊢
              have hcls' : clsOp es1[u].1.op ≤ 1 := by simpa [clsAt, hou] using hcls
              obtain ⟨l, hl⟩ := cls1 (base := base) (xs := es1[u].1.xs.map (·.get envc)) hcls'
              have hRd := (evalOp_fp (cx := cx) (env := env0)).1 l hl
              rw [hl] at hm
              have hev : evalOp cx base env0 es1[u].1.op (es1[u].1.xs.map (·.get envc)) Sc = some (.ret es1[u].2.2, Sc) := by
                split at hread
                · split at hread <;> simp at hread
                · exact hread
              cases l with
              | nil =>
                have := (hRd Sc S2' _ _ (by simp [SameAt]) hev).2
                rw [this]
              | cons x l =>
                simp only at hm
                split at hm
                · rename_i a S3 d e3 e4
                  have := (hRd S2' S2' _ _ (fun _ _ => rfl) e3).1
                  subst this
                  rw [e3]
                  simp only
                  have hs := sameV.out hm
                  have hdd : stD (es1 ++ (es2 ++ es3)) u = some d := by simp [stD, hat, e4]
                  have : envc.get d = es1[u].2.2 := by
                    rw [henvc, envD_in hdd (fun q hq => (C.ok h1).dst u q d hdd hq) (by simpa using hb)]
                    simp [stV, hat]
                  rw [hs, this]
                · cases hm
        · cases h
      · cases h
    · cases h

end Go.Wm

set_option linter.unusedVariables false
set_option linter.unusedSimpArgs false
namespace Go.Wm
open Go.RowKit

variable {A : Alike} {P : Program} {B0 : Nat} {w0 w w' : World} {g g' : Sg} {S S' S1 : Sto} {b : Frame} {tm : Array Value} {k : List Item} {cs : List Frame} {env env1 : Env} {cx : Cx}

/-! ### the check of code -/
def labelsIn : Code → List Nat
  | .seq a b => labelsIn a ++ labelsIn b
  | .label l => [l]
  | _ => []
theorem findLabel_none {l : Nat} : ∀ {c : Code}, l ∉ labelsIn c → findLabel c l = none
  | .seq a b, h => by
    simp only [labelsIn, List.mem_append, not_or] at h
    simp [findLabel, findLabel_none h.1, findLabel_none h.2]
  | .label l', h => by
    simp only [labelsIn, List.mem_singleton] at h
    have : (l' == l) = false := by simpa using fun e => h e.symm
    simp [findLabel, this]
  | .skip, _ | .region _ _ _, _ | .cond _ _ _, _ | .block _ _, _ | .loop _, _ | .rangeFunc _ _ _ _, _ | .exit _, _ | .scope _, _ | .goto _, _ | .ret, _ | .refuse _, _ => by simp [findLabel]

def keepOk (md : Nat) (ks : List Nat) : Bool := md != 1 || (ks.contains dslot && ks.contains pslot && ks.contains rslot)
def okOps (P : Program) (n : Nat) (sp : Bool) (mops : Array Oper) : Nat → List IOper → Bool
  | i, [] => i == mops.size
  | i, o :: os => (match mops[i]? with | some m => okOper P n sp mops o m | none => false) && okOps P n sp mops (i + 1) os

/-- code of the evaluator and code of the machine (md: 0 a function's; 1 of one that defers or recovers; 2 a round's) -/
def okC (P : Program) (n : Nat) (md : Nat) : IC → Code → Bool
  | .skip, .skip => true
  | .label l, .label l' => l == l'
  | .reg ops, .region _ mops false => okOps P n (md == 1) mops 0 ops
  | .regD ops idx sp pairs, .region _ mops true => okReg P n mops ops idx sp pairs
  | .kpre ks a, c => keepOk md ks && okC P n md a c
  | .kpost a ks, c => keepOk md ks && okC P n md a c
  | .seq a b, .seq c d => okC P n md a c && okC P n md b d
  | .cond x a b, .cond y c d => opdOk n x y && okC P n md a c && okC P n md b d
  | .block id a, .block id' c => id == id' && okC P n md a c
  | .loop a, .loop c => okC P n md a c
  | .exit id, .exit id' => id == id'
  | .scope a rest l, .scope c => okC P n md a c && labelsIn c == [l] && (match findLabel c l with | some rc => okC P n md rest rc | none => false)
  | .scope0 a, .scope c => okC P n md a c && labelsIn c == []
  | .goto l, .goto l' => l == l'
  | .ret, .ret => true
  | .rangeF _ f params assign body, .rangeFunc f' params' assign' body' => md == 0 && opdOk n f f' && params == params'.toList && params.all (fun p => decide (p < n)) && okC P n 2 assign assign' && okC P n 2 body body'
  | _, _ => false

/-- the program's code, and its functions -/
def progA (P : Program) : Alike := ⟨fun n ic c => okC P n 2 ic c = true ∧ n ≤ 900000, fun f => (P.funcs[f]?).isSome = true⟩

/-! ### what is kept of a frame -/
def mkMark (r : Nat) : Deferred := { target := .collected r, args := #[] }

/-- deferred calls, the last one first -/
def DV (g : Sg) (S : Sto) (k : Nat) : List AV → List Deferred → Prop
  | [], ds => ds = []
  | x :: xs, ds => ∃ d ds' fv args f as, x = .tup (fv :: args) ∧ ds = d :: ds' ∧ isFn f ∧ d = dOf f (List.toArray as) ∧ V g S k fv f ∧ VT g S k args as ∧ DV g S k xs ds'
def DefOK (g : Sg) (S : Sto) (k : Nat) (x : AV) (ds : List Deferred) : Prop :=
  match x with
  | .any => ds = []
  | .tup xs => DV g S k xs ds
  | _ => False

/-- what a call may recover, and whether it did: cs0 as it was at the beginning -/
def RecOK (g : Sg) (S : Sto) (k : Nat) (pv rv : AV) (b : Frame) (cs0 cs : List Frame) : Prop :=
  (cs = cs0 ∧ rv = .any ∧ (∀ t x, pv = .ifc t x → ∃ caller rest xv older, b.kind = .deferred ∧ cs0 = caller :: rest ∧ caller.mode = .panicking ({ v := xv, recovered := false } :: older) ∧ V g S k (.ifc t x) xv) ∧
      (pv = .nili → tryRecover b cs0 = none)) ∨
  (rv = .bool true ∧ pv = .nili ∧ ∃ caller rest xv older, b.kind = .deferred ∧ cs0 = caller :: rest ∧ caller.mode = .panicking ({ v := xv, recovered := false } :: older) ∧
      cs = { caller with mode := .panicking ({ v := xv, recovered := true } :: older) } :: rest)

structure FS (q0 : List (Nat × Obj)) (md : Nat) (b0 : Frame) (cs0 : List Frame) (g : Sg) (S : Sto) (k : Nat) (env : Env) (b : Frame) (cs : List Frame) : Prop where
  fn : b.fn = b0.fn
  kind : b.kind = b0.kind
  rd : b.roundOf = b0.roundOf
  none : md ≠ 2 → b0.roundOf = none
  q : ∀ p ∈ q0, p ∈ g.q
  plain : md ≠ 1 → cs = cs0 ∧ (md = 0 → env.get dslot = .any) ∧ (md = 0 → env.get rslot = .any) ∧ ∃ rs : List Nat, b.defers = rs.map mkMark ++ b0.defers ∧ rs.Nodup ∧ (∀ r ∈ rs, (r, Obj.deferred (some [])) ∈ g.q ∧ ∀ p ∈ q0, p.1 ≠ r) ∧ (md = 2 → rs = [])
  spec : md = 1 → b0.defers = [] ∧ DefOK g S k (env.get dslot) b.defers ∧ RecOK g S k (env.get pslot) (env.get rslot) b0 cs0 cs

theorem DV.mono {k : Nat} (l : Le k g S g' S') : ∀ {xs : List AV} {ds : List Deferred}, DV g S k xs ds → DV g' S' k xs ds
  | [], ds, h => h
  | x :: xs, ds, h => by
    obtain ⟨d, ds', fv, args, f, as, h1, h2, h3, h4, h5, h6, h7⟩ := h
    exact ⟨d, ds', fv, args, f, as, h1, h2, h3, h4, V.mono l _ _ h5, VT.mono l _ _ h6, h7.mono l⟩
theorem DefOK.mono {k : Nat} (l : Le k g S g' S') {x : AV} {ds : List Deferred} (h : DefOK g S k x ds) : DefOK g' S' k x ds := by
  cases x <;> first | exact h | exact DV.mono l h
theorem RecOK.mono {k : Nat} (l : Le k g S g' S') {pv rv : AV} {cs0 : List Frame} (h : RecOK g S k pv rv b cs0 cs) : RecOK g' S' k pv rv b cs0 cs := by
  rcases h with ⟨h1, h2, h3, h4⟩ | h
  · refine .inl ⟨h1, h2, fun t x e => ?_, h4⟩
    obtain ⟨caller, rest, xv, older, a1, a2, a3, a4⟩ := h3 t x e
    exact ⟨caller, rest, xv, older, a1, a2, a3, V.mono l _ _ a4⟩
  · exact .inr h
theorem FS.mono {q0 : List (Nat × Obj)} {md : Nat} {b0 : Frame} {cs0 : List Frame} {k : Nat} (h : FS q0 md b0 cs0 g S k env b cs) (l : Le k g S g' S') : FS q0 md b0 cs0 g' S' k env b cs where
  fn := h.fn
  kind := h.kind
  rd := h.rd
  none := h.none
  q p hp := l.q p (h.q p hp)
  plain hm := by
    obtain ⟨h1, h2, h3, rs, h4, h5, h6, h7⟩ := h.plain hm
    exact ⟨h1, h2, h3, rs, h4, h5, fun r hr => ⟨l.q _ (h6 r hr).1, (h6 r hr).2⟩, h7⟩
  spec hm := by
    obtain ⟨h1, h2, h3⟩ := h.spec hm
    exact ⟨h1, h2.mono l, h3.mono l⟩
/-- slots beside the code's own stay -/
theorem FS.withEnv {q0 : List (Nat × Obj)} {md : Nat} {b0 : Frame} {cs0 : List Frame} {k : Nat} (h : FS q0 md b0 cs0 g S k env b cs) (h1 : env1.get dslot = env.get dslot) (h2 : env1.get pslot = env.get pslot) (h3 : env1.get rslot = env.get rslot) : FS q0 md b0 cs0 g S k env1 b cs where
  fn := h.fn
  kind := h.kind
  rd := h.rd
  none := h.none
  q := h.q
  plain hm := by rw [h1, h3]; exact h.plain hm
  spec hm := by rw [h1, h2, h3]; exact h.spec hm
theorem FS.keep {q0 : List (Nat × Obj)} {md : Nat} {b0 : Frame} {cs0 : List Frame} {k : Nat} (h : FS q0 md b0 cs0 g S k env b cs) {ks : List Nat} (hk : keepOk md ks = true) : FS q0 md b0 cs0 g S k (env.keep ks) b cs where
  fn := h.fn
  kind := h.kind
  rd := h.rd
  none := h.none
  q := h.q
  plain hm := by
    obtain ⟨h1, h2, h3, h4⟩ := h.plain hm
    refine ⟨h1, ?_, ?_, h4⟩
    · intro h0; rw [Env.get_keep]; split <;> first | exact h2 h0 | rfl
    · intro h0; rw [Env.get_keep]; split <;> first | exact h3 h0 | rfl
  spec hm := by
    subst hm
    simp only [keepOk, bne_self_eq_false, Bool.false_or, Bool.and_eq_true, List.contains_iff_mem] at hk
    rw [Env.get_keep, Env.get_keep, Env.get_keep, if_pos hk.1.1, if_pos hk.1.2, if_pos hk.2]
    exact h.spec rfl

/-- where code leaves the frame -/
def Reach (P : Program) (m : Machine) (b : Frame) (k : List Item) (cs : List Frame) (tm : Array Value) (w : World) (g : Sg) (S : Sto) : Ex → Prop
  | .nrm => Steps P m (lone (fat b tm k) cs w)
  | .exit id => ∃ k', exitTo id k' = exitTo id k ∧ Steps P m (lone (fat b tm (.code (.exit id) :: k')) cs w)
  | .goto l => ∃ k', gotoIn l k' = gotoIn l k ∧ Steps P m (lone (fat b tm (.code (.goto l) :: k')) cs w)
  | .ret => ∃ k', Steps P m (lone (fat b tm (.code .ret :: k')) cs w)
  | .pan x => ∃ cv chain todo, Chain cv chain ∧ V g S S.length x cv ∧ Steps P m (lone { fat b tm todo with mode := .panicking chain } cs w)
theorem Reach.of {m m' : Machine} {ex : Ex} (h : Steps P m m') (r : Reach P m' b k cs tm w g S ex) : Reach P m b k cs tm w g S ex := by
  cases ex with
  | nrm => exact Steps.trans h r
  | exit id => obtain ⟨k', h1, h2⟩ := r; exact ⟨k', h1, Steps.trans h h2⟩
  | goto l => obtain ⟨k', h1, h2⟩ := r; exact ⟨k', h1, Steps.trans h h2⟩
  | ret => obtain ⟨k', h2⟩ := r; exact ⟨k', Steps.trans h h2⟩
  | pan x => obtain ⟨cv, chain, todo, h1, h2, h3⟩ := r; exact ⟨cv, chain, todo, h1, h2, Steps.trans h h3⟩
/-- over an item that is passed -/
theorem Reach.pass {m : Machine} {ex : Ex} {x : Item} (hx : x.plain = true) (hn : ex ≠ .nrm) (r : Reach P m b (x :: k) cs tm w g S ex) : Reach P m b k cs tm w g S ex := by
  cases ex with
  | nrm => exact absurd rfl hn
  | exit id =>
    obtain ⟨k', h1, h2⟩ := r
    refine ⟨k', h1.trans ?_, h2⟩
    cases x <;> simp_all [exitTo, Item.plain]
  | goto l =>
    obtain ⟨k', h1, h2⟩ := r
    refine ⟨k', h1.trans ?_, h2⟩
    cases x <;> simp_all [gotoIn, Item.plain]
  | ret => exact r
  | pan x => exact r

/-- all that is said of code -/
def CodeEnds (P : Program) (B0 : Nat) (w0 : World) (q0 : List (Nat × Obj)) (N md : Nat) (b0 : Frame) (cs0 : List Frame) (m : Machine) (k : List Item) (g : Sg) (S : Sto) (ex : Ex) (env' : Env) (S' : Sto) : Prop :=
  ∃ tm' b' cs' g' w', Reach P m b' k cs' tm' w' g' S' ex ∧ Rel (progA P) B0 w0 g' S' w' ∧ (∀ k, Le k g S g' S') ∧ S'.length = S.length ∧ ER g' S' S'.length env' tm' ∧ tm'.size = N ∧ FS q0 md b0 cs0 g' S' S'.length env' b' cs'

/-! ### loops over functions: the machine's steps -/
def marks' (b : Frame) (r : Nat) : List Deferred := { target := .collected r, args := #[] } :: b.defers

theorem st_rangeFunc (hb : b.roundOf = none) {f : Operand} {ps : Array Tmp} {as bo : Code} {F : CallKind → Frame} {w2 : World}
    (hw : w2 = (w.alloc (.deferred (some []))).alloc (.loop { state := .ready, pending := none, fn := b.fn, tmps := tm, params := ps, assign := as, body := bo, defers := w.heap.size }))
    (hf : isFn (ev tm f)) (hF : Begins P w2 (dOf (ev tm f) #[.func (.yield (w.heap.size + 1)) #[] #[]]) F) :
    step P (lone (fat b tm (.code (.rangeFunc f ps as bo) :: k)) cs w) = .next (lone (F .normal) ({ fat b tm (.inRangeFunc (w.heap.size + 1) :: k) with defers := marks' b w.heap.size } :: cs) w2) := by
  have he := fat_eval (b := b) (tm := tm) (.inRangeFunc (w.heap.size + 1) :: k)
  have hE : (Instr.enterLoop b.fn tm ps as bo none).run P w = .ok (w.heap.size + 1, [{ target := .collected w.heap.size, args := #[] }]) w2 := by
    subst hw
    have h1 : ∀ (o : Obj) (w : World), (newObj o).run P w = .ok w.heap.size (w.alloc o) := fun o w => rfl
    simp [Instr.enterLoop, h1, Result.andThen]
  refine step_lone_go ?_
  have hres : ∀ (fr : Frame), fr.eval = ev tm → (do let d ← resolve fr.eval { callee := .value f, args := #[.const (.func (.yield (w.heap.size + 1)) #[] #[])], argTypes := #[] } 0; invoke d.target d.args : Sem Next) =
      invoke (dOf (ev tm f) #[.func (.yield (w.heap.size + 1)) #[] #[]]).target (dOf (ev tm f) #[.func (.yield (w.heap.size + 1)) #[] #[]]).args := by
    intro fr hfr
    rw [hfr]
    have hm : Array.map (ev tm) #[Operand.const (.func (.yield (w.heap.size + 1)) #[] #[])] = #[.func (.yield (w.heap.size + 1)) #[] #[]] := by simp [ev]
    simp only [resolve, hf.ofValue, hm]
    rfl
  have hev : Frame.eval { fn := b.fn, tmps := tm, todo := Item.inRangeFunc (w.heap.size + 1) :: k, defers := { target := .collected w.heap.size, args := #[] } :: b.defers, mode := .run, kind := b.kind, roundOf := none } = ev tm := by
    funext x
    cases x <;> rfl
  have hr := hres _ hev
  rcases hF with ⟨fn, args, h1, rfl⟩ | ⟨l, fn, tmps, a, bd, h1, rfl⟩
  · simp [stepG, stepG.exec, fat, hb, hE, stepG.apply, hr, h1, marks']
  · simp [stepG, stepG.exec, fat, hb, hE, stepG.apply, hr, h1, marks']

theorem run_getLoop {l : Nat} {L : Loop} (hl : w.heap[l]? = some (.loop L)) : (Instr.getLoop l).run P w = .ok L w := by
  simp [Instr.getLoop, getObj, Sem.run, hl, Bind.bind, Sem.bind]
theorem run_setLoop {l : Nat} {L L' : Loop} (hl : w.heap[l]? = some (.loop L)) : (setObj l (.loop L')).run P w = .ok () { w with heap := w.heap.setIfInBounds l (.loop L') } := by
  simp [setObj, Sem.run, hl]

/-- behind a loop over a function -/
theorem st_endRange {l : Nat} {L : Loop} (hl : w.heap[l]? = some (.loop L)) (hs : L.state ≠ .busy) :
    step P (lone (fat b tm (.endRangeFunc l :: k)) cs w) = .next (lone (fat b tm ((L.pending.map Item.code).toList ++ k)) cs { w with heap := w.heap.setIfInBounds l (.loop { L with state := .exhausted }) }) := by
  have hE : (Instr.endLoop l).run P w = .ok L.pending { w with heap := w.heap.setIfInBounds l (.loop { L with state := .exhausted }) } := by
    have hs' : (L.state == .busy) = false := by cases h : L.state <;> first | rfl | exact absurd h hs
    simp [Instr.endLoop, run_getLoop hl, Result.andThen, hs, hs', run_setLoop hl]
  refine step_lone_go ?_
  simp [stepG, stepG.exec, fat, hE]

end Go.Wm

set_option linter.unusedVariables false
set_option linter.unusedSimpArgs false
namespace Go.Wm
open Go.RowKit

variable {P : Program} {B0 : Nat} {w0 w w' : World} {g g' : Sg} {S S' S1 : Sto} {b b0 : Frame} {tm : Array Value} {k : List Item} {cs cs0 : List Frame} {env env1 : Env} {cx : Cx}
variable {q0 : List (Nat × Obj)} {N md base : Nat} {env0 : Env} {mops : Array Oper}

theorem CodeEnds.trans {m m' : Machine} {ex : Ex} {env' : Env} (h : Steps P m m') (hl : ∀ k, Le k g S g' S1) (hn : S1.length = S.length) (r : CodeEnds P B0 w0 q0 N md b0 cs0 m' k g' S1 ex env' S') : CodeEnds P B0 w0 q0 N md b0 cs0 m k g S ex env' S' := by
  obtain ⟨tm', b', cs', g2, w2, h1, h2, h3, h4, h5⟩ := r
  exact ⟨tm', b', cs', g2, w2, h1.of h, h2, fun k => (hl k).trans (h3 k), h4.trans hn, h5⟩

theorem tryRecover_kind {fr fr' : Frame} (h : fr.kind = fr'.kind) (cs : List Frame) : tryRecover fr cs = tryRecover fr' cs := by
  unfold tryRecover
  rw [h]

theorem st_op_defer (hb : b.roundOf = none) {i : Nat} {rest : List Nat} {m : Oper} {c : Call} {x : Operand} (ho : mops[i]? = some m) (hw : Region.wanted m (yielded mops tm) = true) (hm : m.op = .defer c) (hx : c.callee = .value x) (hf : isFn (ev tm x)) :
    step P (lone (fat b tm (.inRegion mops (i :: rest) :: k)) cs w) = .next (lone (fat { b with defers := dOf (ev tm x) (c.args.map (ev tm)) :: b.defers } (putT tm m.dst undef) (.inRegion mops rest :: k)) cs w) := by
  have hr : (execOp (ev tm) m).run P w = .ok (.defer (dOf (ev tm x) (c.args.map (ev tm)))) w := by
    unfold execOp
    rw [hm]
    simp [resolve, hx, hf.ofValue]
  refine step_lone_go ?_
  rw [stG_op ho hw (.inl hb)]
  cases hd : m.dst <;> simp [stepG.apply, hr, fat, Frame.finish, ho, hd, putT]

theorem st_op_recover (hb : b.roundOf = none) {i : Nat} {rest : List Nat} {m : Oper} {c : Call} (ho : mops[i]? = some m) (hw : Region.wanted m (yielded mops tm) = true) (hm : m.op = .call c) (hx : c.callee = .builtin .recover) :
    step P (lone (fat b tm (.inRegion mops (i :: rest) :: k)) cs w) = .next (match tryRecover b cs with
      | some (v, cs') => lone (fat b (putT tm m.dst v) (.inRegion mops rest :: k)) cs' w
      | none => lone (fat b (putT tm m.dst .nilIface) (.inRegion mops rest :: k)) cs w) := by
  have hr : (execOp (ev tm) m).run P w = .ok .recover w := by
    unfold execOp
    rw [hm]
    simp [resolve, hx, invoke, builtin]
  have hk : tryRecover (fat b tm (.inRegion mops (i :: rest) :: k)) cs = tryRecover b cs := tryRecover_kind (fr := fat b tm (.inRegion mops (i :: rest) :: k)) (fr' := b) rfl cs
  have hbr : (fat b tm (.inRegion mops (i :: rest) :: k)).roundOf = none := hb
  cases ht : tryRecover b cs with
  | none =>
    refine step_lone_go ?_
    rw [stG_op ho hw (.inl hb)]
    rw [ht] at hk
    cases hd : m.dst <;> simp [stepG.apply, hr, hbr, hk, Frame.finish, ho, hd, putT] <;> simp [fat, Frame.finish, ho, hd, hb]
  | some p =>
    obtain ⟨v, cs'⟩ := p
    refine step_lone_go ?_
    rw [stG_op ho hw (.inl hb)]
    rw [ht] at hk
    cases hd : m.dst <;> simp [stepG.apply, hr, hbr, hk, Frame.finish, ho, hd, putT] <;> simp [fat, Frame.finish, ho, hd, hb]

theorem spec_slots {d : Option Nat} (hd : dstOk N d = true) (hN : N ≤ 900000) (v : AV) : (env.put d v).get dslot = env.get dslot ∧ (env.put d v).get pslot = env.get pslot ∧ (env.put d v).get rslot = env.get rslot := by
  cases d with
  | none => exact ⟨rfl, rfl, rfl⟩
  | some t =>
    simp only [dstOk, decide_eq_true_eq] at hd
    have h1 : t ≠ dslot := by unfold dslot; omega
    have h2 : t ≠ pslot := by unfold pslot; omega
    have h3 : t ≠ rslot := by unfold rslot; omega
    simp only [Env.put, Env.get_cons]
    exact ⟨if_neg fun e => h1 e.symm, if_neg fun e => h2 e.symm, if_neg fun e => h3 e.symm⟩

/-- one operation, whichever -/
theorem stepOp_sound (hc : CallOK (progA P) P cx.cd) (he : ExtOK (progA P) P cx.ext) (hN : N ≤ 900000) {o : IOper} {m : Oper} {i : Nat} {rest : List Nat} (hi : mops[i]? = some m) (hok : okOper P N (md == 1) mops o m = true)
    {r : Option AV} {env' : Env} (h : stepOp cx base env0 o env S = some (r, env', S')) (R : Rel (progA P) B0 w0 g S w) (E : ER g S S.length env tm) (ht : tm.size = N) (F : FS q0 md b0 cs0 g S S.length env b cs) :
    ∃ tm' b' cs' g' w', (match r with
        | none => Steps P (lone (fat b tm (.inRegion mops (i :: rest) :: k)) cs w) (lone (fat b' tm' (.inRegion mops rest :: k)) cs' w')
        | some x => Reach P (lone (fat b tm (.inRegion mops (i :: rest) :: k)) cs w) b' k cs' tm' w' g' S' (.pan x)) ∧
      Rel (progA P) B0 w0 g' S' w' ∧ (∀ k, Le k g S g' S') ∧ S'.length = S.length ∧ ER g' S' S'.length env' tm' ∧ tm'.size = N ∧ FS q0 md b0 cs0 g' S' S'.length env' b' cs' := by
  obtain ⟨hdst, hdok⟩ := okOper.dst_eq hok
  cases hs : isSpec o.op with
  | false =>
    rw [stepOp_val hs] at h
    cases hv : valOp cx base env0 o env S with
    | none => rw [hv] at h; cases h
    | some p =>
      obtain ⟨out, S2⟩ := p
      rw [hv] at h
      obtain ⟨cv, w1, g1, he1, R1, l1, n1, v1⟩ := op_sound (b := b) (k := k) (cs := cs) (rest := rest) hc he R E hN ht hi hok hs hv
      cases out with
      | ret v =>
        simp only at h
        cases h
        have E1 : ER g1 S' S'.length (env.put o.dst v) (putT tm m.dst cv) := by
          rw [hdst]
          refine ER.putT ?_ (by rw [ht]; exact hdok) v1
          rw [n1]
          exact E.mono (l1 _)
        obtain ⟨a1, a2, a3⟩ := spec_slots (env := env) hdok hN v
        refine ⟨_, b, cs, g1, w1, he1, R1, l1, n1, E1, by rw [size_putT]; exact ht, ?_⟩
        rw [n1]
        exact (F.mono (l1 _)).withEnv a1 a2 a3
      | pan x =>
        simp only at h
        cases h
        obtain ⟨chain, hch, hst⟩ := he1
        refine ⟨tm, b, cs, g1, w1, ⟨cv, chain, _, hch, v1, hst⟩, R1, l1, n1, ?_, ht, ?_⟩
        · rw [n1]; exact E.mono (l1 _)
        · rw [n1]; exact F.mono (l1 _)
  | true =>
    have hok' := hok
    unfold okOper at hok'
    simp only [Bool.and_eq_true] at hok'
    obtain ⟨⟨⟨_, _⟩, hg⟩, hopk⟩ := hok'
    unfold stepOp at h
    cases hw : wants o env with
    | none => rw [hw] at h; cases h
    | some wt =>
      rw [hw] at h
      have hwt := wants_sound E hN ht hg hw
      cases wt with
      | false =>
        cases h
        have hskip : ((mops[i]?).map (Region.wanted · (yielded mops tm))).getD false = false := by rw [hi]; simpa using hwt
        have hst := st_op_skip (P := P) (b := b) (k := k) (cs := cs) (w := w) (rest := rest) hskip
        rw [hi] at hst
        obtain ⟨a1, a2, a3⟩ := spec_slots (env := env) hdok hN (.tup [])
        refine ⟨_, b, cs, g, w, .one hst, R, fun k => Le.refl _ _ _, rfl, ?_, by rw [size_putT]; exact ht, F.withEnv a1 a2 a3⟩
        show ER g S S.length (env.put o.dst (.tup [])) (putT tm m.dst undef)
        rw [hdst]
        exact E.putT (by rw [ht]; exact hdok) (by simp [V, undef, VT])
      | true =>
        simp only at h
        cases hop : o.op <;> rw [hop] at hs <;> first | (cases hs; done) | skip
        · -- a deferred call
          rw [hop] at hopk
          simp only [Bool.and_eq_true, beq_iff_eq] at hopk
          obtain ⟨hmd, hopk⟩ := hopk
          have hrd : b.roundOf = none := F.rd.trans (F.none (by omega))
          split at hopk
          · rename_i c hm
            split at hopk
            · rename_i x hx
              have hvs := opds_sound (g := g) (S := S) (k := S.length) E hN hopk
              unfold goOp at h
              rw [hop] at h
              simp only at h
              cases hxs : o.xs.map (fun x => x.get env) with
              | nil => rw [hxs] at h; cases h
              | cons y args =>
                rw [hxs] at hvs h
                cases y <;> simp only at h <;> first | (cases h; done) | skip
                rename_i f a c2
                simp only [List.map_cons, VT] at hvs
                obtain ⟨fv, as, e, h1, h2⟩ := hvs
                cases e
                have hfn : isFn (ev tm x) := by
                  simp only [V] at h1
                  obtain ⟨p, q, e, _⟩ := h1
                  exact ⟨_, _, _, e⟩
                have hst := st_op_defer (P := P) (k := k) (cs := cs) (w := w) (rest := rest) hrd hi hwt hm hx hfn
                obtain ⟨hd0, hdef, hrec⟩ := F.spec hmd
                obtain ⟨a1, a2, a3⟩ := spec_slots (env := env) hdok hN (.tup [])
                have hcase : ∀ ds, DV g S S.length ds b.defers → ∀ env2, env2 = (dslot, AV.tup (.tup (.fn f a c2 :: args) :: ds)) :: env.put o.dst (.tup []) → S' = S →
                    ∃ tm' b' cs' g' w', Steps P (lone (fat b tm (.inRegion mops (i :: rest) :: k)) cs w) (lone (fat b' tm' (.inRegion mops rest :: k)) cs' w') ∧
                      Rel (progA P) B0 w0 g' S' w' ∧ (∀ k, Le k g S g' S') ∧ S'.length = S.length ∧ ER g' S' S'.length env2 tm' ∧ tm'.size = N ∧ FS q0 md b0 cs0 g' S' S'.length env2 b' cs' := by
                  intro ds hds env2 e2 eS
                  subst e2 eS
                  refine ⟨_, _, cs, g, w, .one hst, R, fun k => Le.refl _ _ _, rfl, ?_, by rw [size_putT]; exact ht, ?_⟩
                  · refine ER.own ?_ (by unfold dslot; omega)
                    rw [hdst]
                    exact E.putT (by rw [ht]; exact hdok) (by simp [V, undef, VT])
                  · refine ⟨F.fn, F.kind, F.rd, F.none, F.q, fun hm => absurd hmd hm, fun _ => ⟨hd0, ?_, ?_⟩⟩
                    · rw [Env.get_cons, if_pos rfl]
                      simp only [DefOK, DV]
                      refine ⟨_, b.defers, .fn f a c2, args, ev tm x, c.args.toList.map (ev tm), rfl, rfl, hfn, ?_, h1, h2, hds⟩
                      congr 1
                      apply Array.ext'
                      simp
                    · rw [Env.get_cons, if_neg (by decide), Env.get_cons, if_neg (by decide), a2, a3]
                      exact hrec
                split at h
                · rename_i ds hdv
                  cases h
                  rw [hdv] at hdef
                  exact hcase ds hdef _ rfl rfl
                · rename_i hdv
                  cases h
                  rw [hdv] at hdef
                  exact hcase [] hdef _ rfl rfl
                · cases h
            · cases hopk
          · cases hopk
        · -- recover
          rw [hop] at hopk
          simp only [Bool.and_eq_true, beq_iff_eq] at hopk
          obtain ⟨hmd, hopk⟩ := hopk
          have hrd : b.roundOf = none := F.rd.trans (F.none (by omega))
          split at hopk
          · rename_i c hm
            split at hopk
            · rename_i hx
              have hst := st_op_recover (P := P) (k := k) (cs := cs) (w := w) (rest := rest) hrd hi hwt hm hx
              obtain ⟨hd0, hdef, hrec⟩ := F.spec hmd
              unfold goOp at h
              rw [hop] at h
              simp only at h
              split at h
              · rename_i t x hpv
                cases h
                obtain ⟨a1, a2, a3⟩ := spec_slots (env := env) hdok hN (.ifc t x)
                rw [hpv] at hrec
                rcases hrec with ⟨h1, h2, h3, _⟩ | ⟨_, h2, _⟩
                rotate_left
                · cases h2
                obtain ⟨caller, crest, xv, older, hk, hcs, hmode, hxv⟩ := h3 t x rfl
                have htr : tryRecover b cs = some (xv, { caller with mode := .panicking ({ v := xv, recovered := true } :: older) } :: crest) := by
                  subst h1
                  rw [hcs]
                  unfold tryRecover
                  rw [F.kind, hk]
                  simp [hmode]
                rw [htr] at hst
                refine ⟨_, b, _, g, w, .one hst, R, fun k => Le.refl _ _ _, rfl, ?_, by rw [size_putT]; exact ht, ?_⟩
                · refine ER.own (ER.own ?_ (by unfold pslot; omega)) (by unfold rslot; omega)
                  rw [hdst]
                  exact E.putT (by rw [ht]; exact hdok) hxv
                · refine ⟨F.fn, F.kind, F.rd, F.none, F.q, fun hm => absurd hmd hm, fun _ => ⟨hd0, ?_, ?_⟩⟩
                  · rw [Env.get_cons, if_neg (by decide), Env.get_cons, if_neg (by decide), a1]
                    exact hdef
                  · rw [Env.get_cons, if_neg (by decide), Env.get_cons, if_pos rfl, Env.get_cons, if_pos rfl]
                    exact .inr ⟨rfl, rfl, caller, crest, xv, older, hk, hcs, hmode, rfl⟩
              · rename_i hpv
                cases h
                obtain ⟨a1, a2, a3⟩ := spec_slots (env := env) hdok hN .nili
                have htr : tryRecover b cs = none := by
                  rcases hrec with ⟨h1, h2, h3, h4⟩ | ⟨h1, h2, caller, crest, xv, older, hk, hcs, hmode, h5⟩
                  · rw [h1, tryRecover_kind F.kind]
                    exact h4 hpv
                  · rw [h5]
                    unfold tryRecover
                    rw [F.kind, hk]
                rw [htr] at hst
                refine ⟨_, b, cs, g, w, .one hst, R, fun k => Le.refl _ _ _, rfl, ?_, by rw [size_putT]; exact ht, F.withEnv a1 a2 a3⟩
                show ER g S S.length (env.put o.dst .nili) (putT tm m.dst .nilIface)
                rw [hdst]
                exact E.putT (by rw [ht]; exact hdok) (by simp [V])
              · cases h
            · cases hopk
          · cases hopk

theorem runOps_sound (hc : CallOK (progA P) P cx.cd) (he : ExtOK (progA P) P cx.ext) (hN : N ≤ 900000) : ∀ (os : List IOper) (i : Nat) {r : Option AV} {env env' : Env} {g : Sg} {S S' : Sto} {w : World} {tm : Array Value} {b : Frame} {cs : List Frame},
    okOps P N (md == 1) mops i os = true → runOps cx base env0 os env S = some (r, env', S') → Rel (progA P) B0 w0 g S w → ER g S S.length env tm → tm.size = N → FS q0 md b0 cs0 g S S.length env b cs →
    CodeEnds P B0 w0 q0 N md b0 cs0 (lone (fat b tm (.inRegion mops (List.range' i os.length) :: k)) cs w) k g S (match r with | none => .nrm | some x => .pan x) env' S'
  | [], i, r, env, env', g, S, S', w, tm, b, cs, hok, h, R, E, ht, F => by
    simp only [runOps] at h
    cases h
    exact ⟨tm, b, cs, g, w, .one st_region_end, R, fun k => Le.refl _ _ _, rfl, E, ht, F⟩
  | o :: os, i, r, env, env', g, S, S', w, tm, b, cs, hok, h, R, E, ht, F => by
    simp only [okOps, Bool.and_eq_true] at hok
    obtain ⟨h1, h2⟩ := hok
    split at h1
    · rename_i m hm
      simp only [runOps] at h
      rw [List.length_cons, List.range'_succ]
      split at h
      · rename_i env1 S1 hst
        obtain ⟨tm1, b1, cs1, g1, w1, s1, R1, l1, n1, E1, t1, F1⟩ := stepOp_sound (k := k) (rest := List.range' (i + 1) os.length) hc he hN hm h1 hst R E ht F
        exact CodeEnds.trans s1 l1 n1 (runOps_sound hc he hN os (i + 1) h2 h R1 E1 t1 F1)
      · rename_i hno
        cases r with
        | none => exact absurd h (hno _ _)
        | some x =>
          obtain ⟨tm1, b1, cs1, g1, w1, s1, R1, l1, n1, E1, t1, F1⟩ := stepOp_sound (k := k) (rest := List.range' (i + 1) os.length) hc he hN hm h1 h R E ht F
          exact ⟨tm1, b1, cs1, g1, w1, s1, R1, l1, n1, E1, t1, F1⟩
    · cases h1

theorem okOps.size {sp : Bool} : ∀ {os : List IOper} {i : Nat}, okOps P N sp mops i os = true → mops.size = i + os.length
  | [], i, h => by
    have : i = mops.size := by simpa [okOps] using h
    simp [this]
  | o :: os, i, h => by
    simp only [okOps, Bool.and_eq_true] at h
    have := okOps.size h.2
    simp
    omega

end Go.Wm

set_option linter.unusedVariables false
set_option linter.unusedSimpArgs false
namespace Go.Wm
open Go.RowKit

variable {P : Program} {B0 : Nat} {w0 w w' : World} {g g' : Sg} {S S' S1 : Sto} {b b0 : Frame} {tm : Array Value} {k : List Item} {cs cs0 : List Frame} {env env1 : Env} {cx : Cx}
variable {q0 : List (Nat × Obj)} {N md base : Nat} {mops : Array Oper}

/-- slots that no operation writes stay -/
theorem runOpsD_get {env0 : Env} {t : Nat} : ∀ {os : List IOper} {env env1 : Env} {S S1 : Sto} {fs0 fs : List Fp}, (∀ o ∈ os, isSpec o.op = false ∧ o.dst ≠ some t) → runOpsD cx base env0 os env S fs0 = some (env1, S1, fs) → env1.get t = env.get t
  | [], env, env1, S, S1, fs0, fs, _, h => by
    simp only [runOpsD] at h
    cases h
    rfl
  | o :: os, env, env1, S, S1, fs0, fs, hs, h => by
    simp only [runOpsD] at h
    rw [stepOp_val (hs o (by simp)).1] at h
    cases hv : valOp cx base env0 o env S with
    | none => rw [hv] at h; cases h
    | some p =>
      obtain ⟨out, S2⟩ := p
      rw [hv] at h
      cases out with
      | pan x => cases h
      | ret v =>
        simp only at h
        rw [runOpsD_get (fun o ho => hs o (by simp [ho])) h, Env.get_put, if_neg (hs o (by simp)).2]
theorem runReg_get {env0 : Env} {t : Nat} {os : List IOper} {sp : Option (Bool × Nat × Nat)} {fs : List Fp} (hs : ∀ o ∈ os, isSpec o.op = false ∧ o.dst ≠ some t) (h : runReg cx base env0 os sp env S = some (env1, S1, fs)) : env1.get t = env.get t := by
  unfold runReg at h
  split at h
  · rename_i c m
    split at h
    · rename_i e1 T1 f1 h1
      split at h
      · rename_i e2 T2 f2 h2
        split at h
        · rw [runOpsD_get (fun o ho => hs o (List.mem_of_mem_drop ho)) h, runOpsD_get (fun o ho => hs o (List.mem_of_mem_drop (List.mem_of_mem_take ho))) h2, runOpsD_get (fun o ho => hs o (List.mem_of_mem_take ho)) h1]
        · cases h
      · cases h
    · cases h
  · exact runOpsD_get hs h

theorem Le.whole' {k : Nat} (h : Le S.length g S g' S') (hl : S'.length = S.length) : Le k g S g' S' := h.whole hl
/-- the round of a loop begins as the loop stands: what is asked of calls -/
structure Hyp (P : Program) (cx : Cx) (N : Nat) : Prop where
  call : CallOK (progA P) P cx.cd
  ext : ExtOK (progA P) P cx.ext
  n : N ≤ 900000

theorem rangeF_sound (H : Hyp P cx N) {s : Nat} {f : Opd} {params : List Nat} {assign body : IC} {c : Code} (hok : okC P N md (.rangeF s f params assign body) c = true) (hb0 : (P.funcs[b0.fn]?).isSome = true) (hmd : md = 0)
    {ex : Ex} {env' : Env} {lf : Nat} (h : exec lf cx base (.rangeF s f params assign body) env S = some (ex, env', S')) (hbase : base ≤ S.length) (R : Rel (progA P) B0 w0 g S w) (E : ER g S S.length env tm) (ht : tm.size = N) (F : FS q0 md b0 cs0 g S S.length env b cs) :
    CodeEnds P B0 w0 q0 N md b0 cs0 (lone (fat b tm (.code c :: k)) cs w) k g S ex env' S' := by
  subst hmd
  cases c <;> simp only [okC, Bool.false_eq_true, Bool.and_eq_true, beq_iff_eq] at hok
  rename_i f' params' assign' body'
  obtain ⟨⟨⟨⟨⟨_, hfo⟩, hps⟩, hpn⟩, hka⟩, hkb⟩ := hok
  simp only [exec] at h
  split at h
  rotate_left
  · cases h
  rename_i hb
  have hrd : b.roundOf = none := F.rd.trans (F.none (by decide))
  -- memory: the list of deferred calls, and the loop
  let L : Loop := { state := .ready, pending := none, fn := b.fn, tmps := tm, params := params', assign := assign', body := body', defers := w.heap.size }
  let w1 : World := w.alloc (.deferred (some []))
  let w2 : World := w1.alloc (.loop L)
  have hw1 : w1.heap.size = w.heap.size + 1 := by simp [w1]
  have hbel1 : Below w.heap.size w w1 := (Below.refl _ _).alloc (Nat.le_refl _) _
  have hbel2 : Below w1.heap.size w1 w2 := (Below.refl _ _).alloc (Nat.le_refl _) _
  have Ra : Rel (progA P) B0 w0 { g with q := (w.heap.size, .deferred (some [])) :: g.q } S w1 := by
    refine (R.later hbel1).wait R.room (heap_alloc_new w _) ?_ ?_
    · cases hh : g.h w.heap.size with
      | none => rfl
      | some x =>
        obtain ⟨t', fz, h⟩ := R.him _ _ hh
        have := (Array.getElem?_eq_some_iff.1 h).1
        omega
    · intro b' s' h5 h6
      have := R.there h5 h6
      omega
  have la : ∀ k, Le k g S { g with q := (w.heap.size, .deferred (some [])) :: g.q } S := fun k => ⟨fun _ _ h => h, fun _ _ => Nat.le_refl _, fun _ _ _ _ h => ⟨h, rfl⟩, rfl, fun p hp => List.mem_cons_of_mem _ hp⟩
  let x : Blk := .loop (S.ver (base + s) + 1) base S.length env params assign body 0 none
  have hlt : S.ver (base + s) < x.ver := Nat.lt_succ_self _
  let ga : Sg := { g with q := (w.heap.size, .deferred (some [])) :: g.q }
  let g1 : Sg := ga.put (base + s) (some (w1.heap.size, 0))
  have lb : ∀ k, Le k ga S g1 (S.set (base + s) x) := fun k => Le.bump hb hlt _ k
  have Rb : Rel (progA P) B0 w0 g1 (S.set (base + s) x) w2 := by
    refine Rel.new Ra hb hlt (some (w1.heap.size, 0)) hbel2 (fun cb s h => by cases h; exact Nat.le_refl _) ?_
    refine ⟨w1.heap.size, L, Sg.put_same _ _, Ra.room, ?_, heap_alloc_new w1 _, rfl, trivial, hps.symm, ?_, ?_, ⟨?_, ?_⟩, hbase, by simp, ?_⟩
    · show g.h w1.heap.size = none
      cases hh : g.h w1.heap.size with
      | none => rfl
      | some x =>
        obtain ⟨t', fz, h⟩ := R.him _ _ hh
        have := (Array.getElem?_eq_some_iff.1 h).1
        omega
    · show okC P tm.size 2 assign assign' = true ∧ tm.size ≤ 900000
      rw [ht]
      exact ⟨hka, H.n⟩
    · show okC P tm.size 2 body body' = true ∧ tm.size ≤ 900000
      rw [ht]
      exact ⟨hkb, H.n⟩
    · show (P.funcs[b.fn]?).isSome = true
      rw [F.fn]
      exact hb0
    · intro p hp
      have := List.all_eq_true.1 hpn p hp
      show p < tm.size
      rw [ht]
      simpa using this
    · exact (E.mono (la _)).mono (lb _)
  -- the call
  cases hcd : cx.cd none (f.get env) [.yld (base + s) (S.ver (base + s) + 1)] (S.set (base + s) x) with
  | none => rw [hcd] at h; cases h
  | some p =>
    obtain ⟨o, rec, S2⟩ := p
    rw [hcd] at h
    simp only at h
    have hfv : V g1 (S.set (base + s) x) (S.set (base + s) x).length (f.get env) (ev tm f') := by
      rw [List.length_set]
      exact V.mono (lb _) _ _ (V.mono (la _) _ _ (opd_sound E H.n hfo))
    have hav : VT g1 (S.set (base + s) x) (S.set (base + s) x).length [.yld (base + s) (S.ver (base + s) + 1)] [.func (.yield w1.heap.size) #[] #[]] := by
      simp only [VT, V]
      exact ⟨_, [], rfl, ⟨rfl, by simpa using hb, by rw [ver_set hb]; simp [x, Blk.ver], fun _ _ _ => ⟨w1.heap.size, 0, Sg.put_same _ _, rfl⟩⟩, rfl⟩
    obtain ⟨hfn, Fr, hF, hN, _⟩ := H.call none _ _ _ o rec S2 hcd _ _ _ w2 (ev tm f') [.func (.yield w1.heap.size) #[] #[]] Rb hfv hav
    let fr : Frame := { fat b tm (.inRangeFunc (w.heap.size + 1) :: k) with defers := marks' b w.heap.size }
    obtain ⟨cv, w3, g3, R3, l3, n3, v3, hE⟩ := hN rfl fr cs
    have first : step P (lone (fat b tm (.code (.rangeFunc f' params' assign' body') :: k)) cs w) = .next (lone (Fr .normal) (fr :: cs) w2) := by
      refine st_rangeFunc hrd rfl hfn ?_
      rw [← hw1]
      exact hF
    rw [List.length_set] at l3 n3
    -- behind it
    have hcut : S.length ≤ S2.length := n3
    have fs' : ∀ {g' : Sg} {S' : Sto}, (∀ k, Le k g S g' S') → S'.length = S.length → (w.heap.size, Obj.deferred (some [])) ∈ g'.q → FS q0 0 b0 cs0 g' S' S'.length env { b with defers := marks' b w.heap.size } cs := by
      intro g' S' hl hn hq
      have F' := F.mono (hl S.length)
      rw [← hn] at F'
      refine ⟨F.fn, F.kind, F.rd, F.none, F'.q, fun hm => ?_, fun hm => absurd hm (by decide)⟩
      obtain ⟨h1, h2, h3, rs, h4, h5, h6, h7⟩ := F.plain hm
      refine ⟨h1, h2, h3, w.heap.size :: rs, by simp [marks', mkMark, h4], List.nodup_cons.2 ⟨fun hr => ?_, h5⟩, fun r hr => ?_, fun e => absurd e (by decide)⟩
      · have := (Array.getElem?_eq_some_iff.1 (R.q _ (h6 _ hr).1).2.1).1
        simp at this
      · rcases List.mem_cons.1 hr with rfl | hr
        · refine ⟨hq, fun p hp e => ?_⟩
          have := (Array.getElem?_eq_some_iff.1 (R.q _ (F.q p hp)).2.1).1
          omega
        · exact ⟨(hl 0).q _ (h6 r hr).1, (h6 r hr).2⟩
    cases hrt : retire S.length (fun _ => []) o S2 with
    | none => rw [hrt] at h; cases h
    | some p =>
      obtain ⟨o', S3⟩ := p
      rw [hrt] at h
      obtain ⟨hlike, g4, R4, l4, n4, q4, v4⟩ := retire_sound R3 hcut v3 hrt
      have l14 : ∀ k, Le k g1 (S.set (base + s) x) g4 S3 := fun k => (Le.whole' (by rw [List.length_set]; exact l3.trans l4) (by simpa using n4))
      have lall : ∀ k, Le k g S g4 S3 := fun k => (la k).trans ((lb k).trans (l14 k))
      have hq4 : (w.heap.size, Obj.deferred (some [])) ∈ g4.q := (l14 0).q _ (by simp [g1, Sg.put, ga])
      cases o' with
      | pan x' =>
        simp only at h
        cases h
        cases o with
        | ret _ => exact hlike.elim
        | pan y =>
          obtain ⟨chain, hch, hst⟩ := hE
          refine ⟨tm, { b with defers := marks' b w.heap.size }, cs, g4, w3, ⟨cv, chain, _, hch, v4, .head first hst⟩, R4, lall, n4, ?_, ht, fs' lall n4 hq4⟩
          rw [n4]
          exact E.mono (lall _)
      | ret v' =>
        cases o with
        | pan _ => exact hlike.elim
        | ret y =>
          simp only at h
          have hE : Steps P _ (lone (fr.finish cv) cs w3) := hE
          have hfin : fr.finish cv = fat { b with defers := marks' b w.heap.size } tm (.endRangeFunc (w.heap.size + 1) :: k) := rfl
          rw [hfin] at hE
          cases hblk : S3[base + s]? with
          | none => rw [hblk] at h; cases h
          | some y3 =>
            rw [hblk] at h
            cases y3 <;> simp only at h <;> first | (cases h; done) | skip
            rename_i v5 base5 lev5 env5 ps5 as5 bo5 st5 jump5
            split at h
            rotate_left
            · cases h
            rename_i hv
            obtain ⟨rfl, hst⟩ := hv
            have hlt3 : base + s < S3.length := (List.getElem?_eq_some_iff.1 hblk).1
            obtain ⟨cb, L5, hm5, hB5, hh5, hheap5, hstate, hjump, _⟩ := R4.blk _ _ hblk
            -- the same place in memory
            have hsame := (l14 (base + s + 1)).sig (base + s) (by omega) (by rw [ver_some hblk, ver_set hb]; simp [x, Blk.ver]) (4, 0) (by rw [sig_some hblk]; rfl)
            have hcb : cb = w.heap.size + 1 := by
              have := hsame.2
              rw [hm5] at this
              have h6 : g1.m (base + s) = some (w1.heap.size, 0) := Sg.put_same _ _
              rw [h6] at this
              cases this
              exact hw1
            subst hcb
            have hbusy : L5.state ≠ .busy := by
              rw [hstate]
              match st5, hst with
              | 0, _ => simp
              | 1, _ => simp
            have second := st_endRange (P := P) (b := { b with defers := marks' b w.heap.size }) (tm := tm) (k := k) (cs := cs) hheap5 hbusy
            let w4 : World := { w3 with heap := w3.heap.setIfInBounds (w.heap.size + 1) (.loop { L5 with state := .exhausted }) }
            have hR5 : Rel (progA P) B0 w0 g4 (S3.set (base + s) (.dead (S.ver (base + s) + 1))) w4 := by
              refine R4.write hlt3 (by rw [ver_some hblk]; exact Nat.le_refl _) (.inr rfl) (cb := w.heap.size + 1) ?_ (.inr ⟨by rw [sig_some hblk]; simp [Blk.sig], ⟨_, hm5⟩, hh5, hB5⟩) ?_ rfl rfl rfl (by simp [w4]) trivial
              · intro _ c s' hc
                rw [hm5] at hc
                cases hc
                rfl
              · intro i hi
                simp only [w4]
                rw [Array.getElem?_setIfInBounds_ne (fun e => hi e.symm)]
            have l5 : ∀ k, Le k g4 S3 g4 (S3.set (base + s) (.dead (S.ver (base + s) + 1))) := fun k => Le.turn hlt3 (by rw [ver_some hblk]; exact Nat.le_refl _) (.inr rfl) k
            have lfin : ∀ k, Le k g S g4 (S3.set (base + s) (.dead (S.ver (base + s) + 1))) := fun k => (lall k).trans (l5 k)
            have nfin : (S3.set (base + s) (Blk.dead (S.ver (base + s) + 1))).length = S.length := by rw [List.length_set]; exact n4
            have hsteps : Steps P (lone (fat b tm (.code (.rangeFunc f' params' assign' body') :: k)) cs w) (lone (fat { b with defers := marks' b w.heap.size } tm ((L5.pending.map Item.code).toList ++ k)) cs w4) :=
              .head first (Steps.trans hE (.one second))
            have hEfin : ER g4 (S3.set (base + s) (.dead (S.ver (base + s) + 1))) (S3.set (base + s) (Blk.dead (S.ver (base + s) + 1))).length env tm := by
              rw [nfin]
              exact E.mono (lfin _)
            cases jump5 with
            | none =>
              simp only at h
              cases h
              have hp : L5.pending = none := by
                cases hq : L5.pending with
                | none => rfl
                | some c => rw [hq] at hjump; cases c <;> exact hjump.elim
              rw [hp] at hsteps
              exact ⟨tm, _, cs, g4, w4, hsteps, hR5, lfin, nfin, hEfin, ht, fs' lfin nfin hq4⟩
            | some j =>
              simp only [Option.some.injEq, Prod.mk.injEq] at h
              obtain ⟨hj, he', hS'⟩ := h
              subst he' hS'
              rw [← hj]
              clear hj
              cases hq : L5.pending with
              | none => rw [hq] at hjump; cases j <;> exact hjump.elim
              | some c =>
                rw [hq] at hjump hsteps
                refine ⟨tm, _, cs, g4, w4, ?_, hR5, lfin, nfin, hEfin, ht, fs' lfin nfin hq4⟩
                cases j <;> cases c <;> first | exact hjump.elim | skip
                · have : _ = _ := hjump
                  subst this
                  exact ⟨k, rfl, hsteps⟩
                · have : _ = _ := hjump
                  subst this
                  exact ⟨k, rfl, hsteps⟩
                · exact ⟨k, hsteps⟩

theorem exec_sound (H : Hyp P cx N) (hb0 : (P.funcs[b0.fn]?).isSome = true) (lf : Nat) : ∀ (ic : IC) (c : Code) {env env' : Env} {g : Sg} {S S' : Sto} {w : World} {tm : Array Value} {b : Frame} {cs : List Frame} {k : List Item} {ex : Ex},
    okC P N md ic c = true → exec lf cx base ic env S = some (ex, env', S') → base ≤ S.length → Rel (progA P) B0 w0 g S w → ER g S S.length env tm → tm.size = N → FS q0 md b0 cs0 g S S.length env b cs →
    CodeEnds P B0 w0 q0 N md b0 cs0 (lone (fat b tm (.code c :: k)) cs w) k g S ex env' S' := by
  intro ic
  induction ic with
  | skip =>
    intro c env env' g S S' w tm b cs k ex hok h hbase R E ht F
    cases c <;> simp only [okC, Bool.false_eq_true] at hok
    simp only [exec] at h
    cases h
    exact ⟨tm, b, cs, g, w, .one st_skip, R, fun k => Le.refl _ _ _, rfl, E, ht, F⟩
  | label l =>
    intro c env env' g S S' w tm b cs k ex hok h hbase R E ht F
    cases c <;> simp only [okC, Bool.false_eq_true] at hok
    simp only [exec] at h
    cases h
    exact ⟨tm, b, cs, g, w, .one st_label, R, fun k => Le.refl _ _ _, rfl, E, ht, F⟩
  | reg ops =>
    intro c env env' g S S' w tm b cs k ex hok h hbase R E ht F
    cases c <;> (try simp only [okC, Bool.false_eq_true] at hok)
    rename_i id mops draw
    cases draw <;> simp only [okC, Bool.false_eq_true] at hok
    simp only [exec] at h
    have hsz := okOps.size hok
    have hrange : List.range mops.size = List.range' 0 ops.length := by rw [List.range_eq_range', hsz, Nat.zero_add]
    have first : Steps P (lone (fat b tm (.code (.region id mops false) :: k)) cs w) (lone (fat b tm (.inRegion mops (List.range' 0 ops.length) :: k)) cs w) := by
      rw [← hrange]
      exact .one st_region
    split at h
    · rename_i env1 S1 hr
      cases h
      exact (runOps_sound H.call H.ext H.n ops 0 hok hr R E ht F).trans first (fun k => Le.refl _ _ _) rfl
    · rename_i x env1 S1 hr
      cases h
      exact (runOps_sound H.call H.ext H.n ops 0 hok hr R E ht F).trans first (fun k => Le.refl _ _ _) rfl
    · cases h
  | regD ops idx sp pairs =>
    intro c env env' g S S' w tm b cs k ex hok h hbase R E ht F
    cases c <;> (try simp only [okC, Bool.false_eq_true] at hok)
    rename_i id mops draw
    cases draw <;> simp only [okC, Bool.false_eq_true] at hok
    simp only [exec] at h
    split at h
    · rename_i env1 S1 fs hr
      split at h
      · rename_i hp
        cases h
        obtain ⟨tm', g', w', hs, R', l', n', E', t'⟩ := region_draw_sound (b := b) (k := k) (cs := cs) (id := id) H.call H.ext H.n hok hr hp R E ht
        have C := okReg.out hok
        have hspec : ∀ t, 900000 ≤ t → ∀ o ∈ ops, isSpec o.op = false ∧ o.dst ≠ some t := by
          intro t htl o ho
          obtain ⟨p, hp⟩ := List.mem_iff_getElem?.1 ho
          obtain ⟨_, _, _, _, h5, h6⟩ := C.op p o hp
          refine ⟨h6, fun e => ?_⟩
          have := (okOper.dst_eq h5).2
          rw [e] at this
          simp only [dstOk, decide_eq_true_eq] at this
          have := H.n
          omega
        refine ⟨tm', b, cs, g', w', hs, R', l', n', E', t', ?_⟩
        rw [n']
        exact (F.mono (l' _)).withEnv (runReg_get (hspec dslot (by decide)) hr) (runReg_get (hspec pslot (by decide)) hr) (runReg_get (hspec rslot (by decide)) hr)
      · cases h
    · cases h
  | kpre ks a ih =>
    intro c env env' g S S' w tm b cs k ex hok h hbase R E ht F
    simp only [okC, Bool.and_eq_true] at hok
    simp only [exec] at h
    exact ih c hok.2 h hbase R (E.keep ks) ht (F.keep hok.1)
  | kpost a ks ih =>
    intro c env env' g S S' w tm b cs k ex hok h hbase R E ht F
    simp only [okC, Bool.and_eq_true] at hok
    simp only [exec] at h
    split at h
    · rename_i env1 S1 h1
      cases h
      obtain ⟨tm', b', cs', g', w', r1, r2, r3, r4, r5, r6, r7⟩ := ih c hok.2 h1 hbase R E ht F
      exact ⟨tm', b', cs', g', w', r1, r2, r3, r4, r5.keep ks, r6, r7.keep hok.1⟩
    · exact ih c hok.2 h hbase R E ht F
  | seq x y ihx ihy =>
    intro c env env' g S S' w tm b cs k ex hok h hbase R E ht F
    cases c <;> simp only [okC, Bool.false_eq_true, Bool.and_eq_true] at hok
    rename_i c d
    simp only [exec] at h
    split at h
    · rename_i env1 S1 h1
      obtain ⟨tm', b', cs', g', w', r1, r2, r3, r4, r5, r6, r7⟩ := ihx c (k := .code d :: k) hok.1 h1 hbase R E ht F
      have r1 : Steps P _ _ := r1
      exact (ihy d hok.2 h (by rw [r4]; exact hbase) r2 r5 r6 r7).trans (.head st_seq r1) r3 r4
    · rename_i hno
      obtain ⟨tm', b', cs', g', w', r1, r2, r3, r4, r5, r6, r7⟩ := ihx c (k := .code d :: k) hok.1 h hbase R E ht F
      exact ⟨tm', b', cs', g', w', ((r1.pass (x := .code d) rfl (by rintro rfl; exact hno _ _ h))).of (.one st_seq), r2, r3, r4, r5, r6, r7⟩
  | cond x y z ihy ihz =>
    intro c env env' g S S' w tm b cs k ex hok h hbase R E ht F
    cases c <;> simp only [okC, Bool.false_eq_true, Bool.and_eq_true] at hok
    rename_i xo c d
    simp only [exec] at h
    have hx := opd_sound E H.n hok.1.1
    split at h
    · rename_i t hxv
      rw [hxv] at hx
      simp only [V] at hx
      cases t with
      | true =>
        simp only [if_true] at h
        exact (ihy c hok.1.2 h hbase R E ht F).trans (.one (st_cond hx)) (fun k => Le.refl _ _ _) rfl
      | false =>
        simp only [Bool.false_eq_true, if_false] at h
        exact (ihz d hok.2 h hbase R E ht F).trans (.one (st_cond hx)) (fun k => Le.refl _ _ _) rfl
    · cases h
  | block id a ih =>
    intro c env env' g S S' w tm b cs k ex hok h hbase R E ht F
    cases c <;> simp only [okC, Bool.false_eq_true, Bool.and_eq_true, beq_iff_eq] at hok
    rename_i id' c
    obtain ⟨rfl, hok⟩ := hok
    simp only [exec] at h
    split at h
    · rename_i i env1 S1 h1
      obtain ⟨tm', b', cs', g', w', r1, r2, r3, r4, r5, r6, r7⟩ := ih c (k := .inBlock id :: k) hok h1 hbase R E ht F
      obtain ⟨k', hk', hs⟩ := r1
      split at h
      · rename_i hi
        subst hi
        cases h
        refine ⟨tm', b', cs', g', w', ?_, r2, r3, r4, r5, r6, r7⟩
        have hex : exitTo i k' = some k := by rw [hk']; simp [exitTo]
        exact .head st_block (Steps.trans hs (.one (st_exit hex)))
      · rename_i hi
        cases h
        refine ⟨tm', b', cs', g', w', ⟨k', ?_, .head st_block hs⟩, r2, r3, r4, r5, r6, r7⟩
        have : (id == i) = false := by simpa using fun e => hi e.symm
        rw [hk']
        simp [exitTo, this]
    · rename_i hno
      obtain ⟨tm', b', cs', g', w', r1, r2, r3, r4, r5, r6, r7⟩ := ih c (k := .inBlock id :: k) hok h hbase R E ht F
      refine ⟨tm', b', cs', g', w', ?_, r2, r3, r4, r5, r6, r7⟩
      cases ex with
      | nrm => exact .head st_block (Steps.trans r1 (.one st_inBlock))
      | exit i => exact absurd h (hno _ _ _)
      | goto l =>
        obtain ⟨k', hk', hs⟩ := r1
        exact ⟨k', by rw [hk']; simp [gotoIn], .head st_block hs⟩
      | ret =>
        obtain ⟨k', hs⟩ := r1
        exact ⟨k', .head st_block hs⟩
      | pan x =>
        obtain ⟨cv, chain, todo, h1, h2, h3⟩ := r1
        exact ⟨cv, chain, todo, h1, h2, .head st_block h3⟩
  | loop a ih =>
    intro c env env' g S S' w tm b cs k ex hok h hbase R E ht F
    cases c <;> simp only [okC, Bool.false_eq_true] at hok
    rename_i c
    simp only [exec] at h
    have key : ∀ (n : Nat) {env : Env} {g : Sg} {S : Sto} {w : World} {tm : Array Value} {b : Frame} {cs : List Frame}, iter (exec lf cx base a) n env S = some (ex, env', S') → base ≤ S.length → Rel (progA P) B0 w0 g S w → ER g S S.length env tm → tm.size = N → FS q0 md b0 cs0 g S S.length env b cs →
        CodeEnds P B0 w0 q0 N md b0 cs0 (lone (fat b tm (.code c :: .inLoop c :: k)) cs w) k g S ex env' S' := by
      intro n
      induction n with
      | zero => intro env g S w tm b cs h; simp [iter] at h
      | succ n ihn =>
        intro env g S w tm b cs h hbase R E ht F
        simp only [iter] at h
        split at h
        · rename_i env1 S1 h1
          obtain ⟨tm', b', cs', g', w', r1, r2, r3, r4, r5, r6, r7⟩ := ih c (k := .inLoop c :: k) hok h1 hbase R E ht F
          have r1 : Steps P _ _ := r1
          exact (ihn h (by rw [r4]; exact hbase) r2 r5 r6 r7).trans (Steps.trans r1 (.one st_inLoop)) r3 r4
        · rename_i hno
          obtain ⟨tm', b', cs', g', w', r1, r2, r3, r4, r5, r6, r7⟩ := ih c (k := .inLoop c :: k) hok h hbase R E ht F
          exact ⟨tm', b', cs', g', w', r1.pass (x := .inLoop c) rfl (by rintro rfl; exact hno _ _ h), r2, r3, r4, r5, r6, r7⟩
    exact (key lf h hbase R E ht F).trans (.one st_loop) (fun k => Le.refl _ _ _) rfl
  | exit id =>
    intro c env env' g S S' w tm b cs k ex hok h hbase R E ht F
    cases c <;> simp only [okC, Bool.false_eq_true, beq_iff_eq] at hok
    subst hok
    simp only [exec] at h
    cases h
    exact ⟨tm, b, cs, g, w, ⟨k, rfl, Steps.refl _ _⟩, R, fun k => Le.refl _ _ _, rfl, E, ht, F⟩
  | goto l =>
    intro c env env' g S S' w tm b cs k ex hok h hbase R E ht F
    cases c <;> simp only [okC, Bool.false_eq_true, beq_iff_eq] at hok
    subst hok
    simp only [exec] at h
    cases h
    exact ⟨tm, b, cs, g, w, ⟨k, rfl, Steps.refl _ _⟩, R, fun k => Le.refl _ _ _, rfl, E, ht, F⟩
  | ret =>
    intro c env env' g S S' w tm b cs k ex hok h hbase R E ht F
    cases c <;> simp only [okC, Bool.false_eq_true] at hok
    simp only [exec] at h
    cases h
    exact ⟨tm, b, cs, g, w, ⟨k, Steps.refl _ _⟩, R, fun k => Le.refl _ _ _, rfl, E, ht, F⟩
  | scope0 a ih =>
    intro c env env' g S S' w tm b cs k ex hok h hbase R E ht F
    cases c <;> simp only [okC, Bool.false_eq_true, Bool.and_eq_true, beq_iff_eq] at hok
    rename_i c
    simp only [exec] at h
    obtain ⟨tm', b', cs', g', w', r1, r2, r3, r4, r5, r6, r7⟩ := ih c (k := .inScope c :: k) hok.1 h hbase R E ht F
    refine ⟨tm', b', cs', g', w', ?_, r2, r3, r4, r5, r6, r7⟩
    cases ex with
    | nrm => exact .head st_scope (Steps.trans r1 (.one st_inScope))
    | exit i =>
      obtain ⟨k', hk', hs⟩ := r1
      exact ⟨k', by rw [hk']; simp [exitTo], .head st_scope hs⟩
    | goto l =>
      obtain ⟨k', hk', hs⟩ := r1
      refine ⟨k', ?_, .head st_scope hs⟩
      rw [hk']
      simp [gotoIn, findLabel_none (l := l) (c := c) (by rw [hok.2]; simp)]
    | ret =>
      obtain ⟨k', hs⟩ := r1
      exact ⟨k', .head st_scope hs⟩
    | pan x =>
      obtain ⟨cv, chain, todo, h1, h2, h3⟩ := r1
      exact ⟨cv, chain, todo, h1, h2, .head st_scope h3⟩
  | scope a rest l iha ihr =>
    intro c env env' g S S' w tm b cs k ex hok h hbase R E ht F
    cases c <;> simp only [okC, Bool.false_eq_true, Bool.and_eq_true, beq_iff_eq] at hok
    rename_i c
    obtain ⟨⟨hok1, hlab⟩, hok2⟩ := hok
    split at hok2
    rotate_left
    · cases hok2
    rename_i rc hrc
    have hother : ∀ l', l' ≠ l → findLabel c l' = none := fun l' hne => findLabel_none (by rw [hlab]; simpa using hne)
    -- leaving the scope's item
    have leave : ∀ {m : Machine} {b' : Frame} {cs' : List Frame} {tm' : Array Value} {w' : World} {g' : Sg} {S' : Sto} {ex : Ex}, (∀ l', ex = .goto l' → l' ≠ l) → Reach P m b' (.inScope c :: k) cs' tm' w' g' S' ex → Reach P m b' k cs' tm' w' g' S' ex := by
      intro m b' cs' tm' w' g' S' ex hne r
      cases ex with
      | nrm => exact Steps.trans r (.one st_inScope)
      | exit i =>
        obtain ⟨k', hk', hs⟩ := r
        exact ⟨k', by rw [hk']; simp [exitTo], hs⟩
      | goto l' =>
        obtain ⟨k', hk', hs⟩ := r
        exact ⟨k', by rw [hk']; simp [gotoIn, hother l' (hne l' rfl)], hs⟩
      | ret => exact r
      | pan x => exact r
    have key : ∀ (n : Nat) {env : Env} {g : Sg} {S : Sto} {w : World} {tm : Array Value} {b : Frame} {cs : List Frame}, iterG (exec lf cx base rest) l n env S = some (ex, env', S') → base ≤ S.length → Rel (progA P) B0 w0 g S w → ER g S S.length env tm → tm.size = N → FS q0 md b0 cs0 g S S.length env b cs →
        CodeEnds P B0 w0 q0 N md b0 cs0 (lone (fat b tm (.code rc :: .inScope c :: k)) cs w) k g S ex env' S' := by
      intro n
      induction n with
      | zero => intro env g S w tm b cs h; simp [iterG] at h
      | succ n ihn =>
        intro env g S w tm b cs h hbase R E ht F
        simp only [iterG] at h
        split at h
        · rename_i l' env1 S1 h1
          obtain ⟨tm', b', cs', g', w', r1, r2, r3, r4, r5, r6, r7⟩ := ihr rc (k := .inScope c :: k) hok2 h1 hbase R E ht F
          split at h
          · rename_i hl
            subst hl
            obtain ⟨k', hk', hs⟩ := r1
            have hgo : gotoIn l' k' = some (.code rc :: .inScope c :: k) := by rw [hk']; simp [gotoIn, hrc]
            exact (ihn h (by rw [r4]; exact hbase) r2 r5 r6 r7).trans (Steps.trans hs (.one (st_goto hgo))) r3 r4
          · rename_i hl
            cases h
            exact ⟨tm', b', cs', g', w', leave (by intro l'' e; cases e; exact hl) r1, r2, r3, r4, r5, r6, r7⟩
        · rename_i hno
          obtain ⟨tm', b', cs', g', w', r1, r2, r3, r4, r5, r6, r7⟩ := ihr rc (k := .inScope c :: k) hok2 h hbase R E ht F
          exact ⟨tm', b', cs', g', w', leave (by rintro l' rfl; exact absurd h (hno _ _ _)) r1, r2, r3, r4, r5, r6, r7⟩
    simp only [exec] at h
    split at h
    · rename_i l' env1 S1 h1
      obtain ⟨tm', b', cs', g', w', r1, r2, r3, r4, r5, r6, r7⟩ := iha c (k := .inScope c :: k) hok1 h1 hbase R E ht F
      split at h
      · rename_i hl
        subst hl
        obtain ⟨k', hk', hs⟩ := r1
        have hgo : gotoIn l' k' = some (.code rc :: .inScope c :: k) := by rw [hk']; simp [gotoIn, hrc]
        exact (key lf h (by rw [r4]; exact hbase) r2 r5 r6 r7).trans (.head st_scope (Steps.trans hs (.one (st_goto hgo)))) r3 r4
      · rename_i hl
        cases h
        exact ⟨tm', b', cs', g', w', (leave (by intro l'' e; cases e; exact hl) r1).of (.one st_scope), r2, r3, r4, r5, r6, r7⟩
    · rename_i hno
      obtain ⟨tm', b', cs', g', w', r1, r2, r3, r4, r5, r6, r7⟩ := iha c (k := .inScope c :: k) hok1 h hbase R E ht F
      exact ⟨tm', b', cs', g', w', (leave (by rintro l' rfl; exact absurd h (hno _ _ _)) r1).of (.one st_scope), r2, r3, r4, r5, r6, r7⟩
  | rangeF s f params assign body iha ihb =>
    intro c env env' g S S' w tm b cs k ex hok h hbase R E ht F
    have hmd : md = 0 := by
      cases c <;> simp only [okC, Bool.false_eq_true, Bool.and_eq_true, beq_iff_eq] at hok
      exact hok.1.1.1.1.1
    exact rangeF_sound H hok hb0 hmd h hbase R E ht F

end Go.Wm

set_option linter.unusedVariables false
set_option linter.unusedSimpArgs false
namespace Go.Wm
open Go.RowKit

variable {P : Program} {B0 : Nat} {w0 w w' : World} {g g' : Sg} {S S' S1 : Sto} {b b0 : Frame} {tm : Array Value} {k : List Item} {cs cs0 : List Frame} {env env1 : Env} {cx : Cx}

/-! ### the evaluator's functions and the program's -/
def okRes (P : Program) (n : Nat) : List IRes → List ResultVar → Bool
  | [], [] => true
  | .t i :: rs, .tmp j :: qs => i == j && decide (i < n) && okRes P n rs qs
  | .cell i m :: rs, .cell j t :: qs => i == j && decide (i < n) && loadOk P t m && okRes P n rs qs
  | _, _ => false

/-- has code a deferred call, or recovers it? -/
def specC : IC → Bool
  | .reg ops => ops.any fun o => isSpec o.op
  | .kpre _ a | .kpost a _ | .block _ a | .loop a | .scope0 a => specC a
  | .seq a b => specC a || specC b
  | .cond _ a b => specC a || specC b
  | .scope a r _ => specC a || specC r
  | _ => false

def okFn (P : Program) (fn : IFn) (f : Func) : Bool :=
  match f.body with
  | some c => okC P f.ntmps (if specC fn.body then 1 else 0) fn.body c && okRes P f.ntmps fn.res f.results.toList && decide (f.ntmps ≤ 900000) && decide (fn.nt = f.ntmps) && f.name != "runtime.NumGoroutine"
  | none => false

/-- new dead blocks -/
theorem Rel.more {A : Alike} (R : Rel A B0 w0 g S w) (n : Nat) : Rel A B0 w0 g (S ++ List.replicate n (.dead 0)) w ∧ ∀ k, Le k g S g (S ++ List.replicate n (.dead 0)) := by
  have hat : ∀ i, i < S.length → (S ++ List.replicate n (Blk.dead 0))[i]? = S[i]? := fun i hi => List.getElem?_append_left hi
  have hnew : ∀ i x, S.length ≤ i → (S ++ List.replicate n (Blk.dead 0))[i]? = some x → x = .dead 0 := by
    intro i x hi hx
    rw [List.getElem?_append_right hi, List.getElem?_replicate] at hx
    split at hx
    · cases hx; rfl
    · cases hx
  have hsigN : ∀ i, S.length ≤ i → Sto.sig (S ++ List.replicate n (Blk.dead 0)) i = none := by
    intro i hi
    unfold Sto.sig
    split
    · rename_i x hx
      rw [hnew i x hi hx]
      rfl
    · rfl
  have hle : ∀ k, Le k g S g (S ++ List.replicate n (.dead 0)) := by
    intro k
    refine ⟨fun _ _ h => h, fun i hi => ?_, fun i hi e s hs => ⟨?_, rfl⟩, rfl, fun _ h => h⟩
    · rcases Nat.lt_or_ge i S.length with h | h
      · simp only [Sto.ver, hat i h]; exact Nat.le_refl _
      · have : S.ver i = 0 := by simp [Sto.ver, List.getElem?_eq_none_iff.2 h]
        omega
    · rcases Nat.lt_or_ge i S.length with h | h
      · simpa only [Sto.sig, hat i h] using hs
      · rw [hsigN i h] at hs
        cases hs
  have hsig : ∀ i, Sto.sig (S ++ List.replicate n (Blk.dead 0)) i ≠ none → S.sig i ≠ none := by
    intro i hi
    rcases Nat.lt_or_ge i S.length with h | h
    · simpa only [Sto.sig, hat i h] using hi
    · exact absurd (hsigN i h) hi
  refine ⟨⟨R.below, R.room, R.him, R.low, fun i x hx => ?_, fun i j cb s s' h1 h2 => R.inj i j cb s s' (hsig i h1) (hsig j h2), fun r hr => ?_⟩, hle⟩
  · rcases Nat.lt_or_ge i S.length with h | h
    · rw [hat i h] at hx
      exact (R.blk i x hx).keep (fun _ => rfl) (by simp) (hle _) fun _ _ _ => ⟨rfl, rfl⟩
    · rw [hnew i x h hx]
      trivial
  · obtain ⟨h1, h2, h3, h4⟩ := R.q r hr
    exact ⟨h1, h2, h3, fun i s hi => h4 i s (hsig i hi)⟩

/-- memory that waited is written, and waits no more -/
theorem Rel.dropq {A : Alike} (R : Rel A B0 w0 g S w) {r : Nat} {o o' : Obj} (h : (r, o) ∈ g.q) : Rel A B0 w0 { g with q := g.q.filter fun p => p.1 != r } S { w with heap := w.heap.setIfInBounds r o' } := by
  obtain ⟨h1, h2, h3, h4⟩ := R.q _ h
  have other : ∀ i, i ≠ r → (w.heap.setIfInBounds r o')[i]? = w.heap[i]? := fun i hi => Array.getElem?_setIfInBounds_ne (fun e => hi e.symm)
  refine ⟨?_, by simpa using R.room, fun c a hc => ?_, R.low, fun i x hx => ?_, R.inj, fun p hp => ?_⟩
  · refine R.below.trans ⟨rfl, rfl, rfl, by simp, fun k hk => other k (by omega)⟩
  · obtain ⟨t, fz, e⟩ := R.him c a hc
    refine ⟨t, fz, (other c ?_).trans e⟩
    intro e'
    subst e'
    have hc : g.h c = some a := hc
    have h3 : g.h c = none := h3
    rw [h3] at hc
    cases hc
  · have hbr := R.blk i x hx
    refine BR.congr (g := g) (g' := { g with q := g.q.filter fun p => p.1 != r }) rfl rfl (hbr.keep (fun _ => rfl) (Nat.le_refl _) (Le.refl _ _ _) fun cb hm hs => ⟨rfl, other cb ?_⟩)
    obtain ⟨s, hm⟩ := hm
    intro e
    subst e
    exact h4 i s (by rw [sig_some hx]; exact hs) hm
  · obtain ⟨hp1, hp2⟩ := List.mem_filter.1 hp
    obtain ⟨a1, a2, a3, a4⟩ := R.q p hp1
    exact ⟨a1, (other p.1 (by simpa using hp2)).trans a2, a3, a4⟩

/-- a frame that ends: it returns, or panics -/
def Over : FrameMode → Prop
  | .run => False
  | _ => True

theorem st_take {fr : Frame} (hm : Over fr.mode) {r : Nat} {ds : List Deferred} (hd : fr.defers = mkMark r :: ds) (hr : w.heap[r]? = some (.deferred (some []))) :
    step P (lone fr cs w) = .next (lone { fr with defers := ds } cs { w with heap := w.heap.setIfInBounds r (.deferred none) }) := by
  have hE : (Instr.takeDeferred r).run P w = .ok [] { w with heap := w.heap.setIfInBounds r (.deferred none) } := by
    have h1 : (getObj r).run P w = .ok (.deferred (some [])) w := by simp [getObj, Sem.run, hr]
    have h2 : (setObj r (.deferred none)).run P w = .ok () { w with heap := w.heap.setIfInBounds r (.deferred none) } := by simp [setObj, Sem.run, hr]
    simp [Instr.takeDeferred, h1, h2, Result.andThen]
  obtain ⟨fn, tmps, todo, defers, mode, kind, rd⟩ := fr
  simp only at hd hm
  subst hd
  refine step_lone_go ?_
  cases mode with
  | run => exact hm.elim
  | returning => simp [stepG, unwind, mkMark, hE]
  | panicking chain => simp [stepG, unwind, mkMark, hE]

theorem take_marks {A : Alike} {q0 : List (Nat × Obj)} {ds : List Deferred} : ∀ (rs : List Nat) {fr : Frame} {g : Sg} {w : World}, Over fr.mode → fr.defers = rs.map mkMark ++ ds → rs.Nodup → (∀ r ∈ rs, (r, Obj.deferred (some [])) ∈ g.q ∧ ∀ p ∈ q0, p.1 ≠ r) → (∀ p ∈ q0, p ∈ g.q) → Rel A B0 w0 g S w →
    ∃ w' q', Steps P (lone fr cs w) (lone { fr with defers := ds } cs w') ∧ Rel A B0 w0 { g with q := q' } S w' ∧ ∀ p ∈ q0, p ∈ q'
  | [], fr, g, w, hm, hd, hn, hr, hq, R => by
    have hd' : fr.defers = ds := hd.trans (by simp)
    have : { fr with defers := ds } = fr := by
      cases fr
      simp only at hd'
      subst hd'
      rfl
    rw [this]
    exact ⟨w, g.q, Steps.refl _ _, R, hq⟩
  | r :: rs, fr, g, w, hm, hd, hn, hr, hq, R => by
    obtain ⟨hr1, hr2⟩ := hr r (by simp)
    obtain ⟨hn1, hn2⟩ := List.nodup_cons.1 hn
    have hheap := (R.q _ hr1).2.1
    have first := st_take (P := P) (cs := cs) hm (ds := rs.map mkMark ++ ds) (r := r) (by rw [hd]; rfl) hheap
    have R1 := R.dropq (o' := .deferred none) hr1
    obtain ⟨w', q', h1, h2, h3⟩ := take_marks rs (fr := { fr with defers := rs.map mkMark ++ ds }) hm rfl hn2 (fun r' hr' => ⟨List.mem_filter.2 ⟨(hr r' (by simp [hr'])).1, by
        have : r' ≠ r := by rintro rfl; exact hn1 hr'
        simpa using this⟩, (hr r' (by simp [hr'])).2⟩) (fun p hp => List.mem_filter.2 ⟨hq p hp, by simpa using hr2 p hp⟩) R1
    exact ⟨w', q', .head first h1, h2, h3⟩

/-! ### results -/
theorem load_run {A : Alike} (R : Rel A B0 w0 g S w) {t : TypeId} {n : Option Nat} (hok : loadOk P t n = true) {p v : AV} {pv : Value} (hp : V g S S.length p pv) (h : opLoad n [p] S = some (.ret v, S')) :
    ∃ a cv, pv = .pointer (some a) ∧ (loadVar t a).run P w = .ok cv w ∧ V g S S.length v cv := by
  cases hr : rdCells S p with
  | none => simp only [opLoad, hr] at h; cases h
  | some cs =>
    obtain ⟨cb, off, rfl, vs, hvt, hone, hcell⟩ := rdCells_sound R hp hr
    cases n with
    | none =>
      simp only [loadOk, beq_iff_eq] at hok
      cases cs with
      | nil => simp only [opLoad, hr] at h; cases h
      | cons c cs =>
        simp only [opLoad, hr] at h
        cases h
        simp only [VT] at hvt
        obtain ⟨u, vs', rfl, hv, _⟩ := hvt
        have hc := hcell 0 u (by simp)
        simp only [Nat.add_zero] at hc
        refine ⟨⟨cb, off, none⟩, u, rfl, ?_, hv⟩
        simp only [loadVar, Sem.run_bind, Sem.run_pure, Result.andThen, run_isAgg hok]
        simp [load, Sem.run, hc]
    | some k =>
      simp only [loadOk, Bool.and_eq_true, beq_iff_eq] at hok
      have hlen := VT.length _ _ hvt
      have key : k ≤ cs.length → v = .agg (cs.take k) → ∃ a cv, Value.pointer (some ⟨cb, off, none⟩) = .pointer (some a) ∧ (loadVar t a).run P w = .ok cv w ∧ V g S S.length v cv := by
        intro hk e
        subst e
        refine ⟨⟨cb, off, none⟩, .agg (vs.take k).toArray, rfl, ?_, ?_⟩
        · have hl := run_loadCells' (P := P) (w := w) (cb := cb) (off := off) (vs := vs.take k) fun j u hj => hcell j u (by
            rw [List.getElem?_take] at hj
            split at hj
            · exact hj
            · cases hj)
          rw [List.length_take, Nat.min_eq_left (by omega)] at hl
          simp only [loadVar, Sem.run_bind, Sem.run_pure, Result.andThen, run_isAgg hok.1, if_true, run_sizeOf hok.2, hl]
        · simp only [V]
          exact ⟨_, rfl, VT.take k _ _ hvt, fun u hu => hone u (List.mem_of_mem_take hu)⟩
      cases cs with
      | nil =>
        simp only [opLoad, hr] at h
        split at h
        · rename_i hk
          cases h
          exact key hk rfl
        · cases h
      | cons c cs =>
        simp only [opLoad, hr] at h
        split at h
        · rename_i hk
          cases h
          exact key hk rfl
        · cases h

def resM (tm : Array Value) : ResultVar → Sem Value
  | .tmp t => pure (tm.getD t undef)
  | .cell a t => do loadVar t (← asAddr (tm.getD a undef))
theorem resL_sound {A : Alike} (R : Rel A B0 w0 g S w) (E : ER g S S.length env tm) {n : Nat} (hn : n ≤ 900000) : ∀ {rs : List IRes} {qs : List ResultVar} {vs : List AV}, okRes P n rs qs = true → resL env S rs = some vs →
    ∃ cvs, (qs.mapM (m := Sem) (resM tm)).run P w = .ok cvs w ∧ VT g S S.length vs cvs
  | [], [], vs, hok, h => by
    simp only [resL] at h
    cases h
    exact ⟨[], by simp, by simp [VT]⟩
  | [], _ :: _, _, hok, _ => by simp [okRes] at hok
  | r :: rs, [], _, hok, _ => by cases r <;> simp [okRes] at hok
  | r :: rs, q :: qs, vs, hok, h => by
    simp only [resL] at h
    split at h
    · rename_i v vs' h1 h2
      cases h
      have tail : okRes P n rs qs = true := by cases r <;> cases q <;> simp_all [okRes]
      obtain ⟨cvs, h3, h4⟩ := resL_sound R E hn tail h2
      have head : ∃ cv, (resM tm q).run P w = .ok cv w ∧ V g S S.length v cv := by
        cases r with
        | t i =>
          cases q with
          | tmp j =>
            simp only [okRes, Bool.and_eq_true, beq_iff_eq, decide_eq_true_eq] at hok
            obtain ⟨⟨rfl, hi⟩, _⟩ := hok
            simp only [resV] at h1
            cases h1
            exact ⟨_, rfl, E i (by omega)⟩
          | cell _ _ => simp [okRes] at hok
        | cell i m =>
          cases q with
          | tmp _ => simp [okRes] at hok
          | cell j t =>
            simp only [okRes, Bool.and_eq_true, beq_iff_eq, decide_eq_true_eq] at hok
            obtain ⟨⟨⟨rfl, hi⟩, hl⟩, _⟩ := hok
            simp only [resV] at h1
            split at h1
            · rename_i v' S' e
              cases h1
              obtain ⟨a, cv, hpv, hrun, hv⟩ := load_run (P := P) R hl (E i (by omega)) e
              refine ⟨cv, ?_, hv⟩
              simp only [resM, hpv, asAddr]
              simpa [Result.andThen] using hrun
            · cases h1
      obtain ⟨cv, h5, h6⟩ := head
      refine ⟨cv :: cvs, ?_, by simp only [VT]; exact ⟨cv, cvs, rfl, h6, h4⟩⟩
      simp only [List.mapM_cons, Sem.run_bind, h5, Result.andThen, h3, Sem.run_pure]
    · cases h
theorem results_sound {A : Alike} (R : Rel A B0 w0 g S w) (E : ER g S S.length env tm) {fn : Func} (hn : fn.ntmps ≤ 900000) {rs : List IRes} (hok : okRes P fn.ntmps rs fn.results.toList = true) {v : AV} (h : results env S rs = some v) :
    ∃ cv, (Go.results fn tm).run P w = .ok cv w ∧ V g S S.length v cv := by
  unfold results at h
  cases hr : resL env S rs with
  | none => rw [hr] at h; cases h
  | some vs =>
    obtain ⟨cvs, h1, h2⟩ := resL_sound R E hn hok hr
    have hm : (fn.results.mapM (m := Sem) (resM tm)).run P w = .ok cvs.toArray w := by
      rw [Array.mapM_eq_mapM_toList]
      simp [h1, Result.andThen]
    have hrun : (Go.results fn tm).run P w = .ok (if h : cvs.toArray.size = 1 then cvs.toArray[0] else .tuple cvs.toArray) w := by
      have hdef : Go.results fn tm = (do let vs ← fn.results.mapM (m := Sem) (resM tm); pure (if h : vs.size = 1 then vs[0] else .tuple vs)) := by
        unfold Go.results
        congr 1
      rw [hdef]
      simp only [Sem.run_bind, hm, Result.andThen, Sem.run_pure]
    rw [hr] at h
    refine ⟨_, hrun, ?_⟩
    match vs, h, h2 with
    | [], h, h2 =>
      simp only [VT] at h2
      subst h2
      simp only at h
      cases h
      simp [V, VT]
    | [x], h, h2 =>
      simp only [VT] at h2
      obtain ⟨u, us, rfl, h3, rfl⟩ := h2
      simp only at h
      cases h
      simpa using h3
    | x :: y :: zs, h, h2 =>
      have hl := VT.length _ _ h2
      simp only at h
      cases h
      have : cvs.toArray.size ≠ 1 := by simp at hl ⊢; omega
      rw [dif_neg this]
      simp only [V]
      exact ⟨cvs, rfl, h2⟩

end Go.Wm

set_option linter.unusedVariables false
set_option linter.unusedSimpArgs false
namespace Go.Wm
open Go.RowKit

variable {P : Program} {B0 : Nat} {w0 w w' : World} {g g' : Sg} {S S' S1 : Sto} {b b0 : Frame} {tm : Array Value} {k : List Item} {cs cs0 : List Frame} {env env1 : Env} {cx : Cx}

/-! ### deferred calls -/
theorem st_deferred {fr : Frame} (hm : Over fr.mode) {d : Deferred} {ds : List Deferred} (hd : fr.defers = d :: ds) {f : Value} {as : List Value} (hf : isFn f) (he : d = dOf f as.toArray) {F : CallKind → Frame} (hF : Begins P w d F) :
    step P (lone fr cs w) = .next (lone (F .deferred) ({ fr with defers := ds } :: cs) w) := by
  obtain ⟨fn, tmps, todo, defers, mode, kind, rd⟩ := fr
  simp only at hd hm
  subst hd
  obtain ⟨q, a, c, rfl⟩ := hf
  have ht : d.target = .fn q c := by rw [he]; rfl
  obtain ⟨target, args⟩ := d
  simp only at ht
  subst ht
  refine step_lone_go ?_
  rcases hF with ⟨f', args', h1, rfl⟩ | ⟨l, f', tmps', x, y, h1, rfl⟩
  · cases mode with
    | run => exact hm.elim
    | returning => simp [stepG, unwind, callDeferred, h1]
    | panicking chain => simp [stepG, unwind, callDeferred, h1]
  · cases mode with
    | run => exact hm.elim
    | returning => simp [stepG, unwind, callDeferred, h1]
    | panicking chain => simp [stepG, unwind, callDeferred, h1]

theorem PV.over {p : Option AV} {fr : Frame} (h : PV g S p fr) : Over fr.mode := by
  cases p with
  | none => simp only [PV] at h; rw [h]; trivial
  | some x => obtain ⟨xv, older, h1, _⟩ := h; rw [h1]; trivial
theorem PV.mono {p : Option AV} {fr : Frame} (h : PV g S p fr) (l : Le S.length g S g' S') (hn : S'.length = S.length) : PV g' S' p fr := by
  cases p with
  | none => exact h
  | some x =>
    obtain ⟨xv, older, h1, h2, h3⟩ := h
    exact ⟨xv, older, h1, h2, by rw [hn]; exact V.mono l _ _ h3⟩

theorem runDefers_sound {A : Alike} (hc : CallOK A P cx.cd) : ∀ (ds : List AV) {p p' : Option AV} {g : Sg} {S S' : Sto} {w : World} {fr : Frame}, DV g S S.length ds fr.defers → PV g S p fr → runDefers cx ds p S = some (p', S') → Rel A B0 w0 g S w →
    ∃ w' g' M, Steps P (lone fr cs w) (lone { fr with defers := [], mode := M } cs w') ∧ PV g' S' p' { fr with defers := [], mode := M } ∧ Rel A B0 w0 g' S' w' ∧ (∀ k, Le k g S g' S') ∧ S'.length = S.length
  | [], p, p', g, S, S', w, fr, hd, hp, h, R => by
    simp only [runDefers] at h
    cases h
    have hd : fr.defers = [] := hd
    have : { fr with defers := [], mode := fr.mode } = fr := by
      cases fr
      simp only at hd
      subst hd
      rfl
    exact ⟨w, g, fr.mode, by rw [this]; exact Steps.refl _ _, by rw [this]; exact hp, R, fun k => Le.refl _ _ _, rfl⟩
  | x :: ds, p, p', g, S, S', w, fr, hd, hp, h, R => by
    obtain ⟨d, ds', fv, args, f, as, rfl, hds, hfn, hdo, hv, ha, htl⟩ := hd
    simp only [runDefers] at h
    split at h
    · rename_i o rec S1 hcd
      obtain ⟨_, F, hF, _, hD⟩ := hc p fv args S o rec S1 hcd _ _ _ w f as R hv ha
      rw [← hdo] at hF
      have first := st_deferred (P := P) (cs := cs) hp.over hds hfn hdo hF
      obtain ⟨cv, w1, g1, R1, l1, n1, v1, hE⟩ := hD { fr with defers := ds' } cs (by cases p <;> exact hp)
      cases hrt : retire S.length (fun _ => []) o S1 with
      | none => rw [hrt] at h; cases h
      | some q =>
        obtain ⟨o', S2⟩ := q
        rw [hrt] at h
        obtain ⟨hlike, g2, R2, l2, n2, _, v2⟩ := retire_sound R1 n1 v1 hrt
        have l12 : ∀ k, Le k g S g2 S2 := fun k => (l1.trans l2).whole n2
        cases o' with
        | ret v' =>
          cases o with
          | pan _ => exact hlike.elim
          | ret y =>
            simp only at h
            have hE : Steps P _ (lone { fr with defers := ds', mode := if rec then .returning else fr.mode } cs w1) := hE
            have hp2 : PV g2 S2 (if rec then none else p) { fr with defers := ds', mode := if rec then .returning else fr.mode } := by
              cases rec with
              | true => exact rfl
              | false => exact PV.mono (fr := { fr with defers := ds' }) (by cases p <;> exact hp) (l12 _) n2
            obtain ⟨w', g', M, s3, hp3, R3, l3, n3⟩ := runDefers_sound hc ds (fr := { fr with defers := ds', mode := if rec then .returning else fr.mode }) (by rw [n2]; exact htl.mono (l12 _)) hp2 h R2
            exact ⟨w', g', M, .head first (Steps.trans hE s3), hp3, R3, fun k => (l12 k).trans (l3 k), n3.trans n2⟩
        | pan v' =>
          cases o with
          | ret _ => exact hlike.elim
          | pan y =>
            simp only at h
            obtain ⟨chain, ⟨older, hch, hno⟩, hE⟩ := hE
            have hp2 : PV g2 S2 (some v') { fr with defers := ds', mode := .panicking chain } := ⟨cv, older, by rw [hch], hno, v2⟩
            obtain ⟨w', g', M, s3, hp3, R3, l3, n3⟩ := runDefers_sound hc ds (fr := { fr with defers := ds', mode := .panicking chain }) (by rw [n2]; exact htl.mono (l12 _)) hp2 h R2
            exact ⟨w', g', M, .head first (Steps.trans hE s3), hp3, R3, fun k => (l12 k).trans (l3 k), n3.trans n2⟩
    · cases h

/-! ### leaving a frame -/
/-- where a call ends, by its kind -/
def Ends (P : Program) (m : Machine) (kind : CallKind) (caller : Frame) (cs : List Frame) (rec : Bool) (w' : World) (cv : Value) (o : Out) : Prop :=
  (kind = .normal → EndsN P m caller cs w' cv o) ∧ (kind = .deferred → EndsD P m caller cs rec w' cv o)
theorem Ends.of {m m' : Machine} {kind : CallKind} {caller : Frame} {rec : Bool} {cv : Value} {o : Out} (h : Steps P m m') (e : Ends P m' kind caller cs rec w' cv o) : Ends P m kind caller cs rec w' cv o := by
  refine ⟨fun hk => ?_, fun hk => ?_⟩
  · have := e.1 hk
    cases o with
    | ret v => exact Steps.trans h this
    | pan v => obtain ⟨chain, h1, h2⟩ := this; exact ⟨chain, h1, Steps.trans h h2⟩
  · have := e.2 hk
    cases o with
    | ret v => exact Steps.trans h this
    | pan v => obtain ⟨chain, h1, h2⟩ := this; exact ⟨chain, h1, Steps.trans h h2⟩

/-- the callers as they stand at the end, and as they stood -/
def Callers (kind : CallKind) (rec : Bool) (caller : Frame) (cs cs' : List Frame) : Prop :=
  (kind = .normal ∧ rec = false ∧ cs' = caller :: cs) ∨
  (kind = .deferred ∧ rec = false ∧ cs' = caller :: cs ∧ (caller.mode = .returning ∨ ∃ xv older, caller.mode = .panicking ({ v := xv, recovered := false } :: older) ∧ ∀ e ∈ older, e.goexit = false)) ∨
  (kind = .deferred ∧ rec = true ∧ ∃ xv older, caller.mode = .panicking ({ v := xv, recovered := false } :: older) ∧ (∀ e ∈ older, e.goexit = false) ∧ cs' = { caller with mode := .panicking ({ v := xv, recovered := true } :: older) } :: cs)

theorem dropWhile_none {older : List PanicEntry} (h : ∀ e ∈ older, e.goexit = false) : older.dropWhile (fun e => !e.goexit) = [] := by
  induction older with
  | nil => rfl
  | cons e l ih =>
    have := h e (by simp)
    simp [List.dropWhile, this]
    simpa using ih fun x hx => h x (by simp [hx])

theorem leave_normal {fr c : Frame} {fn : Func} {cv : Value} (hm : fr.mode = .returning) (hd : fr.defers = []) (hk : fr.kind = .normal) (hf : P.funcs[fr.fn]? = some fn) (hr : (Go.results fn fr.tmps).run P w = .ok cv w) :
    step P (lone fr (c :: cs) w) = .next (lone (c.finish cv) cs w) := step_leave_returned ⟨hm, hd, hk, fn, hf, hr⟩
theorem leave_deferred {fr c : Frame} {fn : Func} {cv : Value} (hm : fr.mode = .returning) (hd : fr.defers = []) (hk : fr.kind = .deferred) (hf : P.funcs[fr.fn]? = some fn) (hr : (Go.results fn fr.tmps).run P w = .ok cv w)
    (hc : c.mode = .returning ∨ ∃ xv older, c.mode = .panicking ({ v := xv, recovered := false } :: older)) : step P (lone fr (c :: cs) w) = .next (lone c cs w) := by
  rcases hc with hc | ⟨xv, older, hc⟩
  · exact step_lone_go (by simp [stepG, unwind, doReturn, hm, hd, hk, hf, hr, hc])
  · exact step_lone_go (by simp [stepG, unwind, doReturn, hm, hd, hk, hf, hr, hc])
theorem leave_recovered {fr c : Frame} {fn : Func} {cv xv : Value} {older : List PanicEntry} (hm : fr.mode = .returning) (hd : fr.defers = []) (hk : fr.kind = .deferred) (hf : P.funcs[fr.fn]? = some fn) (hr : (Go.results fn fr.tmps).run P w = .ok cv w)
    (hc : c.mode = .panicking ({ v := xv, recovered := true } :: older)) (ho : older.dropWhile (fun e => !e.goexit) = []) : step P (lone fr (c :: cs) w) = .next (lone { c with mode := .returning } cs w) :=
  step_lone_go (by simp [stepG, unwind, doReturn, hm, hd, hk, hf, hr, hc, ho])

/-- how a frame leaves: with a value, or a panic -/
theorem frame_leaves {fr : Frame} {fn : Func} {kind : CallKind} {caller : Frame} {cs' : List Frame} {rec : Bool} (hd : fr.defers = []) (hf : P.funcs[fr.fn]? = some fn) (hk : fr.kind = kind) (hcal : Callers kind rec caller cs cs') {p : Option AV} (hp : PV g S p fr) {o : Out} {cv : Value}
    (ho : match p with | none => ∃ v, o = .ret v ∧ (Go.results fn fr.tmps).run P w = .ok cv w | some x => o = .pan x ∧ ∀ xv older, fr.mode = .panicking ({ v := xv, recovered := false } :: older) → cv = xv) :
    Ends P (lone fr cs' w) kind caller cs rec w cv o := by
  cases p with
  | none =>
    obtain ⟨v, rfl, hr⟩ := ho
    have hmode : fr.mode = .returning := hp
    rcases hcal with ⟨rfl, rfl, rfl⟩ | ⟨rfl, rfl, rfl, hc⟩ | ⟨rfl, rfl, xv, older, hc1, hc2, rfl⟩
    · exact ⟨fun _ => .one (leave_normal hmode hd hk hf hr), fun h => by cases h⟩
    · refine ⟨fun h => (by cases h), fun _ => ?_⟩
      have := leave_deferred (P := P) (cs := cs) (c := caller) hmode hd hk hf hr (hc.imp id fun ⟨xv, older, h, _⟩ => ⟨xv, older, h⟩)
      have e : ({ caller with mode := if false = true then .returning else caller.mode } : Frame) = caller := by simp
      show Steps P _ (lone { caller with mode := if false = true then .returning else caller.mode } cs w)
      rw [e]
      exact .one this
    · refine ⟨fun h => (by cases h), fun _ => ?_⟩
      exact .one (leave_recovered (P := P) (cs := cs) (c := { caller with mode := .panicking ({ v := xv, recovered := true } :: older) }) hmode hd hk hf hr rfl (dropWhile_none hc2))
  | some x =>
    obtain ⟨rfl, ho⟩ := ho
    obtain ⟨xv, older, hmode, hno, _⟩ := hp
    have hcv := ho xv older hmode
    subst hcv
    have leave : ∀ c, step P (lone fr (c :: cs) w) = .next (lone (c.raise ({ v := cv, recovered := false } :: older)) cs w) := fun c => step_leave_panicked ⟨hmode, hd, fn, hf⟩
    rcases hcal with ⟨rfl, rfl, rfl⟩ | ⟨rfl, rfl, rfl, hc⟩ | ⟨rfl, rfl, xv', older', hc1, hc2, rfl⟩
    · exact ⟨fun _ => ⟨_, ⟨older, rfl, hno⟩, .one (leave caller)⟩, fun h => by cases h⟩
    · refine ⟨fun h => (by cases h), fun _ => ?_⟩
      rcases hc with hc | ⟨xv', older', hc, hno'⟩
      · refine ⟨_, ⟨older, rfl, hno⟩, .one ?_⟩
        have := leave caller
        simpa [Frame.raise, hc] using this
      · refine ⟨_, ⟨older ++ ({ v := xv', recovered := false } :: older'), rfl, ?_⟩, .one ?_⟩
        · intro e he
          rcases List.mem_append.1 he with he | he
          · exact hno e he
          · rcases List.mem_cons.1 he with rfl | he
            · rfl
            · exact hno' e he
        · have := leave caller
          simpa [Frame.raise, hc] using this
    · refine ⟨fun h => (by cases h), fun _ => ⟨_, ⟨older ++ ({ v := xv', recovered := true } :: older'), rfl, ?_⟩, .one ?_⟩⟩
      · intro e he
        rcases List.mem_append.1 he with he | he
        · exact hno e he
        · rcases List.mem_cons.1 he with rfl | he
          · rfl
          · exact hc2 e he
      · have := leave { caller with mode := .panicking ({ v := xv', recovered := true } :: older') }
        simpa [Frame.raise] using this

end Go.Wm

set_option linter.unusedVariables false
set_option linter.unusedSimpArgs false
namespace Go.Wm
open Go.RowKit

variable {P : Program} {B0 : Nat} {w0 w w' : World} {g g' : Sg} {S S' S1 : Sto} {b b0 : Frame} {tm : Array Value} {k : List Item} {cs cs0 : List Frame} {env env1 : Env} {cx : Cx}

theorem Le.cross {k : Nat} {g1 g2 : Sg} {S2 : Sto} (a : Le k g S g1 S1) (b : Le k { g1 with q := g.q } S1 g2 S2) : Le k g S g2 S2 where
  h c x hc := b.h c x (a.h c x hc)
  ver i hi := Nat.le_trans (a.ver i hi) (b.ver i hi)
  sig i hi e s hs := by
    have h1 := a.ver i hi
    have h2 := b.ver i hi
    obtain ⟨s1, m1⟩ := b.sig i hi (by omega) s hs
    obtain ⟨s0, m0⟩ := a.sig i hi (by omega) s s1
    exact ⟨s0, m1.trans m0⟩
  h0 := b.h0.trans a.h0
  q := b.q

/-- what is known of the caller when a call begins -/
def Begun (g : Sg) (S : Sto) (kind : CallKind) (pv : Option AV) (caller : Frame) : Prop := (kind = .normal ∧ pv = none) ∨ (kind = .deferred ∧ PV g S pv caller)
theorem Begun.callers {kind : CallKind} {pv : Option AV} {caller : Frame} (h : Begun g S kind pv caller) : Callers kind false caller cs (caller :: cs) := by
  rcases h with ⟨rfl, _⟩ | ⟨rfl, h⟩
  · exact .inl ⟨rfl, rfl, rfl⟩
  · refine .inr (.inl ⟨rfl, rfl, rfl, ?_⟩)
    cases pv with
    | none => exact .inl h
    | some x =>
      obtain ⟨xv, older, h1, h2, _⟩ := h
      exact .inr ⟨xv, older, h1, h2⟩

theorem finish_sound (hc : CallOK (progA P) P cx.cd) {q0 : List (Nat × Obj)} {md : Nat} {fn : IFn} {F : Func} (hF : P.funcs[b0.fn]? = some F) (hokR : okRes P F.ntmps fn.res F.results.toList = true) (hn : F.ntmps ≤ 900000) (hmd2 : md ≠ 2) (hmd3 : md ≤ 2)
    {p : Option AV} {o : Out} {rec : Bool} (h : finish cx fn p env S1 = some (o, rec, S')) (R : Rel (progA P) B0 w0 g S1 w) (E : ER g S1 S1.length env tm) {kind : CallKind} {caller : Frame} (hk : b0.kind = kind) (hd0 : b0.defers = [])
    (hcal : Callers kind false caller cs (caller :: cs)) {cs' : List Frame} (FE : FS q0 md b0 (caller :: cs) g S1 S1.length env b cs') {fr : Frame} (h1 : fr.tmps = tm) (h2 : fr.defers = b.defers) (h3 : fr.kind = b.kind) (h4 : fr.fn = b.fn) (hp : PV g S1 p fr) :
    ∃ cv w' g', Rel (progA P) B0 w0 g' S' w' ∧ (∀ k, Le k { g with q := q0 } S1 g' S') ∧ S'.length = S1.length ∧ V g' S' S'.length o.val cv ∧ Ends P (lone fr cs' w) kind caller cs rec w' cv o := by
  have hfn : P.funcs[fr.fn]? = some F := by rw [h4, FE.fn]; exact hF
  have hkind : fr.kind = kind := by rw [h3, FE.kind]; exact hk
  -- the end of a frame without deferred calls
  have last : ∀ {p : Option AV} {g : Sg} {S1 : Sto} {w : World} {fr : Frame}, Rel (progA P) B0 w0 g S1 w → ER g S1 S1.length env tm → fr.tmps = tm → fr.defers = [] → fr.kind = kind → P.funcs[fr.fn]? = some F → PV g S1 p fr → ∀ {rec : Bool} {cs' : List Frame}, Callers kind rec caller cs cs' →
      (match p with | none => (match results env S1 fn.res with | some v => some (Out.ret v, rec, S1) | none => none) | some x => some (Out.pan x, rec, S1)) = some (o, rec, S') →
      ∃ cv, S' = S1 ∧ V g S1 S1.length o.val cv ∧ Ends P (lone fr cs' w) kind caller cs rec w cv o := by
    intro p g S1 w fr R E ht hd hk hf hp rec cs' hcal h
    cases p with
    | none =>
      simp only at h
      split at h
      · rename_i v hv
        cases h
        obtain ⟨cv, hr, hvv⟩ := results_sound (P := P) R E hn hokR hv
        rw [← ht] at hr
        exact ⟨cv, rfl, hvv, frame_leaves (g := g) hd hf hk hcal hp (p := none) ⟨v, rfl, hr⟩⟩
      · cases h
    | some x =>
      cases h
      obtain ⟨xv, older, hm, hno, hv⟩ := id hp
      refine ⟨xv, rfl, hv, frame_leaves (g := g) hd hf hk hcal hp (p := some x) ⟨rfl, fun xv' older' hm' => ?_⟩⟩
      rw [hm] at hm'
      cases hm'
      rfl
  by_cases hmd : md = 1
  · obtain ⟨_, hdef, hrec⟩ := FE.spec hmd
    have hcal' : ∃ rec', recB (env.get rslot) = rec' ∧ Callers kind rec' caller cs cs' := by
      rcases hrec with ⟨e1, e2, _, _⟩ | ⟨e1, _, c0, rest, xv, older, ek, ecs, em, e5⟩
      · exact ⟨false, by rw [e2]; rfl, by rw [e1]; exact hcal⟩
      · refine ⟨true, by rw [e1]; rfl, .inr (.inr ⟨hk.symm.trans ek, rfl, ?_⟩)⟩
        cases ecs
        rcases hcal with ⟨e6, _⟩ | ⟨_, _, _, e7⟩ | ⟨_, e6, _⟩
        · rw [hk, e6] at ek; cases ek
        · rcases e7 with e7 | ⟨xv', older', e7, e8⟩
          · rw [em] at e7; cases e7
          · rw [em] at e7
            cases e7
            exact ⟨xv, older, em, e8, e5⟩
        · cases e6
    obtain ⟨rec', hr', hcal'⟩ := hcal'
    unfold finish at h
    simp only [hr'] at h
    have lq : ∀ k, Le k { g with q := q0 } S1 g S1 := fun k => ⟨fun _ _ h => h, fun _ _ => Nat.le_refl _, fun _ _ _ _ h => ⟨h, rfl⟩, rfl, FE.q⟩
    cases hds : env.get dslot with
    | tup ds =>
      rw [hds] at h hdef
      simp only at h
      cases hrd : runDefers cx ds p S1 with
      | none => rw [hrd] at h; cases h
      | some q =>
        obtain ⟨p', S2⟩ := q
        rw [hrd] at h
        obtain ⟨w2, g2, M, s2, hp2, R2, l2, n2⟩ := runDefers_sound (cs := cs') hc ds (fr := fr) (by rw [h2]; exact hdef) hp hrd R
        have E2 : ER g2 S2 S2.length env tm := by rw [n2]; exact E.mono (l2 _)
        have hrr : rec = rec' := by
          cases p' with
          | none => simp only at h; split at h <;> cases h; rfl
          | some x => cases h; rfl
        subst hrr
        obtain ⟨cv, rfl, hv, he⟩ := last (p := p') R2 E2 (fr := { fr with defers := [], mode := M }) h1 rfl hkind hfn hp2 hcal' (by cases p' <;> exact h)
        exact ⟨cv, w2, g2, R2, fun k => (lq k).trans (l2 k), n2, hv, he.of s2⟩
    | any =>
      rw [hds] at h hdef
      have hd : fr.defers = [] := h2.trans hdef
      have hrr : rec = rec' := by
        cases p with
        | none => simp only at h; split at h <;> cases h; rfl
        | some x => cases h; rfl
      subst hrr
      obtain ⟨cv, rfl, hv, he⟩ := last (p := p) R E h1 hd hkind hfn hp hcal' (by cases p <;> exact h)
      exact ⟨cv, w, g, R, lq, rfl, hv, he⟩
    | _ => rw [hds] at hdef; exact hdef.elim
  · obtain ⟨hcs, hds, hrs, rs, hdf, hnd, hrq, _⟩ := FE.plain hmd
    rw [hd0, List.append_nil] at hdf
    obtain ⟨w2, q', s2, R2, hq2⟩ := take_marks (cs := cs') (ds := []) rs (fr := fr) hp.over (by rw [h2, hdf]; simp) hnd hrq FE.q R
    unfold finish at h
    rw [hds (by omega), hrs (by omega)] at h
    simp only at h
    have E2 : ER { g with q := q' } S1 S1.length env tm := fun t ht => V.congr (g := g) (g' := { g with q := q' }) rfl rfl _ _ (E t ht)
    have hp2 : PV { g with q := q' } S1 p { fr with defers := [] } := by
      cases p with
      | none => exact hp
      | some x =>
        obtain ⟨xv, older, a1, a2, a3⟩ := hp
        exact ⟨xv, older, a1, a2, V.congr (g := g) (g' := { g with q := q' }) rfl rfl _ _ a3⟩
    have hrr : rec = false := by
      cases p with
      | none =>
        simp only at h
        split at h
        · simp only [Option.some.injEq, Prod.mk.injEq, recB] at h
          exact h.2.1.symm
        · cases h
      | some x =>
        simp only [Option.some.injEq, Prod.mk.injEq, recB] at h
        exact h.2.1.symm
    subst hrr
    obtain ⟨cv, hS, hv, he⟩ := last (p := p) R2 E2 (fr := { fr with defers := [] }) h1 rfl hkind hfn hp2 (show Callers kind false caller cs cs' by rw [hcs]; exact hcal) (by cases p <;> exact h)
    refine ⟨cv, w2, { g with q := q' }, by rw [hS]; exact R2, fun k => ?_, by rw [hS], by rw [hS]; exact hv, Ends.of s2 he⟩
    rw [hS]
    exact ⟨fun _ _ h => h, fun _ _ => Nat.le_refl _, fun _ _ _ _ h => ⟨h, rfl⟩, rfl, hq2⟩

theorem zipEnv_get : ∀ {args : List AV} {i t : Nat}, Env.get (zipEnv i args) t = if i ≤ t then (args[t - i]?).getD .any else .any
  | [], i, t => by simp [zipEnv, Env.get]
  | x :: xs, i, t => by
    simp only [zipEnv, Env.get_cons]
    rw [zipEnv_get (args := xs)]
    by_cases h : t = i
    · subst h; simp
    · rw [if_neg h]
      by_cases h2 : i ≤ t
      · rw [if_pos h2, if_pos (by omega : i + 1 ≤ t)]
        obtain ⟨j, rfl⟩ : ∃ j, t = i + 1 + j := ⟨t - (i + 1), by omega⟩
        have e1 : i + 1 + j - i = j + 1 := by omega
        have e2 : i + 1 + j - (i + 1) = j := by omega
        rw [e1, e2]
        simp
      · rw [if_neg h2, if_neg (by omega)]

theorem callFn_sound (hc : CallOK (progA P) P cx.cd) (he : ExtOK (progA P) P cx.ext) {IP : Nat → Option IFn} (hIP : ∀ f fn, IP f = some fn → ∃ F, P.funcs[f]? = some F ∧ okFn P fn F = true) {lf : Nat} {pv : Option AV} {f : Nat} {args : List AV} {o : Out} {rec : Bool}
    (h : callFn lf cx IP pv f args S = some (o, rec, S')) (R : Rel (progA P) B0 w0 g S w) {as : List Value} (ha : VT g S S.length args as) {kind : CallKind} {caller : Frame} (hk : Begun g S kind pv caller) :
    ∃ cv w' g', Rel (progA P) B0 w0 g' S' w' ∧ Le S.length g S g' S' ∧ S.length ≤ S'.length ∧ V g' S' S'.length o.val cv ∧ Ends P (lone (Frame.enter P f as.toArray kind) (caller :: cs) w) kind caller cs rec w' cv o := by
  unfold callFn at h
  cases hfn : IP f with
  | none => rw [hfn] at h; cases h
  | some fn =>
    rw [hfn] at h
    obtain ⟨F, hF, hok⟩ := hIP f fn hfn
    unfold okFn at hok
    cases hbody : F.body with
    | none => rw [hbody] at hok; cases hok
    | some c =>
      rw [hbody] at hok
      simp only [Bool.and_eq_true, decide_eq_true_eq] at hok
      obtain ⟨⟨⟨⟨hokC, hokR⟩, hn⟩, hnt⟩, _⟩ := hok
      simp only at h
      split at h
      rotate_left
      · cases h
      rename_i hcond
      simp only [Bool.and_eq_true, decide_eq_true_eq] at hcond
      obtain ⟨hlen, hpv⟩ := hcond
      have hal := VT.length _ _ ha
      -- the frame
      let b0 : Frame := Frame.enter P f as.toArray kind
      let tm0 : Array Value := as.toArray ++ Array.replicate (F.ntmps - as.toArray.size) undef
      have hb0 : b0 = fat b0 tm0 [.code c] := by
        simp only [b0, tm0, Frame.enter, fat, hF, hbody, Option.map_some, Option.getD_some, Option.bind_some]
      have hsize : tm0.size = F.ntmps := by simp [tm0]; omega
      have hd0 : b0.defers = [] := rfl
      have hk0 : b0.kind = kind := rfl
      obtain ⟨R0, l0⟩ := R.more fn.ns
      have E0 : ER g (S ++ List.replicate fn.ns (.dead 0)) (S ++ List.replicate fn.ns (Blk.dead 0)).length ((pslot, pv.getD .nili) :: zipEnv 0 args) tm0 := by
        intro t ht
        rw [Env.get_cons, if_neg (by unfold pslot; omega), zipEnv_get, if_pos (Nat.zero_le _), Nat.sub_zero]
        cases hx : args[t]? with
        | none => simp [V]
        | some x =>
          obtain ⟨v, hv, hvx⟩ := VT.at_ _ _ ha t x hx
          have : tm0.getD t undef = v := by
            have hlt : t < as.length := (List.getElem?_eq_some_iff.1 hv).1
            simp only [tm0]
            rw [Array.getD_eq_getD_getElem?, Array.getElem?_append_left (by simpa using hlt)]
            simp [hv]
          rw [this]
          exact V.level (by simp) _ _ (V.mono (l0 _) _ _ hvx)
      have hnoslot : ∀ t, 900000 ≤ t → (zipEnv 0 args).get t = .any := by
        intro t ht
        rw [zipEnv_get, if_pos (Nat.zero_le _), List.getElem?_eq_none_iff.2 (by omega)]
        rfl
      let md := if specC fn.body then 1 else 0
      have hmd2 : md ≠ 2 := by simp only [md]; split <;> decide
      have F0 : FS g.q md b0 (caller :: cs) g (S ++ List.replicate fn.ns (.dead 0)) (S ++ List.replicate fn.ns (Blk.dead 0)).length ((pslot, pv.getD .nili) :: zipEnv 0 args) b0 (caller :: cs) := by
        refine ⟨rfl, rfl, rfl, fun _ => rfl, fun p hp => hp, fun _ => ⟨rfl, fun _ => ?_, fun _ => ?_, [], by rw [hd0]; rfl, List.nodup_nil, by simp, fun _ => rfl⟩, fun _ => ⟨hd0, ?_, ?_⟩⟩
        · rw [Env.get_cons, if_neg (by decide)]; exact hnoslot _ (by decide)
        · rw [Env.get_cons, if_neg (by decide)]; exact hnoslot _ (by decide)
        · rw [Env.get_cons, if_neg (by decide), hnoslot _ (by decide)]
          exact hd0
        · rw [Env.get_cons, if_pos rfl, Env.get_cons, if_neg (by decide), hnoslot _ (by decide)]
          refine .inl ⟨rfl, rfl, fun t x e => ?_, fun e => ?_⟩
          · rcases hk with ⟨_, rfl⟩ | ⟨rfl, hk⟩
            · cases e
            · cases pv with
              | none => cases e
              | some y =>
                obtain ⟨xv, older, a1, a2, a3⟩ := hk
                have : y = .ifc t x := e
                subst this
                exact ⟨caller, cs, xv, older, rfl, rfl, a1, V.level (by simp) _ _ (V.mono (l0 _) _ _ a3)⟩
          · rcases hk with ⟨rfl, rfl⟩ | ⟨rfl, hk⟩
            · simp [tryRecover, b0, Frame.enter]
            · cases pv with
              | none =>
                have hk : caller.mode = .returning := hk
                simp [tryRecover, b0, Frame.enter, hk]
              | some y =>
                have : y = .nili := e
                subst this
                cases hpv
      have H : Hyp P cx F.ntmps := ⟨hc, he, hn⟩
      have hb0f : (P.funcs[b0.fn]?).isSome = true := by
        show (P.funcs[f]?).isSome = true
        rw [hF]
        rfl
      -- the end of the call
      have fin : ∀ {p : Option AV} {env : Env} {S1 : Sto} {g1 : Sg} {w1 : World} {tm' : Array Value} {b' : Frame} {cs' : List Frame} {fr : Frame}, finish cx fn p env S1 = some (o, rec, S') → Rel (progA P) B0 w0 g1 S1 w1 → (∀ k, Le k g (S ++ List.replicate fn.ns (.dead 0)) g1 S1) → S1.length = (S ++ List.replicate fn.ns (Blk.dead 0)).length →
          ER g1 S1 S1.length env tm' → FS g.q md b0 (caller :: cs) g1 S1 S1.length env b' cs' → fr.tmps = tm' → fr.defers = b'.defers → fr.kind = b'.kind → fr.fn = b'.fn → PV g1 S1 p fr → Steps P (lone (Frame.enter P f as.toArray kind) (caller :: cs) w) (lone fr cs' w1) →
          ∃ cv w' g', Rel (progA P) B0 w0 g' S' w' ∧ Le S.length g S g' S' ∧ S.length ≤ S'.length ∧ V g' S' S'.length o.val cv ∧ Ends P (lone (Frame.enter P f as.toArray kind) (caller :: cs) w) kind caller cs rec w' cv o := by
        intro p env S1 g1 w1 tm' b' cs' fr hf R1 l1 n1 E1 F1 a1 a2 a3 a4 hp hs
        obtain ⟨cv, w2, g2, R2, l2, n2, v2, e2⟩ := finish_sound hc (show P.funcs[b0.fn]? = some F from hF) hokR hn hmd2 (by simp only [md]; split <;> decide) hf R1 E1 hk0 hd0 hk.callers F1 a1 a2 a3 a4 hp
        have l01 : Le S.length g S g1 S1 := (l0 _).trans (l1 _)
        refine ⟨cv, w2, g2, R2, Le.cross l01 (l2 _), ?_, v2, e2.of hs⟩
        rw [n2, n1]
        simp
      cases hex : exec lf cx S.length fn.body ((pslot, pv.getD .nili) :: zipEnv 0 args) (S ++ List.replicate fn.ns (.dead 0)) with
      | none => rw [hex] at h; cases h
      | some q =>
        obtain ⟨ex, env, S1⟩ := q
        rw [hex] at h
        obtain ⟨tm', b', cs', g1, w1, r1, R1, l1, n1, E1, t1, F1⟩ := exec_sound (b0 := b0) (cs0 := caller :: cs) (q0 := g.q) (k := []) H hb0f lf fn.body c hokC hex (by simp) R0 E0 hsize F0
        rw [← hb0] at r1
        have hrd : b'.roundOf = none := F1.rd.trans rfl
        cases ex with
        | ret =>
          obtain ⟨k', hs⟩ := r1
          exact fin (p := none) h R1 l1 n1 E1 F1 (fr := { fat b' tm' (.code .ret :: k') with mode := .returning }) rfl rfl rfl rfl rfl (Steps.trans hs (.one (st_ret hrd)))
        | nrm =>
          have hs : Steps P _ (lone (fat b' tm' []) cs' w1) := r1
          exact fin (p := none) h R1 l1 n1 E1 F1 (fr := { fat b' tm' [] with mode := .returning }) rfl rfl rfl rfl rfl (Steps.trans hs (.one (st_end hrd)))
        | pan x =>
          obtain ⟨cv, chain, todo, ⟨older, hch, hno⟩, hv, hs⟩ := r1
          exact fin (p := some x) h R1 l1 n1 E1 F1 (fr := { fat b' tm' todo with mode := .panicking chain }) rfl rfl rfl rfl ⟨cv, older, by rw [hch], hno, hv⟩ hs
        | exit id => cases h
        | goto l => cases h

end Go.Wm

set_option linter.unusedVariables false
set_option linter.unusedSimpArgs false
namespace Go.Wm
open Go.RowKit

variable {P : Program} {B0 : Nat} {w0 w w' : World} {g g' : Sg} {S S' S1 : Sto} {b b0 : Frame} {tm : Array Value} {k : List Item} {cs cs0 : List Frame} {env env1 : Env} {cx : Cx}

theorem begins_fn {f : Nat} {F : Func} (hF : P.funcs[f]? = some F) (hb : F.body.isSome = true) (hn : (F.name == "runtime.NumGoroutine") = false) (cap args : Array Value) :
    Begins P w { target := .fn (.func f) cap, args := args } (fun k => Frame.enter P f (args ++ cap) k) := by
  refine .inl ⟨f, args ++ cap, ?_, rfl⟩
  have hbn : F.body.isNone = false := by cases h : F.body <;> simp_all
  have hprog : (program).run P w = .ok P w := rfl
  simp only [invoke, callFunc, Sem.run_bind, hprog, Result.andThen, hF]
  simp [hn, hbn]

/-- the round's machine: it begins -/
theorem st_beginRound {l : Nat} (hb : b.roundOf = some l) {L : Loop} (hl : w.heap[l]? = some (.loop L)) (hs : L.state = .ready) :
    step P (lone (fat b tm (.beginRound :: k)) cs w) = .next (lone (fat b tm k) cs { w with heap := w.heap.setIfInBounds l (.loop { L with state := .busy }) }) := by
  have hE : (Instr.beginRound l).run P w = .ok () { w with heap := w.heap.setIfInBounds l (.loop { L with state := .busy }) } := by
    simp [Instr.beginRound, run_getLoop hl, run_setLoop hl, Result.andThen, hs]
  refine step_lone_go ?_
  simp [stepG, stepG.exec, fat, hb, stepG.apply, hE, Result.andThen, Frame.finish]

/-- a round ends -/
theorem st_endRound {l : Nat} {todo : List Item} {jump : Option Code} (hb : b.roundOf = some l) {L : Loop} (hl : w.heap[l]? = some (.loop L))
    (ht : (todo = [] ∧ jump = none) ∨ (∃ k, todo = .code .ret :: k ∧ jump = some .ret) ∨ (∃ i k, todo = .code (.exit i) :: k ∧ exitTo i k = none ∧ jump = some (.exit i)) ∨ (∃ i k, todo = .code (.goto i) :: k ∧ gotoIn i k = none ∧ jump = some (.goto i)))
    {c : Frame} {s : GStep} (hd : doReturn P true (fat b tm todo) (c :: cs) none (.bool jump.isNone) { w with heap := w.heap.setIfInBounds l (.loop { L with state := if jump.isNone then .ready else .done, pending := jump }) } = s) :
    (stepG P true { frame := fat b tm todo, callers := c :: cs, status := .running, dying := none } w).bare = s.bare := by
  have hE : (Instr.endRound l jump).run P w = .ok (.bool jump.isNone) { w with heap := w.heap.setIfInBounds l (.loop { L with state := if jump.isNone then .ready else .done, pending := jump }) } := by
    simp [Instr.endRound, run_getLoop hl, run_setLoop hl, Result.andThen]
  subst hd
  rcases ht with ⟨rfl, rfl⟩ | ⟨k, rfl, rfl⟩ | ⟨i, k, rfl, hx, rfl⟩ | ⟨i, k, rfl, hx, rfl⟩
  · simp at hE
    simp [stepG, stepG.exec, fat, hb, hE]
  · simp at hE
    simp [stepG, stepG.exec, fat, hb, hE]
  · simp at hE
    simp [stepG, stepG.exec, fat, hb, hE, hx]
  · simp at hE
    simp [stepG, stepG.exec, fat, hb, hE, hx]

theorem ER.params {kk : Nat} : ∀ {ps : List Nat} {args : List AV} {as : List Value} {env : Env} {tm : Array Value}, VT g S kk args as → (∀ p ∈ ps, p < tm.size) → ER g S kk env tm →
    ER g S kk ((ps.zip args).foldl (fun en p => p :: en) env) ((ps.zip as).foldl (fun tm p => tm.setIfInBounds p.1 p.2) tm) ∧ ((ps.zip as).foldl (fun tm p => tm.setIfInBounds p.1 p.2) tm).size = tm.size
  | [], args, as, env, tm, _, _, E => by simpa using E
  | p :: ps, [], as, env, tm, ha, _, E => by
    simp only [VT] at ha
    subst ha
    simpa using E
  | p :: ps, x :: args, as, env, tm, ha, hp, E => by
    simp only [VT] at ha
    obtain ⟨v, vs, rfl, h1, h2⟩ := ha
    have hp' : ∀ q ∈ ps, q < (tm.setIfInBounds p v).size := fun q hq => by simpa using hp q (by simp [hq])
    have := ER.params h2 hp' (E.put (hp p (by simp)) h1)
    simpa using this

/-- a round's frame leaves with its value -/
theorem round_ends {l : Nat} {todo : List Item} {jump : Option Code} (hb : b.roundOf = some l) {L : Loop} (hl : w.heap[l]? = some (.loop L))
    (ht : (todo = [] ∧ jump = none) ∨ (∃ k, todo = .code .ret :: k ∧ jump = some .ret) ∨ (∃ i k, todo = .code (.exit i) :: k ∧ exitTo i k = none ∧ jump = some (.exit i)) ∨ (∃ i k, todo = .code (.goto i) :: k ∧ gotoIn i k = none ∧ jump = some (.goto i)))
    {kind : CallKind} {caller : Frame} {pv : Option AV} (hk : b.kind = kind) (hg : Begun g S kind pv caller) {v : AV} :
    Ends P (lone (fat b tm todo) (caller :: cs) w) kind caller cs false { w with heap := w.heap.setIfInBounds l (.loop { L with state := if jump.isNone then .ready else .done, pending := jump }) } (.bool jump.isNone) (.ret v) := by
  rcases hg with ⟨rfl, _⟩ | ⟨rfl, hg⟩
  · refine ⟨fun _ => .one (step_lone_go ?_), fun h => by cases h⟩
    exact st_endRound (c := caller) hb hl ht (s := .go { frame := caller.finish (.bool jump.isNone), callers := cs, status := .running, dying := none } _) (by simp [doReturn, fat, hk])
  · refine ⟨fun h => (by cases h), fun _ => ?_⟩
    have e : ({ caller with mode := if false = true then .returning else caller.mode } : Frame) = caller := by simp
    show Steps P _ (lone { caller with mode := if false = true then .returning else caller.mode } cs _)
    rw [e]
    refine .one (step_lone_go ?_)
    refine st_endRound (c := caller) hb hl ht (s := .go { frame := caller, callers := cs, status := .running, dying := none } _) ?_
    cases pv with
    | none =>
      have hm : caller.mode = .returning := hg
      simp [doReturn, fat, hk, hm]
    | some x =>
      obtain ⟨xv, older, hm, _⟩ := hg
      simp [doReturn, fat, hk, hm]

theorem callYld_sound (hc : CallOK (progA P) P cx.cd) (he : ExtOK (progA P) P cx.ext) {lf bl ver : Nat} {args : List AV} {o : Out} {rec : Bool} (h : callYld lf cx bl ver args S = some (o, rec, S')) (R : Rel (progA P) B0 w0 g S w)
    {f : Value} (hf : V g S S.length (.yld bl ver) f) {as : List Value} (ha : VT g S S.length args as) :
    isFn f ∧ ∃ F, Begins P w (dOf f as.toArray) F ∧ ∀ (kind : CallKind) (pv : Option AV) (caller : Frame) (cs : List Frame), Begun g S kind pv caller →
      ∃ cv w' g', Rel (progA P) B0 w0 g' S' w' ∧ Le S.length g S g' S' ∧ S.length ≤ S'.length ∧ V g' S' S'.length o.val cv ∧ Ends P (lone (F kind) (caller :: cs) w) kind caller cs rec w' cv o := by
  unfold callYld at h
  cases hblk : S[bl]? with
  | none => rw [hblk] at h; cases h
  | some x0 =>
    rw [hblk] at h
    split at h
    rotate_left
    · cases h
    rename_i v base lev env params assign body heq
    cases heq
    split at h
    rotate_left
    · cases h
    rename_i hcond
    obtain ⟨rfl, hlen⟩ := hcond
    obtain ⟨cb, L, hm, hB, hh, hheap, hstate, hjump, hps, ⟨hka, hn1⟩, ⟨hkb, _⟩, ⟨hLf, hpn⟩, hbl, hls, E⟩ := R.blk _ _ hblk
    simp only [V] at hf
    obtain ⟨_, _, _, hf⟩ := hf
    obtain ⟨cb', sz, hm', rfl⟩ := hf (by rw [ver_some hblk]; rfl) 0 (by rw [sig_some hblk]; rfl)
    rw [hm] at hm'
    cases hm'
    refine ⟨⟨_, _, _, rfl⟩, ?_⟩
    have hal := VT.length _ _ ha
    let tm0 : Array Value := (params.zip as).foldl (fun tm p => tm.setIfInBounds p.1 p.2) L.tmps
    have hbegin : Begins P w (dOf (.func (.yield cb) #[] #[]) as.toArray) (fun k => Frame.round cb L.fn tm0 L.assign L.body k) := by
      refine .inr ⟨cb, L.fn, tm0, L.assign, L.body, ?_, rfl⟩
      have hsz : as.toArray.size = L.params.size := by
        rw [← Array.length_toList (xs := L.params), hps]
        simp
        omega
      have htm : (L.params.zip as.toArray).foldl (fun tmps x => tmps.setIfInBounds x.1 x.2) L.tmps = tm0 := by
        rw [← Array.foldl_toList, Array.toList_zip, hps]
      have hsz2 : as.length = L.params.size := by simpa using hsz
      have hzs : (L.params.zip as.toArray).size = L.params.size := by simp [hsz2]
      rw [hzs] at htm
      simp [dOf, invoke, Instr.yield, run_getLoop hheap, Result.andThen, hsz2]
      exact htm
    refine ⟨_, hbegin, fun kind pv caller cs hg => ?_⟩
    let b0 : Frame := Frame.round cb L.fn tm0 L.assign L.body kind
    have hb0 : b0 = fat b0 tm0 [.code L.assign, .beginRound, .code L.body] := rfl
    have hrd0 : b0.roundOf = some cb := rfl
    obtain ⟨E0, hsz0⟩ := ER.params ha hpn (E.level hls)
    have F0 : FS g.q 2 b0 (caller :: cs) g S S.length ((params.zip args).foldl (fun en p => p :: en) env) b0 (caller :: cs) :=
      ⟨rfl, rfl, rfl, fun h => absurd rfl h, fun p hp => hp, fun _ => ⟨rfl, fun h => absurd h (by decide), fun h => absurd h (by decide), [], rfl, List.nodup_nil, by simp, fun _ => rfl⟩, fun h => absurd h (by decide)⟩
    have H : Hyp P cx L.tmps.size := ⟨hc, he, hn1⟩
    have hb0f : (P.funcs[b0.fn]?).isSome = true := hLf
    split at h
    rotate_left
    · cases h
    rename_i env1 S1 hex1
    obtain ⟨tm1, b1, cs1, g1, w1, r1, R1, l1, n1, E1, t1, F1⟩ := exec_sound (b0 := b0) (cs0 := caller :: cs) (q0 := g.q) (k := [.beginRound, .code L.body]) H hb0f lf assign L.assign hka hex1 (by omega) R E0 hsz0 F0
    rw [← hb0] at r1
    have r1 : Steps P (lone b0 (caller :: cs) w) (lone (fat b1 tm1 [.beginRound, .code L.body]) cs1 w1) := r1
    cases hblk1 : S1[bl]? with
    | none => rw [hblk1] at h; cases h
    | some x1 =>
      rw [hblk1] at h
      split at h
      rotate_left
      · cases h
      rename_i v1 base1 lev1 en1 ps1 as1 bo1 heq
      cases heq
      split at h
      rotate_left
      · cases h
      rename_i hv1
      subst hv1
      have hlt1 : bl < S1.length := (List.getElem?_eq_some_iff.1 hblk1).1
      obtain ⟨cb1, L1, hm1, hB1, hh1, hheap1, hstate1, hjump1, hps1, hka1, hkb1, hLf1, hbl1, hls1, Eb1⟩ := R1.blk _ _ hblk1
      have hcb1 : cb1 = cb := by
        have := ((l1 (bl + 1)).sig bl (by omega) (by rw [ver_some hblk1, ver_some hblk]; rfl) (4, 0) (by rw [sig_some hblk1]; rfl)).2
        rw [hm1, hm] at this
        cases this
        rfl
      subst hcb1
      have hrd1 : b1.roundOf = some cb1 := F1.rd.trans hrd0
      have second := st_beginRound (P := P) (tm := tm1) (k := [.code L.body]) (cs := cs1) hrd1 hheap1 hstate1
      let w2 : World := { w1 with heap := w1.heap.setIfInBounds cb1 (.loop { L1 with state := .busy }) }
      let S1b : Sto := S1.set bl (.loop v1 base1 lev1 en1 ps1 as1 bo1 2 none)
      have hheap2 : w2.heap[cb1]? = some (.loop { L1 with state := .busy }) := by
        have : cb1 < w1.heap.size := (Array.getElem?_eq_some_iff.1 hheap1).1
        simp only [w2]
        rw [Array.getElem?_setIfInBounds_self_of_lt this]
      have lt1 : ∀ k, Le k g1 S1 g1 S1b := fun k => Le.turn hlt1 (by rw [ver_some hblk1]; exact Nat.le_refl _) (.inl (by rw [sig_some hblk1]; rfl)) k
      have R2 : Rel (progA P) B0 w0 g1 S1b w2 := by
        refine R1.write hlt1 (by rw [ver_some hblk1]; exact Nat.le_refl _) (.inl (by rw [sig_some hblk1]; rfl)) (cb := cb1) (fun _ c s hc => by rw [hm1] at hc; cases hc; rfl) (.inr ⟨by rw [sig_some hblk1]; simp [Blk.sig], ⟨_, hm1⟩, hh1, hB1⟩) ?_ rfl rfl rfl (by simp [w2]) ?_
        · intro i hi
          simp only [w2]
          rw [Array.getElem?_setIfInBounds_ne (fun e => hi e.symm)]
        · exact ⟨cb1, { L1 with state := .busy }, hm1, hB1, hh1, hheap2, rfl, hjump1, hps1, hka1, hkb1, hLf1, hbl1, by rw [List.length_set]; exact hls1, Eb1.mono (lt1 _)⟩
      have n1b : S1b.length = S1.length := by simp [S1b]
      have E2 : ER g1 S1b S1b.length env1 tm1 := by
        rw [n1b]
        exact E1.mono (lt1 _)
      have F2 : FS g.q 2 b0 (caller :: cs) g1 S1b S1b.length env1 b1 cs1 := by
        rw [n1b]
        exact F1.mono (lt1 _)
      cases hex2 : exec lf cx base body env1 (S1.set bl (.loop v1 base1 lev1 en1 ps1 as1 bo1 2 none)) with
      | none => rw [hex2] at h; cases h
      | some q =>
        obtain ⟨ex, env2, S2⟩ := q
        obtain ⟨tm3, b3, cs3, g3, w3, r3, R3, l3, n3, E3, t3, F3⟩ := exec_sound (b0 := b0) (cs0 := caller :: cs) (q0 := g.q) (k := []) H hb0f lf body L.body hkb hex2 (by rw [n1b, n1]; omega) R2 E2 t1 F2
        have hs0 : Steps P (lone b0 (caller :: cs) w) (lone (fat b1 tm1 [.code L.body]) cs1 w2) := Steps.trans r1 (.one second)
        have lall : ∀ k, Le k g S g3 S2 := fun k => (l1 k).trans ((lt1 k).trans (l3 k))
        have nall : S2.length = S.length := by rw [n3, n1b, n1]
        obtain ⟨hcs3, _, _, rs, hdf, _, _, hrs⟩ := F3.plain (by decide)
        have hd3 : b3.defers = [] := by rw [hdf, hrs rfl]; rfl
        have hrd3 : b3.roundOf = some cb1 := F3.rd.trans hrd0
        -- a round that ends
        have ends : ∀ (j : Option Ex) (todo : List Item) (jump : Option Code), roundEnd bl v1 j S2 = some (o, rec, S') → jumpOk j jump → j.isNone = jump.isNone → Steps P (lone (fat b1 tm1 [.code L.body]) cs1 w2) (lone (fat b3 tm3 todo) cs3 w3) →
            ((todo = [] ∧ jump = none) ∨ (∃ k, todo = .code .ret :: k ∧ jump = some .ret) ∨ (∃ i k, todo = .code (.exit i) :: k ∧ exitTo i k = none ∧ jump = some (.exit i)) ∨ (∃ i k, todo = .code (.goto i) :: k ∧ gotoIn i k = none ∧ jump = some (.goto i))) →
            ∃ cv w' g', Rel (progA P) B0 w0 g' S' w' ∧ Le S.length g S g' S' ∧ S.length ≤ S'.length ∧ V g' S' S'.length o.val cv ∧ Ends P (lone b0 (caller :: cs) w) kind caller cs rec w' cv o := by
          intro j todo jump hre hj hjn hst ht
          unfold roundEnd at hre
          cases hblk2 : S2[bl]? with
          | none => rw [hblk2] at hre; cases hre
          | some x2 =>
            rw [hblk2] at hre
            split at hre
            rotate_left
            · cases hre
            rename_i v2 base2 lev2 en2 ps2 as2 bo2 heq
            cases heq
            split at hre
            rotate_left
            · cases hre
            rename_i hv2
            subst hv2
            have hlt2 : bl < S2.length := (List.getElem?_eq_some_iff.1 hblk2).1
            obtain ⟨cb2, L2, hm2, hB2, hh2, hheap3, hstate2, hjump2, hps2, hka2, hkb2, hLf2, hbl2, hls2, Eb2⟩ := R3.blk _ _ hblk2
            have hcb2 : cb2 = cb1 := by
              have := ((lall (bl + 1)).sig bl (by omega) (by rw [ver_some hblk2, ver_some hblk]; rfl) (4, 0) (by rw [sig_some hblk2]; rfl)).2
              rw [hm2, hm] at this
              cases this
              rfl
            subst hcb2
            let w4 : World := { w3 with heap := w3.heap.setIfInBounds cb2 (.loop { L2 with state := if jump.isNone then .ready else .done, pending := jump }) }
            have hheap4 : w4.heap[cb2]? = some (.loop { L2 with state := if jump.isNone then .ready else .done, pending := jump }) := by
              have : cb2 < w3.heap.size := (Array.getElem?_eq_some_iff.1 hheap3).1
              simp only [w4]
              rw [Array.getElem?_setIfInBounds_self_of_lt this]
            have fin : ∀ (st : Nat) (bv : Bool), bv = jump.isNone → S' = S2.set bl (.loop v2 base2 lev2 en2 ps2 as2 bo2 st j) → o = .ret (.bool bv) → rec = false → (if jump.isNone then LoopState.ready else LoopState.done) = (match st with | 0 => .ready | 1 => .done | _ => .busy) →
                ∃ cv w' g', Rel (progA P) B0 w0 g' S' w' ∧ Le S.length g S g' S' ∧ S.length ≤ S'.length ∧ V g' S' S'.length o.val cv ∧ Ends P (lone b0 (caller :: cs) w) kind caller cs rec w' cv o := by
              intro st bv e1 e2 e3 e4 e5
              subst e1 e2 e3 e4
              have lt2 : ∀ k, Le k g3 S2 g3 (S2.set bl (.loop v2 base2 lev2 en2 ps2 as2 bo2 st j)) := fun k => Le.turn hlt2 (by rw [ver_some hblk2]; exact Nat.le_refl _) (.inl (by rw [sig_some hblk2]; rfl)) k
              refine ⟨.bool jump.isNone, w4, g3, ?_, (lall _).trans (lt2 _), by rw [List.length_set, nall]; exact Nat.le_refl _, by simp [Out.val, V], ?_⟩
              · refine R3.write hlt2 (by rw [ver_some hblk2]; exact Nat.le_refl _) (.inl (by rw [sig_some hblk2]; rfl)) (cb := cb2) (fun _ c s hc => by rw [hm2] at hc; cases hc; rfl) (.inr ⟨by rw [sig_some hblk2]; simp [Blk.sig], ⟨_, hm2⟩, hh2, hB2⟩) ?_ rfl rfl rfl (by simp [w4]) ?_
                · intro i hi
                  simp only [w4]
                  rw [Array.getElem?_setIfInBounds_ne (fun e => hi e.symm)]
                · exact ⟨cb2, _, hm2, hB2, hh2, hheap4, e5, hj, hps2, hka2, hkb2, hLf2, hbl2, by rw [List.length_set]; exact hls2, Eb2.mono (lt2 _)⟩
              · refine Ends.of (Steps.trans hs0 hst) ?_
                rw [hcs3]
                exact round_ends (g := g) (S := S) hrd3 hheap3 ht F3.kind hg
            cases j with
            | none =>
              simp only at hre
              cases hre
              have hjz : jump.isNone = true := hjn.symm
              exact fin 0 true hjz.symm rfl rfl rfl (by rw [hjz]; rfl)
            | some j =>
              simp only at hre
              cases hre
              have hjz : jump.isNone = false := hjn.symm
              exact fin 1 false hjz.symm rfl rfl rfl (by rw [hjz]; rfl)
        rw [hex2] at h
        cases ex with
        | nrm => exact ends none [] none h trivial rfl r3 (.inl ⟨rfl, rfl⟩)
        | ret =>
          obtain ⟨k', hs⟩ := r3
          exact ends (some .ret) _ (some .ret) h trivial rfl hs (.inr (.inl ⟨k', rfl, rfl⟩))
        | exit i =>
          obtain ⟨k', hk', hs⟩ := r3
          exact ends (some (.exit i)) _ (some (.exit i)) h rfl rfl hs (.inr (.inr (.inl ⟨i, k', rfl, by rw [hk']; rfl, rfl⟩)))
        | goto i =>
          obtain ⟨k', hk', hs⟩ := r3
          exact ends (some (.goto i)) _ (some (.goto i)) h rfl rfl hs (.inr (.inr (.inr ⟨i, k', rfl, by rw [hk']; rfl, rfl⟩)))
        | pan x =>
          simp only at h
          cases h
          obtain ⟨cv, chain, todo, ⟨older, hch, hno⟩, hv, hs⟩ := r3
          obtain ⟨Fn, hFn⟩ := Option.isSome_iff_exists.1 hb0f
          refine ⟨cv, w3, g3, R3, lall _, by rw [nall]; exact Nat.le_refl _, hv, Ends.of (Steps.trans hs0 hs) ?_⟩
          rw [hcs3]
          exact frame_leaves (g := g3) (S := S') (fr := { fat b3 tm3 todo with mode := .panicking chain }) hd3 (by show P.funcs[b3.fn]? = some Fn; rw [F3.fn]; exact hFn) (show b3.kind = kind from F3.kind) hg.callers (p := some x) ⟨cv, older, by rw [hch], hno, hv⟩
            ⟨rfl, fun xv' older' hm' => by rw [hch] at hm'; cases hm'; rfl⟩

/-- all calls, by their depth -/
theorem call_ok {IP : Nat → Option IFn} {ext : Nat → Option (List AV → Option AV)} (hIP : ∀ f fn, IP f = some fn → ∃ F, P.funcs[f]? = some F ∧ okFn P fn F = true) (he : ExtOK (progA P) P ext) (lf : Nat) : ∀ d, CallOK (progA P) P (call lf IP ext d)
  | 0 => by
    intro pv fv args S o rec S' h
    simp [call] at h
  | d + 1 => by
    have ih := call_ok hIP he lf d
    intro pv fv args S o rec S' h B0 w0 g w f as R hf ha
    simp only [call] at h
    cases fv <;> simp only at h <;> first | (cases h; done) | skip
    · rename_i fi first cap
      split at h
      · cases h
      · simp only [V] at hf
        obtain ⟨a, c, rfl, h1, h2⟩ := hf
        refine ⟨⟨_, _, _, rfl⟩, ?_⟩
        have hv := VT.append _ _ _ _ (VT.append _ _ _ _ h1 ha) h2
        have harr : (a ++ as ++ c).toArray = (a.toArray ++ as.toArray) ++ c.toArray := by simp
        cases hfn : IP fi with
        | none => simp [callFn, hfn] at h
        | some fn =>
          obtain ⟨F, hF, hok⟩ := hIP fi fn hfn
          have hbody : F.body.isSome = true := by unfold okFn at hok; split at hok <;> simp_all
          have hname : (F.name == "runtime.NumGoroutine") = false := by
            unfold okFn at hok
            split at hok
            · simp only [Bool.and_eq_true, bne_iff_ne, ne_eq] at hok
              simpa using hok.2
            · cases hok
          have hb := begins_fn (w := w) hF hbody hname c.toArray (a.toArray ++ as.toArray)
          refine ⟨_, hb, fun hpv caller cs => ?_, fun caller cs hpv => ?_⟩
          · obtain ⟨cv, w', g', q1, q2, q3, q4, q5⟩ := callFn_sound (cs := cs) ih he hIP h R hv (kind := .normal) (caller := caller) (.inl ⟨rfl, hpv⟩)
            rw [harr] at q5
            exact ⟨cv, w', g', q1, q2, q3, q4, q5.1 rfl⟩
          · obtain ⟨cv, w', g', q1, q2, q3, q4, q5⟩ := callFn_sound (cs := cs) ih he hIP h R hv (kind := .deferred) (caller := caller) (.inr ⟨rfl, hpv⟩)
            rw [harr] at q5
            exact ⟨cv, w', g', q1, q2, q3, q4, q5.2 rfl⟩
    · rename_i bl ver
      obtain ⟨hfn, F, hF, hE⟩ := callYld_sound ih he h R hf ha
      refine ⟨hfn, F, hF, fun hpv caller cs => ?_, fun caller cs hpv => ?_⟩
      · obtain ⟨cv, w', g', q1, q2, q3, q4, q5⟩ := hE .normal pv caller cs (.inl ⟨rfl, hpv⟩)
        exact ⟨cv, w', g', q1, q2, q3, q4, q5.1 rfl⟩
      · obtain ⟨cv, w', g', q1, q2, q3, q4, q5⟩ := hE .deferred pv caller cs (.inr ⟨rfl, hpv⟩)
        exact ⟨cv, w', g', q1, q2, q3, q4, q5.2 rfl⟩

end Go.Wm

set_option linter.unusedVariables false
set_option linter.unusedSimpArgs false
namespace Go.Wm
open Go.RowKit

variable {A : Alike} {P : Program} {w : World}

/-- a call that is said to return: its steps -/
theorem Calls.steps {f : Nat} {args : Array Value} {R : Ending → World → Prop} (h : Calls P f args w R) (hr : ∀ e w', R e w' → ∃ v, e = .returned v) (caller : Frame) (cs : List Frame) :
    ∃ v w', R (.returned v) w' ∧ Steps P (lone (Frame.enter P f args .normal) (caller :: cs) w) (lone (caller.finish v) cs w') := by
  obtain ⟨e, w', fr, hR, hs, hf, hl⟩ := h (caller :: cs)
  obtain ⟨v, rfl⟩ := hr e w' hR
  exact ⟨v, w', hR, Steps.trans hs (.one (step_leave_returned hl))⟩

theorem clone_ext {f t e bytes : Nat} {F : Func} (hF : P.funcs[f]? = some F) (hb : F.body.isSome = true) (hn : (F.name == "runtime.NumGoroutine") = false)
    (hcl : ∀ (a : Addr) (n c : Nat) (news : List Value) (w : World), news.length = n * e → n ≤ maxLen → n * bytes ≤ 140737488355328 → (∀ j u, news[j]? = some u → w.cell? (a.add j) = some u) → (∀ u ∈ news, u.oneCell' = true) →
      Calls P f #[.slice (some a) n c] w fun en w' => ∃ v', en = .returned v' ∧ w'.ownsRow w.heap.size t e v' n news ∧ v' ≠ .slice none 0 0 ∧ Below w.heap.size w w')
    (hnil : ∀ (n c : Nat) (w : World), Calls P f #[.slice none n c] w fun en w' => en = .returned (.slice none 0 0) ∧ w' = w)
    {rows : List (List AV)} (hsz : rows.length * bytes ≤ 140737488355328) {H : Nat → Option (Array Value)} {as cap : List Value} (hH : ∀ cb a, H cb = some a → ∃ t fz, w.heap[cb]? = some (.cells a t fz))
    (hv : VT (lentSg H) [] 0 [.imm e rows] (as ++ cap)) :
    ∃ F', Begins P w { target := .fn (.func f) cap.toArray, args := as.toArray } F' ∧ ∀ (caller : Frame) (cs : List Frame), ∃ cv w1,
      Steps P (lone (F' .normal) (caller :: cs) w) (lone (caller.finish cv) cs w1) ∧ PureOut A w H (.new t e rows) cv w1 := by
  refine ⟨_, begins_fn hF hb hn cap.toArray as.toArray, fun caller cs => ?_⟩
  simp only [VT] at hv
  obtain ⟨v, vs', hvs, hx, rfl⟩ := hv
  have hargs : as.toArray ++ cap.toArray = #[v] := by
    apply Array.ext'
    simpa using hvs
  rw [hargs]
  have hx' : V (lentSg H) [] 0 (.imm e rows) v := hx
  simp only [V] at hx
  obtain ⟨a, c, rfl, h1, h2, h3, h4, h5⟩ := hx
  have hmem : ∀ w1, Below w.heap.size w w1 → Rel A w.heap.size w (lentSg H) [] w1 := fun w1 hb => (lent_rel hH).later hb
  cases a with
  | none =>
    obtain rfl := h4 rfl
    have hr0 : rows = [] := by
      cases rows with
      | nil => rfl
      | cons _ _ => simp at h1
    obtain ⟨v', w', ⟨hv', rfl⟩, hs⟩ := Calls.steps (hnil rows.length 0 w) (fun e w' h => ⟨_, h.1⟩) caller cs
    cases hv'
    refine ⟨_, _, hs, lentSg H, [], [], hmem _ (Below.refl _ _), fun _ _ h => h, rfl, ?_, List.nodup_nil, by simp⟩
    simp only [VX]
    exact ⟨h3, .inl ⟨rfl, hr0, none, rfl⟩⟩
  | some a =>
    -- the cells
    obtain ⟨news, hl, hcells, hone, hback⟩ : ∃ news : List Value, news.length = rows.length * e ∧ (∀ j u, news[j]? = some u → w.cell? (a.add j) = some u) ∧ (∀ u ∈ news, u.oneCell' = true) ∧ VR H e rows news := by
      rcases h5 with rfl | ⟨cb, off, arr, ha, hh, hr⟩
      · exact ⟨[], by simp, by simp, by simp, by simp [VR]⟩
      · cases ha
        have hroom := VR.room _ _ hr
        refine ⟨(arr.toList.drop off).take (rows.length * e), by rw [List.length_take]; omega, ?_, ?_, VR.cut _ _ _ hr (Nat.le_refl _)⟩
        · intro j u hj
          obtain ⟨t', fz, hcb⟩ := hH cb arr hh
          have hj2 : arr.toList[off + j]? = some u := by
            rw [List.getElem?_take] at hj
            split at hj
            · simpa [List.getElem?_drop] using hj
            · cases hj
          have e : (⟨cb, off, none⟩ : Addr).add j = ⟨cb, off + j, none⟩ := Addr.add_lit ..
          rw [e]
          simp [World.cell?, hcb]
          simpa using hj2
        · exact (VR.flat _ _ hr).2
    obtain ⟨v', w', ⟨v2, hv2, hown, hnn, hbe⟩, hs⟩ := Calls.steps (hcl a rows.length c news w hl (by omega) hsz hcells hone) (fun e w' h => ⟨_, h.choose_spec.1⟩) caller cs
    cases hv2
    obtain ⟨_, ⟨rfl, _⟩ | ⟨gb, cp, cur, rfl, hg, hheap, hle, hmax, hcur, htake⟩⟩ := hown
    · exact absurd rfl hnn
    refine ⟨_, _, hs, lentSg H, [], [gb], hmem _ hbe, fun _ _ h => h, rfl, ?_, by simp, ?_⟩
    · simp only [VX]
      refine ⟨h3, .inr ⟨gb, cur, cp, rfl, hheap, rfl, hle, hmax, hcur.symm, ?_⟩⟩
      have := VR.pre _ _ (cur.toList.drop (rows.length * e)) hback
      rw [← htake] at this
      rw [List.take_append_drop] at this
      exact this
    · intro cb hcb
      simp only [List.mem_singleton] at hcb
      subst hcb
      refine ⟨hg, ?_⟩
      show H cb = none
      cases hh : H cb with
      | none => rfl
      | some arr =>
        obtain ⟨t', fz, hcb'⟩ := hH cb arr hh
        have := (Array.getElem?_eq_some_iff.1 hcb').1
        omega
end Go.Wm

set_option linter.unusedVariables false
set_option linter.unusedSimpArgs false
namespace Go.Wm
open Go.RowKit

variable {P : Program} {B0 : Nat} {w0 w w' : World} {g g' : Sg} {S S' S1 : Sto} {cx : Cx}

/-- a function without deferred calls of its own: its frame stands before its return -/
theorem fn_leaves (hc : CallOK (progA P) P cx.cd) (he : ExtOK (progA P) P cx.ext) {IP : Nat → Option IFn} (hIP : ∀ f fn, IP f = some fn → ∃ F, P.funcs[f]? = some F ∧ okFn P fn F = true) {lf : Nat} {f : Nat} {args : List AV} {v : AV} {rec : Bool}
    {fn : IFn} (hfn : IP f = some fn) (hsp : specC fn.body = false)
    (h : callFn lf cx IP none f args S = some (.ret v, rec, S')) (R : Rel (progA P) B0 w0 g S w) {as : List Value} (ha : VT g S S.length args as) (cs : List Frame) :
    ∃ cv w' g' fr, Rel (progA P) B0 w0 g' S' w' ∧ Le S.length g S g' S' ∧ S.length ≤ S'.length ∧ V g' S' S'.length v cv ∧ Steps P (lone (Frame.enter P f as.toArray .normal) cs w) (lone fr cs w') ∧ fr.fn = f ∧ fr.leaving P w' (.returned cv) := by
  unfold callFn at h
  rw [hfn] at h
  obtain ⟨F, hF, hok⟩ := hIP f fn hfn
  unfold okFn at hok
  cases hbody : F.body with
  | none => rw [hbody] at hok; cases hok
  | some c =>
    rw [hbody] at hok
    simp only [Bool.and_eq_true, decide_eq_true_eq] at hok
    obtain ⟨⟨⟨⟨hokC, hokR⟩, hn⟩, hnt⟩, _⟩ := hok
    simp only at h
    split at h
    rotate_left
    · cases h
    rename_i hcond
    simp only [Bool.and_eq_true, decide_eq_true_eq] at hcond
    obtain ⟨hlen, hpv⟩ := hcond
    have hal := VT.length _ _ ha
    let b0 : Frame := Frame.enter P f as.toArray .normal
    let tm0 : Array Value := as.toArray ++ Array.replicate (F.ntmps - as.toArray.size) undef
    have hb0 : b0 = fat b0 tm0 [.code c] := by
      simp only [b0, tm0, Frame.enter, fat, hF, hbody, Option.map_some, Option.getD_some, Option.bind_some]
    have hsize : tm0.size = F.ntmps := by simp [tm0]; omega
    have hd0 : b0.defers = [] := rfl
    have hk0 : b0.kind = .normal := rfl
    obtain ⟨R0, l0⟩ := R.more fn.ns
    have E0 : ER g (S ++ List.replicate fn.ns (.dead 0)) (S ++ List.replicate fn.ns (Blk.dead 0)).length ((pslot, (none : Option AV).getD .nili) :: zipEnv 0 args) tm0 := by
      intro t ht
      rw [Env.get_cons, if_neg (by unfold pslot; omega), zipEnv_get, if_pos (Nat.zero_le _), Nat.sub_zero]
      cases hx : args[t]? with
      | none => simp [V]
      | some x =>
        obtain ⟨v, hv, hvx⟩ := VT.at_ _ _ ha t x hx
        have : tm0.getD t undef = v := by
          have hlt : t < as.length := (List.getElem?_eq_some_iff.1 hv).1
          simp only [tm0]
          rw [Array.getD_eq_getD_getElem?, Array.getElem?_append_left (by simpa using hlt)]
          simp [hv]
        rw [this]
        exact V.level (by simp) _ _ (V.mono (l0 _) _ _ hvx)
    have hnoslot : ∀ t, 900000 ≤ t → (zipEnv 0 args).get t = .any := by
      intro t ht
      rw [zipEnv_get, if_pos (Nat.zero_le _), List.getElem?_eq_none_iff.2 (by omega)]
      rfl
    have F0 : FS g.q (if specC fn.body then 1 else 0) b0 cs g (S ++ List.replicate fn.ns (.dead 0)) (S ++ List.replicate fn.ns (Blk.dead 0)).length ((pslot, (none : Option AV).getD .nili) :: zipEnv 0 args) b0 cs := by
      refine ⟨rfl, rfl, rfl, fun _ => rfl, fun p hp => hp, fun _ => ⟨rfl, fun _ => ?_, fun _ => ?_, [], by rw [hd0]; rfl, List.nodup_nil, by simp, fun _ => rfl⟩, fun hm => ?_⟩
      · rw [Env.get_cons, if_neg (by decide)]; exact hnoslot _ (by decide)
      · rw [Env.get_cons, if_neg (by decide)]; exact hnoslot _ (by decide)
      · rw [hsp] at hm; cases hm
    have H : Hyp P cx F.ntmps := ⟨hc, he, hn⟩
    have hb0f : (P.funcs[b0.fn]?).isSome = true := by
      show (P.funcs[f]?).isSome = true
      rw [hF]
      rfl
    have fin : ∀ {env : Env} {S1 : Sto} {g1 : Sg} {w1 : World} {tm' : Array Value} {b' : Frame} {cs' : List Frame} {fr : Frame}, finish cx fn none env S1 = some (.ret v, rec, S') → Rel (progA P) B0 w0 g1 S1 w1 → (∀ k, Le k g (S ++ List.replicate fn.ns (.dead 0)) g1 S1) → S1.length = (S ++ List.replicate fn.ns (Blk.dead 0)).length →
        ER g1 S1 S1.length env tm' → FS g.q (if specC fn.body then 1 else 0) b0 cs g1 S1 S1.length env b' cs' → fr.tmps = tm' → fr.defers = b'.defers → fr.kind = b'.kind → fr.fn = b'.fn → fr.mode = .returning → Steps P (lone (Frame.enter P f as.toArray .normal) cs w) (lone fr cs' w1) →
        ∃ cv w' g' fr, Rel (progA P) B0 w0 g' S' w' ∧ Le S.length g S g' S' ∧ S.length ≤ S'.length ∧ V g' S' S'.length v cv ∧ Steps P (lone (Frame.enter P f as.toArray .normal) cs w) (lone fr cs w') ∧ fr.fn = f ∧ fr.leaving P w' (.returned cv) := by
      intro env S1 g1 w1 tm' b' cs' fr hf R1 l1 n1 E1 F1 a1 a2 a3 a4 hm hs
      have hmd : (if specC fn.body then 1 else 0) = 0 := by rw [hsp]; rfl
      rw [hmd] at F1
      obtain ⟨hcs, hds, hrs, rs, hdf, hnd, hrq, _⟩ := F1.plain (by decide)
      subst hcs
      rw [hd0, List.append_nil] at hdf
      obtain ⟨w2, q', s2, R2, hq2⟩ := take_marks (cs := cs') (ds := []) rs (fr := fr) (by rw [hm]; trivial) (by rw [a2, hdf]; simp) hnd hrq F1.q R1
      unfold finish at hf
      rw [hds rfl, hrs rfl] at hf
      simp only at hf
      split at hf
      · rename_i v' hv
        simp only [Option.some.injEq, Prod.mk.injEq, Out.ret.injEq] at hf
        obtain ⟨h71, _, h72⟩ := hf
        rw [← h71, ← h72]
        have E2 : ER { g1 with q := q' } S1 S1.length env tm' := fun t ht => V.congr (g := g1) (g' := { g1 with q := q' }) rfl rfl _ _ (E1 t ht)
        obtain ⟨cv, hr, hvv⟩ := results_sound (P := P) R2 E2 hn hokR hv
        have l01 : Le S.length g S { g1 with q := q' } S1 := by
          have := (l0 S.length).trans (l1 S.length)
          exact ⟨this.h, this.ver, this.sig, this.h0, fun p hp => hq2 p hp⟩
        refine ⟨cv, w2, { g1 with q := q' }, { fr with defers := [] }, R2, l01, by rw [n1]; simp, hvv, Steps.trans hs s2, ?_, hm, rfl, ?_, F, ?_, ?_⟩
        · exact a4.trans F1.fn
        · exact a3.trans F1.kind
        · show P.funcs[fr.fn]? = some F
          rw [a4.trans F1.fn]
          exact hF
        · show (Go.results F fr.tmps).run P w2 = .ok cv w2
          rw [a1]
          exact hr
      · cases hf
    cases hex : exec lf cx S.length fn.body ((pslot, (none : Option AV).getD .nili) :: zipEnv 0 args) (S ++ List.replicate fn.ns (.dead 0)) with
    | none => rw [hex] at h; cases h
    | some q =>
      obtain ⟨ex, env, S1⟩ := q
      rw [hex] at h
      obtain ⟨tm', b', cs', g1, w1, r1, R1, l1, n1, E1, t1, F1⟩ := exec_sound (b0 := b0) (cs0 := cs) (q0 := g.q) (k := []) H hb0f lf fn.body c hokC hex (by simp) R0 E0 hsize F0
      rw [← hb0] at r1
      have hrd : b'.roundOf = none := F1.rd.trans rfl
      cases ex with
      | ret =>
        obtain ⟨k', hs⟩ := r1
        exact fin h R1 l1 n1 E1 F1 (fr := { fat b' tm' (.code .ret :: k') with mode := .returning }) rfl rfl rfl rfl rfl (Steps.trans hs (.one (st_ret hrd)))
      | nrm =>
        have hs : Steps P _ (lone (fat b' tm' []) cs' w1) := r1
        exact fin h R1 l1 n1 E1 F1 (fr := { fat b' tm' [] with mode := .returning }) rfl rfl rfl rfl rfl (Steps.trans hs (.one (st_end hrd)))
      | pan x =>
        exfalso
        have hmd : (if specC fn.body then 1 else 0) = 0 := by rw [hsp]; rfl
        rw [hmd] at F1
        obtain ⟨hcs, hds, hrs, _⟩ := F1.plain (by decide)
        simp only at h
        unfold finish at h
        rw [hds rfl] at h
        simp at h
      | exit id => cases h
      | goto l => cases h

/-- handed values that are data: the kit's word for it -/
theorem calls_of (hc : CallOK (progA P) P cx.cd) (he : ExtOK (progA P) P cx.ext) {IP : Nat → Option IFn} (hIP : ∀ f fn, IP f = some fn → ∃ F, P.funcs[f]? = some F ∧ okFn P fn F = true) {lf : Nat} {f : Nat} {args : List AV} {v : AV} {rec : Bool}
    {fn : IFn} (hfn : IP f = some fn) (hsp : specC fn.body = false)
    (h : callFn lf cx IP none f args [] = some (.ret v, rec, S')) {as : List Value} {H : Nat → Option (Array Value)} (hH : ∀ cb a, H cb = some a → ∃ t fz, w.heap[cb]? = some (.cells a t fz)) (ha : VT (lentSg H) [] 0 args as) :
    Calls P f as.toArray w fun e w' => ∃ cv g', e = .returned cv ∧ V g' S' S'.length v cv ∧ Below w.heap.size w w' := by
  intro cs
  obtain ⟨cv, w', g', fr, R, _, _, hv, hs, hf, hl⟩ := fn_leaves hc he hIP hfn hsp h (lent_rel hH) ha cs
  exact ⟨.returned cv, w', fr, ⟨cv, g', rfl, hv, R.below⟩, hs, hf, hl⟩

end Go.Wm
