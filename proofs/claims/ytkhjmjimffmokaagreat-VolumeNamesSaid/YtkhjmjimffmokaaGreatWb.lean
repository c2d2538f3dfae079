/-
The abstract machine is sound, part 1.
-/
import Derived.Calls
import Derived.Below
import Derived.Laws.AppendOwn
import Derived.Laws.CopyRow
import Derived.Laws.Cells
import Derived.Laws.Entries
import Derived.Test.YtkhjmjimffmokaaGreatWa

set_option linter.unusedVariables false
set_option linter.unusedSimpArgs false
namespace Go.Wm
open Go.RowKit

/-- memory that no longer turns, and where the abstract blocks lie (block, how many cells) -/
structure Sg where
  h : Nat → Option (Array Value)
  m : Nat → Option (Nat × Nat)
  /-- what was frozen when the call began -/
  h0 : Nat → Option (Array Value) := fun _ => none
  /-- memory that no block has and that stays as it is: lists of deferred calls of loops, variables that wait for their block -/
  q : List (Nat × Obj) := []

/-- what a name of a block says, where it is of now -/
def Ref (S : Sto) (k b ver kind : Nat) (φ : Nat → Prop) : Prop :=
  b < k ∧ ver ≤ S.ver b ∧ (S.ver b = ver → ∀ e, S.sig b = some (kind, e) → φ e)

/-- a slice into a row of the call's own -/
def Loc (g : Sg) (e b lo n : Nat) (f : Bool) (v : Value) : Prop :=
  (g.m b = none ∧ (∃ a, v = .slice a 0 0) ∧ n = 0 ∧ lo = 0) ∨ (n = 0 ∧ f = false ∧ ∃ a c, v = .slice a 0 c ∧ c ≤ maxLen ∧ (a = none → c = 0)) ∨
  ∃ cb sz c, g.m b = some (cb, sz) ∧ v = .slice (some ⟨cb, lo * e, none⟩) n c ∧ n ≤ c ∧ c ≤ maxLen ∧ (f = true → lo = 0 ∧ c * e = sz)

mutual
/-- values that name no block of the call's own -/
def VP (h : Nat → Option (Array Value)) : AV → Value → Prop
  | .int kd n, v => v = .int kd n
  | .bool b, v => v = .bool b
  | .str s, v => v = .string ⟨s.toArray⟩
  | .any, _ => True
  | .flt, v => ∃ b, v = .float .f64 b
  | .cpx, v => ∃ a b, v = .complex .f64 a b
  | .nilp, v => v = .pointer none
  | .nilf, v => v = .nilFunc
  | .nili, v => v = .nilIface
  | .nilm, v => v = .map none
  | .agg cs, v => ∃ vs : List Value, v = .agg vs.toArray ∧ VPL h cs vs ∧ ∀ u ∈ vs, u.oneCell' = true
  | .ifc t x, v => ∃ u, v = .iface t u ∧ VP h x u
  | .imm e rows, v => ∃ a c, v = .slice a rows.length c ∧ rows.length ≤ c ∧ c ≤ maxLen ∧ 0 < e ∧ (a = none → c = 0) ∧
      (rows = [] ∨ ∃ cb off arr, a = some ⟨cb, off, none⟩ ∧ h cb = some arr ∧ VR h e rows (arr.toList.drop off))
  | .fn f first cap, v => ∃ a c : List Value, v = .func (.func f) a.toArray c.toArray ∧ VPL h first a ∧ VPL h cap c
  | .nils _ _, _ | .zs _ _, _ | .own _ _ _ _ _ _, _ | .vsl _ _ _ _ _, _ | .ptr _ _ _, _ | .eptr _ _ _ _, _ | .iptr _ _, _ | .yld _ _, _ | .map _ _, _ | .itr _ _, _
  | .tup _, _ | .new _ _ _, _ | .nbox _ _, _ | .nmap _, _ => False
def VPL (h : Nat → Option (Array Value)) : List AV → List Value → Prop
  | [], vs => vs = []
  | x :: xs, vs => ∃ v vs', vs = v :: vs' ∧ VP h x v ∧ VPL h xs vs'
def VR (h : Nat → Option (Array Value)) (e : Nat) : List (List AV) → List Value → Prop
  | [], _ => True
  | r :: rs, vs => r.length = e ∧ VPL h r (vs.take e) ∧ (∀ u ∈ vs.take e, u.oneCell' = true) ∧ VR h e rs (vs.drop e)
end

mutual
def V (g : Sg) (S : Sto) (k : Nat) : AV → Value → Prop
  | .int kd n, v => v = .int kd n
  | .bool b, v => v = .bool b
  | .str s, v => v = .string ⟨s.toArray⟩
  | .any, _ => True
  | .flt, v => ∃ b, v = .float .f64 b
  | .cpx, v => ∃ a b, v = .complex .f64 a b
  | .nilp, v => v = .pointer none
  | .nilf, v => v = .nilFunc
  | .nili, v => v = .nilIface
  | .nilm, v => v = .map none
  | .nils _ _, v => v = .slice none 0 0
  | .zs _ _, v => ∃ a, v = .slice a 0 0
  | .agg cs, v => ∃ vs : List Value, v = .agg vs.toArray ∧ VT g S k cs vs ∧ ∀ u ∈ vs, u.oneCell' = true
  | .tup cs, v => ∃ vs : List Value, v = .tuple vs.toArray ∧ VT g S k cs vs
  | .ifc t x, v => ∃ u, v = .iface t u ∧ V g S k x u
  | .imm e rows, v => ∃ a c, v = .slice a rows.length c ∧ rows.length ≤ c ∧ c ≤ maxLen ∧ 0 < e ∧ (a = none → c = 0) ∧
      (rows = [] ∨ ∃ cb off arr, a = some ⟨cb, off, none⟩ ∧ g.h cb = some arr ∧ VR g.h e rows (arr.toList.drop off))
  | .own e b ver lo n f, v => 0 < e ∧ v.oneCell' = true ∧ Ref S k b ver 1 fun e' => e' = e ∧ Loc g e b lo n f v
  | .vsl b ver off e n, v => 0 < e ∧ v.oneCell' = true ∧ Ref S k b ver 0 fun _ => ∃ cb sz c, g.m b = some (cb, sz) ∧ v = .slice (some ⟨cb, off, none⟩) n c ∧ n ≤ c ∧ c ≤ maxLen
  | .ptr b ver off, v => v.oneCell' = true ∧ Ref S k b ver 0 fun _ => ∃ cb sz, g.m b = some (cb, sz) ∧ v = .pointer (some ⟨cb, off, none⟩)
  | .eptr b ver i j, v => v.oneCell' = true ∧ Ref S k b ver 1 fun e => ∃ cb sz, g.m b = some (cb, sz) ∧ v = .pointer (some ⟨cb, i * e + j, none⟩)
  | .iptr cs j, v => ∃ cb off arr, v = .pointer (some ⟨cb, off + j, none⟩) ∧ g.h cb = some arr ∧
      VPL g.h cs ((arr.toList.drop off).take cs.length) ∧ ∀ u ∈ (arr.toList.drop off).take cs.length, u.oneCell' = true
  | .fn f first cap, v => ∃ a c : List Value, v = .func (.func f) a.toArray c.toArray ∧ VT g S k first a ∧ VT g S k cap c
  | .yld b ver, v => v.oneCell' = true ∧ Ref S k b ver 4 fun _ => ∃ cb sz, g.m b = some (cb, sz) ∧ v = .func (.yield cb) #[] #[]
  | .map b ver, v => v.oneCell' = true ∧ Ref S k b ver 2 fun _ => ∃ cb sz, g.m b = some (cb, sz) ∧ v = .map (some cb)
  | .itr b ver, v => v.oneCell' = true ∧ Ref S k b ver 3 fun _ => ∃ cb sz, g.m b = some (cb, sz) ∧ v = .pointer (some ⟨cb, 0, none⟩)
  | .new _ _ _, _ | .nbox _ _, _ | .nmap _, _ => False
def VT (g : Sg) (S : Sto) (k : Nat) : List AV → List Value → Prop
  | [], vs => vs = []
  | x :: xs, vs => ∃ v vs', vs = v :: vs' ∧ V g S k x v ∧ VT g S k xs vs'
end

/-- what held of blocks up to k holds still -/
structure Le (k : Nat) (g : Sg) (S : Sto) (g' : Sg) (S' : Sto) : Prop where
  h : ∀ c a, g.h c = some a → g'.h c = some a
  ver : ∀ b, b < k → S.ver b ≤ S'.ver b
  sig : ∀ b, b < k → S'.ver b = S.ver b → ∀ s, S'.sig b = some s → S.sig b = some s ∧ g'.m b = g.m b
  h0 : g'.h0 = g.h0
  q : ∀ r, r ∈ g.q → r ∈ g'.q

theorem Le.refl (k : Nat) (g : Sg) (S : Sto) : Le k g S g S := ⟨fun _ _ h => h, fun _ _ => Nat.le_refl _, fun _ _ _ _ h => ⟨h, rfl⟩, rfl, fun _ h => h⟩

theorem Le.trans {k : Nat} {g g1 g2 : Sg} {S S1 S2 : Sto} (a : Le k g S g1 S1) (b : Le k g1 S1 g2 S2) : Le k g S g2 S2 where
  h c x hc := b.h c x (a.h c x hc)
  ver i hi := Nat.le_trans (a.ver i hi) (b.ver i hi)
  sig i hi hv s hs := by
    have h1 := a.ver i hi
    have h2 := b.ver i hi
    obtain ⟨s1, m1⟩ := b.sig i hi (by omega) s hs
    obtain ⟨s0, m0⟩ := a.sig i hi (by omega) s s1
    exact ⟨s0, m1.trans m0⟩
  h0 := b.h0.trans a.h0
  q r h := b.q r (a.q r h)

theorem Le.mono {k k' : Nat} {g g' : Sg} {S S' : Sto} (a : Le k g S g' S') (h : k' ≤ k) : Le k' g S g' S' :=
  ⟨a.h, fun b hb => a.ver b (by omega), fun b hb => a.sig b (by omega), a.h0, a.q⟩

theorem Ref.mono {k : Nat} {g g' : Sg} {S S' : Sto} (l : Le k g S g' S') {b ver kind : Nat} {φ ψ : Nat → Prop}
    (h : Ref S k b ver kind φ) (hm : g'.m b = g.m b → ∀ e, φ e → ψ e) : Ref S' k b ver kind ψ := by
  obtain ⟨hb, h1, h2⟩ := h
  have hv := l.ver b hb
  refine ⟨hb, by omega, fun e1 e hs => ?_⟩
  obtain ⟨s0, m0⟩ := l.sig b hb (by omega) _ hs
  exact hm m0 e (h2 (by omega) e s0)

theorem Loc.mono {g g' : Sg} {e b lo n : Nat} {f : Bool} {v : Value} (hm : g'.m b = g.m b) (h : Loc g e b lo n f v) : Loc g' e b lo n f v := by
  unfold Loc at *
  rw [hm]
  exact h

mutual
theorem VP.mono {h h' : Nat → Option (Array Value)} (l : ∀ c a, h c = some a → h' c = some a) : ∀ (x : AV) (v : Value), VP h x v → VP h' x v
  | .int _ _, v, q => by simpa [VP] using q
  | .bool _, v, q => by simpa [VP] using q
  | .str _, v, q => by simpa [VP] using q
  | .any, v, q => by simp [VP]
  | .flt, v, q => by simpa [VP] using q
  | .cpx, v, q => by simpa [VP] using q
  | .nilp, v, q => by simpa [VP] using q
  | .nilf, v, q => by simpa [VP] using q
  | .nili, v, q => by simpa [VP] using q
  | .nilm, v, q => by simpa [VP] using q
  | .agg cs, v, q => by
    simp only [VP] at q ⊢
    obtain ⟨vs, e, h1, h2⟩ := q
    exact ⟨vs, e, VPL.mono l cs vs h1, h2⟩
  | .ifc t x, v, q => by
    simp only [VP] at q ⊢
    obtain ⟨u, e, h1⟩ := q
    exact ⟨u, e, VP.mono l x u h1⟩
  | .imm e rows, v, q => by
    simp only [VP] at q ⊢
    obtain ⟨a, c, e1, h1, h2, h0, h3, h4⟩ := q
    refine ⟨a, c, e1, h1, h2, h0, h3, ?_⟩
    rcases h4 with h4 | ⟨cb, off, arr, ea, eh, hr⟩
    · exact .inl h4
    · exact .inr ⟨cb, off, arr, ea, l _ _ eh, VR.mono l e rows _ hr⟩
  | .fn f a c, v, q => by
    simp only [VP] at q ⊢
    obtain ⟨x, y, e1, h1, h2⟩ := q
    exact ⟨x, y, e1, VPL.mono l a x h1, VPL.mono l c y h2⟩
  | .nils _ _, _, q => by simp [VP] at q
  | .zs _ _, _, q => by simp [VP] at q
  | .own _ _ _ _ _ _, _, q => by simp [VP] at q
  | .vsl _ _ _ _ _, _, q => by simp [VP] at q
  | .ptr _ _ _, _, q => by simp [VP] at q
  | .eptr _ _ _ _, _, q => by simp [VP] at q
  | .iptr _ _, _, q => by simp [VP] at q
  | .yld _ _, _, q => by simp [VP] at q
  | .map _ _, _, q => by simp [VP] at q
  | .itr _ _, _, q => by simp [VP] at q
  | .tup _, _, q => by simp [VP] at q
  | .new _ _ _, _, q => by simp [VP] at q
  | .nbox _ _, _, q => by simp [VP] at q
  | .nmap _, _, q => by simp [VP] at q
theorem VPL.mono {h h' : Nat → Option (Array Value)} (l : ∀ c a, h c = some a → h' c = some a) : ∀ (xs : List AV) (vs : List Value), VPL h xs vs → VPL h' xs vs
  | [], vs, q => by simpa [VPL] using q
  | x :: xs, vs, q => by
    simp only [VPL] at q ⊢
    obtain ⟨v, vs', e, h1, h2⟩ := q
    exact ⟨v, vs', e, VP.mono l x v h1, VPL.mono l xs vs' h2⟩
theorem VR.mono {h h' : Nat → Option (Array Value)} (l : ∀ c a, h c = some a → h' c = some a) (e : Nat) : ∀ (rs : List (List AV)) (vs : List Value), VR h e rs vs → VR h' e rs vs
  | [], vs, q => by simp [VR]
  | r :: rs, vs, q => by
    simp only [VR] at q ⊢
    exact ⟨q.1, VPL.mono l r _ q.2.1, q.2.2.1, VR.mono l e rs _ q.2.2.2⟩
end

mutual
theorem VP.toV {g : Sg} {S : Sto} {k : Nat} : ∀ (x : AV) (v : Value), VP g.h x v → V g S k x v
  | .int _ _, v, q => by simpa [VP, V] using q
  | .bool _, v, q => by simpa [VP, V] using q
  | .str _, v, q => by simpa [VP, V] using q
  | .any, v, q => by simp [V]
  | .flt, v, q => by simpa [VP, V] using q
  | .cpx, v, q => by simpa [VP, V] using q
  | .nilp, v, q => by simpa [VP, V] using q
  | .nilf, v, q => by simpa [VP, V] using q
  | .nili, v, q => by simpa [VP, V] using q
  | .nilm, v, q => by simpa [VP, V] using q
  | .agg cs, v, q => by
    simp only [VP] at q
    simp only [V]
    obtain ⟨vs, e, h1, h2⟩ := q
    exact ⟨vs, e, VPL.toV cs vs h1, h2⟩
  | .ifc t x, v, q => by
    simp only [VP] at q
    simp only [V]
    obtain ⟨u, e, h1⟩ := q
    exact ⟨u, e, VP.toV x u h1⟩
  | .imm e rows, v, q => by
    simp only [VP] at q
    simpa only [V] using q
  | .fn f a c, v, q => by
    simp only [VP] at q
    simp only [V]
    obtain ⟨x, y, e1, h1, h2⟩ := q
    exact ⟨x, y, e1, VPL.toV a x h1, VPL.toV c y h2⟩
  | .nils _ _, _, q => by simp [VP] at q
  | .zs _ _, _, q => by simp [VP] at q
  | .own _ _ _ _ _ _, _, q => by simp [VP] at q
  | .vsl _ _ _ _ _, _, q => by simp [VP] at q
  | .ptr _ _ _, _, q => by simp [VP] at q
  | .eptr _ _ _ _, _, q => by simp [VP] at q
  | .iptr _ _, _, q => by simp [VP] at q
  | .yld _ _, _, q => by simp [VP] at q
  | .map _ _, _, q => by simp [VP] at q
  | .itr _ _, _, q => by simp [VP] at q
  | .tup _, _, q => by simp [VP] at q
  | .new _ _ _, _, q => by simp [VP] at q
  | .nbox _ _, _, q => by simp [VP] at q
  | .nmap _, _, q => by simp [VP] at q
theorem VPL.toV {g : Sg} {S : Sto} {k : Nat} : ∀ (xs : List AV) (vs : List Value), VPL g.h xs vs → VT g S k xs vs
  | [], vs, q => by simpa [VPL, VT] using q
  | x :: xs, vs, q => by
    simp only [VPL] at q
    simp only [VT]
    obtain ⟨v, vs', e, h1, h2⟩ := q
    exact ⟨v, vs', e, VP.toV x v h1, VPL.toV xs vs' h2⟩
end

mutual
theorem V.mono {k : Nat} {g g' : Sg} {S S' : Sto} (l : Le k g S g' S') : ∀ (x : AV) (v : Value), V g S k x v → V g' S' k x v
  | .int _ _, v, h => by simpa [V] using h
  | .bool _, v, h => by simpa [V] using h
  | .str _, v, h => by simpa [V] using h
  | .any, v, h => by simp [V]
  | .flt, v, h => by simpa [V] using h
  | .cpx, v, h => by simpa [V] using h
  | .nilp, v, h => by simpa [V] using h
  | .nilf, v, h => by simpa [V] using h
  | .nili, v, h => by simpa [V] using h
  | .nilm, v, h => by simpa [V] using h
  | .nils _ _, v, h => by simpa [V] using h
  | .zs _ _, v, h => by simpa [V] using h
  | .agg cs, v, h => by
    simp only [V] at h ⊢
    obtain ⟨vs, e, h1, h2⟩ := h
    exact ⟨vs, e, VT.mono l cs vs h1, h2⟩
  | .tup cs, v, h => by
    simp only [V] at h ⊢
    obtain ⟨vs, e, h1⟩ := h
    exact ⟨vs, e, VT.mono l cs vs h1⟩
  | .ifc t x, v, h => by
    simp only [V] at h ⊢
    obtain ⟨u, e, h1⟩ := h
    exact ⟨u, e, V.mono l x u h1⟩
  | .imm e rows, v, h => by
    simp only [V] at h ⊢
    obtain ⟨a, c, e1, h1, h2, h0, h3, h4⟩ := h
    refine ⟨a, c, e1, h1, h2, h0, h3, ?_⟩
    rcases h4 with h4 | ⟨cb, off, arr, ea, eh, hr⟩
    · exact .inl h4
    · exact .inr ⟨cb, off, arr, ea, l.h _ _ eh, VR.mono l.h e rows _ hr⟩
  | .own e b ver lo n f, v, h => by
    simp only [V] at h ⊢
    exact ⟨h.1, h.2.1, h.2.2.mono l fun hm e' he => ⟨he.1, he.2.mono hm⟩⟩
  | .vsl b ver off e n, v, h => by
    simp only [V] at h ⊢
    exact ⟨h.1, h.2.1, h.2.2.mono l fun hm _ he => by rw [hm]; exact he⟩
  | .ptr b ver off, v, h => by
    simp only [V] at h ⊢
    exact ⟨h.1, h.2.mono l fun hm _ he => by rw [hm]; exact he⟩
  | .eptr b ver i j, v, h => by
    simp only [V] at h ⊢
    exact ⟨h.1, h.2.mono l fun hm _ he => by rw [hm]; exact he⟩
  | .iptr cs j, v, h => by
    simp only [V] at h ⊢
    obtain ⟨cb, off, arr, e1, e2, h1, h2⟩ := h
    exact ⟨cb, off, arr, e1, l.h _ _ e2, VPL.mono l.h cs _ h1, h2⟩
  | .fn f a c, v, h => by
    simp only [V] at h ⊢
    obtain ⟨x, y, e1, h1, h2⟩ := h
    exact ⟨x, y, e1, VT.mono l a x h1, VT.mono l c y h2⟩
  | .yld b ver, v, h => by
    simp only [V] at h ⊢
    exact ⟨h.1, h.2.mono l fun hm _ he => by rw [hm]; exact he⟩
  | .map b ver, v, h => by
    simp only [V] at h ⊢
    exact ⟨h.1, h.2.mono l fun hm _ he => by rw [hm]; exact he⟩
  | .itr b ver, v, h => by
    simp only [V] at h ⊢
    exact ⟨h.1, h.2.mono l fun hm _ he => by rw [hm]; exact he⟩
  | .new _ _ _, v, h => by simp [V] at h
  | .nbox _ _, v, h => by simp [V] at h
  | .nmap _, v, h => by simp [V] at h
theorem VT.mono {k : Nat} {g g' : Sg} {S S' : Sto} (l : Le k g S g' S') : ∀ (xs : List AV) (vs : List Value), VT g S k xs vs → VT g' S' k xs vs
  | [], vs, h => by simpa [VT] using h
  | x :: xs, vs, h => by
    simp only [VT] at h ⊢
    obtain ⟨v, vs', e, h1, h2⟩ := h
    exact ⟨v, vs', e, V.mono l x v h1, VT.mono l xs vs' h2⟩
end

/-! ### levels: what holds up to a lower level holds up to a higher one -/
theorem Ref.level {S : Sto} {k k' b ver kind : Nat} {φ : Nat → Prop} (h : Ref S k b ver kind φ) (hk : k ≤ k') : Ref S k' b ver kind φ :=
  ⟨by have := h.1; omega, h.2⟩
mutual
theorem V.level {g : Sg} {S : Sto} {k k' : Nat} (hk : k ≤ k') : ∀ (x : AV) (v : Value), V g S k x v → V g S k' x v
  | .int _ _, v, h => by simpa [V] using h
  | .bool _, v, h => by simpa [V] using h
  | .str _, v, h => by simpa [V] using h
  | .any, v, h => by simp [V]
  | .flt, v, h => by simpa [V] using h
  | .cpx, v, h => by simpa [V] using h
  | .nilp, v, h => by simpa [V] using h
  | .nilf, v, h => by simpa [V] using h
  | .nili, v, h => by simpa [V] using h
  | .nilm, v, h => by simpa [V] using h
  | .nils _ _, v, h => by simpa [V] using h
  | .zs _ _, v, h => by simpa [V] using h
  | .agg cs, v, h => by
    simp only [V] at h ⊢
    obtain ⟨vs, e, h1, h2⟩ := h
    exact ⟨vs, e, VT.level hk cs vs h1, h2⟩
  | .tup cs, v, h => by
    simp only [V] at h ⊢
    obtain ⟨vs, e, h1⟩ := h
    exact ⟨vs, e, VT.level hk cs vs h1⟩
  | .ifc t x, v, h => by
    simp only [V] at h ⊢
    obtain ⟨u, e, h1⟩ := h
    exact ⟨u, e, V.level hk x u h1⟩
  | .imm e rows, v, h => by
    simp only [V] at h ⊢
    exact h
  | .own e b ver lo n f, v, h => by
    simp only [V] at h ⊢
    exact ⟨h.1, h.2.1, h.2.2.level hk⟩
  | .vsl b ver off e n, v, h => by
    simp only [V] at h ⊢
    exact ⟨h.1, h.2.1, h.2.2.level hk⟩
  | .ptr b ver off, v, h => by
    simp only [V] at h ⊢
    exact ⟨h.1, h.2.level hk⟩
  | .eptr b ver i j, v, h => by
    simp only [V] at h ⊢
    exact ⟨h.1, h.2.level hk⟩
  | .iptr cs j, v, h => by
    simp only [V] at h ⊢
    obtain ⟨cb, off, arr, e1, e2, h1, h2⟩ := h
    exact ⟨cb, off, arr, e1, e2, h1, h2⟩
  | .fn f a c, v, h => by
    simp only [V] at h ⊢
    obtain ⟨x, y, e1, h1, h2⟩ := h
    exact ⟨x, y, e1, VT.level hk a x h1, VT.level hk c y h2⟩
  | .yld b ver, v, h => by
    simp only [V] at h ⊢
    exact ⟨h.1, h.2.level hk⟩
  | .map b ver, v, h => by
    simp only [V] at h ⊢
    exact ⟨h.1, h.2.level hk⟩
  | .itr b ver, v, h => by
    simp only [V] at h ⊢
    exact ⟨h.1, h.2.level hk⟩
  | .new _ _ _, v, h => by simp [V] at h
  | .nbox _ _, v, h => by simp [V] at h
  | .nmap _, v, h => by simp [V] at h
theorem VT.level {g : Sg} {S : Sto} {k k' : Nat} (hk : k ≤ k') : ∀ (xs : List AV) (vs : List Value), VT g S k xs vs → VT g S k' xs vs
  | [], vs, h => by simpa [VT] using h
  | x :: xs, vs, h => by
    simp only [VT] at h ⊢
    obtain ⟨v, vs', e, h1, h2⟩ := h
    exact ⟨v, vs', e, V.level hk x v h1, VT.level hk xs vs' h2⟩
end

/-! ### lists -/
theorem VT.length {g : Sg} {S : Sto} {k : Nat} : ∀ (xs : List AV) (vs : List Value), VT g S k xs vs → vs.length = xs.length
  | [], vs, h => by simp [VT] at h; simp [h]
  | x :: xs, vs, h => by
    simp only [VT] at h
    obtain ⟨v, vs', e, h1, h2⟩ := h
    simp [e, VT.length xs vs' h2]
theorem VT.at_ {g : Sg} {S : Sto} {k : Nat} : ∀ (xs : List AV) (vs : List Value), VT g S k xs vs → ∀ (i : Nat) (x : AV), xs[i]? = some x → ∃ v, vs[i]? = some v ∧ V g S k x v
  | [], vs, h, i, x, hx => by simp at hx
  | y :: ys, vs, h, i, x, hx => by
    simp only [VT] at h
    obtain ⟨v, vs', e, h1, h2⟩ := h
    subst e
    cases i with
    | zero => simp at hx; subst hx; exact ⟨v, by simp, h1⟩
    | succ i => simpa using VT.at_ ys vs' h2 i x (by simpa using hx)
theorem VT.drop {g : Sg} {S : Sto} {k : Nat} : ∀ (n : Nat) (xs : List AV) (vs : List Value), VT g S k xs vs → VT g S k (xs.drop n) (vs.drop n)
  | 0, xs, vs, h => by simpa using h
  | n + 1, [], vs, h => by simp [VT] at h ⊢; simp [h]
  | n + 1, x :: xs, vs, h => by
    simp only [VT] at h
    obtain ⟨v, vs', e, h1, h2⟩ := h
    subst e
    simpa using VT.drop n xs vs' h2
theorem VT.take {g : Sg} {S : Sto} {k : Nat} : ∀ (n : Nat) (xs : List AV) (vs : List Value), VT g S k xs vs → VT g S k (xs.take n) (vs.take n)
  | 0, xs, vs, h => by simp [VT]
  | n + 1, [], vs, h => by simp [VT] at h ⊢; simp [h]
  | n + 1, x :: xs, vs, h => by
    simp only [VT] at h
    obtain ⟨v, vs', e, h1, h2⟩ := h
    subst e
    simp only [List.take_succ_cons, VT]
    exact ⟨v, _, rfl, h1, VT.take n xs vs' h2⟩
theorem VT.append {g : Sg} {S : Sto} {k : Nat} : ∀ (xs : List AV) (vs : List Value) (ys : List AV) (us : List Value), VT g S k xs vs → VT g S k ys us → VT g S k (xs ++ ys) (vs ++ us)
  | [], vs, ys, us, h, h' => by simp [VT] at h; simpa [h] using h'
  | x :: xs, vs, ys, us, h, h' => by
    simp only [VT] at h
    obtain ⟨v, vs', e, h1, h2⟩ := h
    subst e
    simp only [List.cons_append, VT]
    exact ⟨v, _, rfl, h1, VT.append xs vs' ys us h2 h'⟩
theorem VPL.length {h : Nat → Option (Array Value)} : ∀ (xs : List AV) (vs : List Value), VPL h xs vs → vs.length = xs.length
  | [], vs, q => by simp [VPL] at q; simp [q]
  | x :: xs, vs, q => by
    simp only [VPL] at q
    obtain ⟨v, vs', e, h1, h2⟩ := q
    simp [e, VPL.length xs vs' h2]
theorem VPL.at_ {h : Nat → Option (Array Value)} : ∀ (xs : List AV) (vs : List Value), VPL h xs vs → ∀ (i : Nat) (x : AV), xs[i]? = some x → ∃ v, vs[i]? = some v ∧ VP h x v
  | [], vs, q, i, x, hx => by simp at hx
  | y :: ys, vs, q, i, x, hx => by
    simp only [VPL] at q
    obtain ⟨v, vs', e, h1, h2⟩ := q
    subst e
    cases i with
    | zero => simp at hx; subst hx; exact ⟨v, by simp, h1⟩
    | succ i => simpa using VPL.at_ ys vs' h2 i x (by simpa using hx)
theorem VPL.drop {h : Nat → Option (Array Value)} : ∀ (n : Nat) (xs : List AV) (vs : List Value), VPL h xs vs → VPL h (xs.drop n) (vs.drop n)
  | 0, xs, vs, q => by simpa using q
  | n + 1, [], vs, q => by simp [VPL] at q ⊢; simp [q]
  | n + 1, x :: xs, vs, q => by
    simp only [VPL] at q
    obtain ⟨v, vs', e, h1, h2⟩ := q
    subst e
    simpa using VPL.drop n xs vs' h2
theorem VPL.take {h : Nat → Option (Array Value)} : ∀ (n : Nat) (xs : List AV) (vs : List Value), VPL h xs vs → VPL h (xs.take n) (vs.take n)
  | 0, xs, vs, q => by simp [VPL]
  | n + 1, [], vs, q => by simp [VPL] at q ⊢; simp [q]
  | n + 1, x :: xs, vs, q => by
    simp only [VPL] at q
    obtain ⟨v, vs', e, h1, h2⟩ := q
    subst e
    simp only [List.take_succ_cons, VPL]
    exact ⟨v, _, rfl, h1, VPL.take n xs vs' h2⟩
theorem VPL.append {h : Nat → Option (Array Value)} : ∀ (xs : List AV) (vs : List Value) (ys : List AV) (us : List Value), VPL h xs vs → VPL h ys us → VPL h (xs ++ ys) (vs ++ us)
  | [], vs, ys, us, q, q' => by simp [VPL] at q; simpa [q] using q'
  | x :: xs, vs, ys, us, q, q' => by
    simp only [VPL] at q
    obtain ⟨v, vs', e, h1, h2⟩ := q
    subst e
    simp only [List.cons_append, VPL]
    exact ⟨v, _, rfl, h1, VPL.append xs vs' ys us h2 q'⟩
theorem VR.drop {H : Nat → Option (Array Value)} {e : Nat} : ∀ (n : Nat) (rs : List (List AV)) (vs : List Value), VR H e rs vs → VR H e (rs.drop n) (vs.drop (n * e))
  | 0, rs, vs, h => by simpa using h
  | n + 1, [], vs, h => by simp [VR]
  | n + 1, r :: rs, vs, h => by
    simp only [VR] at h
    have := VR.drop n rs _ h.2.2.2
    rw [List.drop_drop] at this
    rw [List.drop_succ_cons, Nat.succ_mul, Nat.add_comm]
    exact this
theorem VR.take {H : Nat → Option (Array Value)} {e : Nat} : ∀ (n : Nat) (rs : List (List AV)) (vs : List Value), VR H e rs vs → VR H e (rs.take n) vs
  | 0, rs, vs, h => by simp [VR]
  | n + 1, [], vs, h => by simp [VR]
  | n + 1, r :: rs, vs, h => by
    simp only [VR, List.take_succ_cons] at h ⊢
    exact ⟨h.1, h.2.1, h.2.2.1, VR.take n rs _ h.2.2.2⟩
theorem VR.room {H : Nat → Option (Array Value)} {e : Nat} : ∀ (rs : List (List AV)) (vs : List Value), VR H e rs vs → rs.length * e ≤ vs.length
  | [], vs, h => by simp
  | r :: rs, vs, h => by
    simp only [VR] at h
    have h1 := VR.room rs _ h.2.2.2
    have h2 := VPL.length r _ h.2.1
    rw [h.1, List.length_take] at h2
    simp only [List.length_drop] at h1
    simp only [List.length_cons, Nat.succ_mul]
    have : e ≤ vs.length := by omega
    omega
theorem VR.row {H : Nat → Option (Array Value)} {e : Nat} : ∀ (rs : List (List AV)) (vs : List Value), VR H e rs vs → ∀ (i : Nat) (r : List AV), rs[i]? = some r →
    r.length = e ∧ VPL H r ((vs.drop (i * e)).take e) ∧ ∀ u ∈ (vs.drop (i * e)).take e, u.oneCell' = true
  | [], vs, h, i, r, hr => by simp at hr
  | q :: rs, vs, h, i, r, hr => by
    simp only [VR] at h
    cases i with
    | zero => simp at hr; subst hr; simpa using ⟨h.1, h.2.1, h.2.2.1⟩
    | succ i =>
      have := VR.row rs _ h.2.2.2 i r (by simpa using hr)
      rw [List.drop_drop] at this
      rw [Nat.succ_mul, Nat.add_comm]
      exact this
theorem VR.flat {H : Nat → Option (Array Value)} {e : Nat} : ∀ (rs : List (List AV)) (vs : List Value), VR H e rs vs →
    VPL H rs.flatten (vs.take (rs.length * e)) ∧ ∀ u ∈ vs.take (rs.length * e), u.oneCell' = true
  | [], vs, h => by simp [VPL]
  | r :: rs, vs, h => by
    simp only [VR] at h
    have ih := VR.flat rs _ h.2.2.2
    have hsp : vs.take ((r :: rs).length * e) = vs.take e ++ (vs.drop e).take (rs.length * e) := by
      rw [List.length_cons, Nat.succ_mul, Nat.add_comm, List.take_add]
    rw [hsp]
    refine ⟨?_, ?_⟩
    · rw [List.flatten_cons]
      exact VPL.append _ _ _ _ h.2.1 ih.1
    · intro u hu
      rcases List.mem_append.1 hu with hu | hu
      · exact h.2.2.1 u hu
      · exact ih.2 u hu
theorem VR.append {H : Nat → Option (Array Value)} {e : Nat} : ∀ (rs : List (List AV)) (vs : List Value) (qs : List (List AV)) (us : List Value),
    VR H e rs vs → vs.length = rs.length * e → VR H e qs us → VR H e (rs ++ qs) (vs ++ us)
  | [], vs, qs, us, _, hl, h' => by
    have : vs = [] := List.eq_nil_of_length_eq_zero (by simpa using hl)
    subst this
    simpa using h'
  | r :: rs, vs, qs, us, h, hl, h' => by
    simp only [VR] at h
    simp only [List.length_cons, Nat.succ_mul] at hl
    have he : e ≤ vs.length := by omega
    simp only [List.cons_append, VR]
    rw [List.take_append_of_le_length he, List.drop_append_of_le_length he]
    exact ⟨h.1, h.2.1, h.2.2.1, VR.append rs _ qs us h.2.2.2 (by simp; omega) h'⟩
theorem VR.pre {H : Nat → Option (Array Value)} {e : Nat} : ∀ (rs : List (List AV)) (vs us : List Value), VR H e rs vs → VR H e rs (vs ++ us)
  | [], vs, us, h => by simp [VR]
  | r :: rs, vs, us, h => by
    have hroom := VR.room (r :: rs) vs h
    simp only [List.length_cons, Nat.succ_mul] at hroom
    simp only [VR] at h ⊢
    have he : e ≤ vs.length := by omega
    rw [List.take_append_of_le_length he, List.drop_append_of_le_length he]
    exact ⟨h.1, h.2.1, h.2.2.1, VR.pre rs _ us h.2.2.2⟩
theorem VR.cut {H : Nat → Option (Array Value)} {e : Nat} : ∀ (rs : List (List AV)) (vs : List Value) (n : Nat), VR H e rs vs → rs.length * e ≤ n → VR H e rs (vs.take n)
  | [], vs, n, h, hn => by simp [VR]
  | r :: rs, vs, n, h, hn => by
    simp only [List.length_cons, Nat.succ_mul] at hn
    simp only [VR] at h ⊢
    have h1 : (vs.take n).take e = vs.take e := by rw [List.take_take]; congr 1; omega
    have h2 : (vs.take n).drop e = (vs.drop e).take (n - e) := by rw [List.drop_take]
    rw [h1, h2]
    exact ⟨h.1, h.2.1, h.2.2.1, VR.cut rs _ (n - e) h.2.2.2 (by omega)⟩

end Go.Wm

set_option linter.unusedVariables false
set_option linter.unusedSimpArgs false
namespace Go.Wm
open Go.RowKit

/-- constants that are alike -/
def constOk : AV → Value → Bool
  | .int k n, .int k' n' => k == k' && n == n'
  | .bool b, .bool b' => b == b'
  | .str s, .string b => s == b.data.toList
  | .nils _ _, .slice none 0 0 => true
  | .nilp, .pointer none => true
  | .nilf, .nilFunc => true
  | .nili, .nilIface => true
  | .nilm, .map none => true
  | .flt, .float .f64 _ => true
  | .cpx, .complex .f64 _ _ => true
  | .imm e [], .slice none 0 0 => 0 < e
  | _, _ => false

theorem constOk.V {g : Sg} {S : Sto} {k : Nat} : ∀ {x : AV} {v : Value}, constOk x v = true → V g S k x v := by
  intro x v h
  cases x <;> cases v <;> first
    | (simp [constOk] at h; done)
    | (simp [constOk] at h; obtain ⟨rfl, rfl⟩ := h; simp [Wm.V]; done)
    | (simp [constOk] at h; subst h; simp [Wm.V]; done)
    | skip
  case flt.float a b => cases a <;> simp [constOk] at h; simp [Wm.V]
  case cpx.complex a b c => cases a <;> simp [constOk] at h; simp [Wm.V]
  case nilp.pointer a => cases a <;> simp [constOk] at h; simp [Wm.V]
  case nilm.map a => cases a <;> simp [constOk] at h; simp [Wm.V]
  case nils.slice t e a n c =>
    cases a <;> cases n <;> cases c <;> simp [constOk] at h
    simp [Wm.V]
  case imm.slice e rows a n c =>
    cases rows <;> cases a <;> cases n <;> cases c <;> simp [constOk] at h
    simp only [Wm.V]
    exact ⟨none, 0, rfl, Nat.le_refl _, by simp [maxLen], h, fun _ => rfl, .inl trivial⟩

/-- code that is alike: told where the code is told -/
structure Alike where
  c : Nat → IC → Code → Prop
  f : Nat → Prop

/-- a frame's slots -/
def ER (g : Sg) (S : Sto) (k : Nat) (env : Env) (tmps : Array Value) : Prop :=
  ∀ t, t < 900000 → V g S k (env.get t) (tmps.getD t undef)

def oneCells (vs : List Value) : Prop := ∀ u ∈ vs, u.oneCell' = true

/-- the jump that a round ended in -/
def jumpOk : Option Ex → Option Code → Prop
  | none, none => True
  | some .ret, some .ret => True
  | some (.exit i), some (.exit j) => i = j
  | some (.goto i), some (.goto j) => i = j
  | _, _ => False

def BR (A : Alike) (g : Sg) (S : Sto) (w : World) (B0 b : Nat) : Blk → Prop
  | .dead _ => True
  | .var _ t cs => ∃ cb, ∃ cur : Array Value, g.m b = some (cb, cur.size) ∧ B0 ≤ cb ∧ g.h cb = none ∧ w.heap[cb]? = some (.cells cur t (0, 0)) ∧
      VT g S S.length cs cur.toList ∧ oneCells cur.toList
  | .row _ t e rows z => 0 < e ∧ ((g.m b = none ∧ rows = []) ∨ ∃ cb, ∃ cur : Array Value, g.m b = some (cb, cur.size) ∧ B0 ≤ cb ∧ g.h cb = (if z then some cur else none) ∧
      w.heap[cb]? = some (.cells cur t (0, 0)) ∧ VR g.h e rows cur.toList)
  | .map _ es => ∃ cb, ∃ mes : Array MapEntry, ∃ clock, g.m b = some (cb, 0) ∧ B0 ≤ cb ∧ g.h cb = none ∧ w.heap[cb]? = some (.map mes clock) ∧
      mes.toList.map (·.key) = es.map (fun p => .int .i64 p.1) ∧ VPL g.h (es.map (·.2)) (mes.toList.map (·.val))
  | .iter _ s pos => ∃ cb, g.m b = some (cb, 0) ∧ B0 ≤ cb ∧ g.h cb = none ∧ w.heap[cb]? = some (.stringIter ⟨s.toArray⟩ pos)
  | .loop _ base lev env params assign body st jump => ∃ cb, ∃ l : Loop, g.m b = some (cb, 0) ∧ B0 ≤ cb ∧ g.h cb = none ∧ w.heap[cb]? = some (.loop l) ∧
      l.state = (match st with | 0 => .ready | 1 => .done | _ => .busy) ∧ jumpOk jump l.pending ∧ l.params.toList = params ∧ A.c l.tmps.size assign l.assign ∧ A.c l.tmps.size body l.body ∧ (A.f l.fn ∧ ∀ p ∈ params, p < l.tmps.size) ∧
      base ≤ lev ∧ lev ≤ S.length ∧ ER g S lev env l.tmps

structure Rel (A : Alike) (B0 : Nat) (w0 : World) (g : Sg) (S : Sto) (w : World) : Prop where
  below : Below B0 w0 w
  room : B0 ≤ w.heap.size
  him : ∀ cb a, g.h cb = some a → ∃ t fz, w.heap[cb]? = some (.cells a t fz)
  low : ∀ cb, cb < B0 → g.h cb = g.h0 cb
  blk : ∀ b x, S[b]? = some x → BR A g S w B0 b x
  inj : ∀ b b' cb s s', S.sig b ≠ none → S.sig b' ≠ none → g.m b = some (cb, s) → g.m b' = some (cb, s') → b = b'
  q : ∀ r, r ∈ g.q → B0 ≤ r.1 ∧ w.heap[r.1]? = some r.2 ∧ g.h r.1 = none ∧ ∀ b s, S.sig b ≠ none → g.m b ≠ some (r.1, s)

variable {A : Alike} {B0 : Nat} {w0 w w' : World} {g g' : Sg} {S S' : Sto}

theorem ER.mono {k : Nat} {env : Env} {tmps : Array Value} (h : ER g S k env tmps) (l : Le k g S g' S') : ER g' S' k env tmps := fun t ht => V.mono l _ _ (h t ht)
theorem ER.level {k k' : Nat} {env : Env} {tmps : Array Value} (h : ER g S k env tmps) (hk : k ≤ k') : ER g S k' env tmps := fun t ht => V.level hk _ _ (h t ht)

theorem sig_some {b : Nat} {x : Blk} (h : S[b]? = some x) : S.sig b = x.sig := by simp [Sto.sig, h]
theorem ver_some {b : Nat} {x : Blk} (h : S[b]? = some x) : S.ver b = x.ver := by simp [Sto.ver, h]

theorem ver_set {b i : Nat} {x : Blk} (hb : b < S.length) : Sto.ver (S.set b x) i = if i = b then x.ver else S.ver i := by
  simp only [Sto.ver, List.getElem?_set]
  by_cases h : i = b
  · subst h; simp [hb]
  · rw [if_neg (by omega), if_neg h]
theorem sig_set {b i : Nat} {x : Blk} (hb : b < S.length) : Sto.sig (S.set b x) i = if i = b then x.sig else S.sig i := by
  simp only [Sto.sig, List.getElem?_set]
  by_cases h : i = b
  · subst h; simp [hb]
  · rw [if_neg (by omega), if_neg h]

/-- a block's own statement is kept, where its place in memory is, and the values' -/
theorem BR.keep {b : Nat} {x : Blk} (h : BR A g S w B0 b x) (hm : x.sig ≠ none → g'.m b = g.m b) (hlen : S.length ≤ S'.length)
    (hl : Le S.length g S g' S')
    (hh : ∀ cb, (∃ s, g.m b = some (cb, s)) → x.sig ≠ none → g'.h cb = g.h cb ∧ w'.heap[cb]? = w.heap[cb]?) : BR A g' S' w' B0 b x := by
  cases x with
  | dead _ => trivial
  | var v t cs =>
    obtain ⟨cb, cur, h1, h2, h3, h4, h5, h6⟩ := h
    obtain ⟨e1, e2⟩ := hh cb ⟨_, h1⟩ (by simp [Blk.sig])
    exact ⟨cb, cur, (hm (by simp [Blk.sig])).trans h1, h2, e1.trans h3, e2.trans h4, VT.level hlen _ _ (VT.mono hl _ _ h5), h6⟩
  | row v t e rows z =>
    obtain ⟨he, h⟩ := h
    refine ⟨he, ?_⟩
    rcases h with ⟨h1, h2⟩ | ⟨cb, cur, h1, h2, h3, h4, h5⟩
    · exact .inl ⟨(hm (by simp [Blk.sig])).trans h1, h2⟩
    · obtain ⟨e1, e2⟩ := hh cb ⟨_, h1⟩ (by simp [Blk.sig])
      exact .inr ⟨cb, cur, (hm (by simp [Blk.sig])).trans h1, h2, e1.trans h3, e2.trans h4, VR.mono hl.h _ _ _ h5⟩
  | map v es =>
    obtain ⟨cb, mes, clock, h1, h2, h3, h4, h5, h6⟩ := h
    obtain ⟨e1, e2⟩ := hh cb ⟨_, h1⟩ (by simp [Blk.sig])
    exact ⟨cb, mes, clock, (hm (by simp [Blk.sig])).trans h1, h2, e1.trans h3, e2.trans h4, h5, VPL.mono hl.h _ _ h6⟩
  | iter v s pos =>
    obtain ⟨cb, h1, h2, h3, h4⟩ := h
    obtain ⟨e1, e2⟩ := hh cb ⟨_, h1⟩ (by simp [Blk.sig])
    exact ⟨cb, (hm (by simp [Blk.sig])).trans h1, h2, e1.trans h3, e2.trans h4⟩
  | loop v base lev env params assign body done jump =>
    obtain ⟨cb, l, h1, h2, h3, h4, h5, h6, h7, h8, h9, hx, hk1, hk2, h10⟩ := h
    obtain ⟨e1, e2⟩ := hh cb ⟨_, h1⟩ (by simp [Blk.sig])
    exact ⟨cb, l, (hm (by simp [Blk.sig])).trans h1, h2, e1.trans h3, e2.trans h4, h5, h6, h7, h8, h9, hx, hk1, by omega, h10.mono (hl.mono hk2)⟩

def Sg.put (g : Sg) (b : Nat) (p : Option (Nat × Nat)) : Sg := { g with m := fun i => if i = b then p else g.m i }
theorem Sg.put_h (b : Nat) (p : Option (Nat × Nat)) : (g.put b p).h = g.h := rfl
theorem Sg.put_same (b : Nat) (p : Option (Nat × Nat)) : (g.put b p).m b = p := by simp [Sg.put]
theorem Sg.put_other {b i : Nat} (p : Option (Nat × Nat)) (h : i ≠ b) : (g.put b p).m i = g.m i := by simp [Sg.put, h]

/-- where a live block lies, something lies -/
theorem BR.there {b cb s : Nat} {x : Blk} (h : BR A g S w B0 b x) (hs : x.sig ≠ none) (hm : g.m b = some (cb, s)) : cb < w.heap.size := by
  have key : ∀ o, w.heap[cb]? = some o → cb < w.heap.size := fun o ho => (Array.getElem?_eq_some_iff.1 ho).1
  cases x with
  | dead _ => simp [Blk.sig] at hs
  | var v t cs =>
    obtain ⟨cb', cur, h1, h2, h3, h4, _⟩ := h
    rw [hm] at h1; cases h1; exact key _ h4
  | row v t e rows z =>
    obtain ⟨he, h⟩ := h
    rcases h with ⟨h1, h2⟩ | ⟨cb', cur, h1, h2, h3, h4, h5⟩
    · rw [hm] at h1; cases h1
    · rw [hm] at h1; cases h1; exact key _ h4
  | map v es =>
    obtain ⟨cb', mes, clock, h1, h2, h3, h4, _⟩ := h
    rw [hm] at h1; cases h1; exact key _ h4
  | iter v s pos =>
    obtain ⟨cb', h1, h2, h3, h4⟩ := h
    rw [hm] at h1; cases h1; exact key _ h4
  | loop v base lev env params assign body done jump =>
    obtain ⟨cb', l, h1, h2, h3, h4, _⟩ := h
    rw [hm] at h1; cases h1; exact key _ h4

theorem Rel.there (R : Rel A B0 w0 g S w) {b cb s : Nat} (hs : S.sig b ≠ none) (hm : g.m b = some (cb, s)) : cb < w.heap.size := by
  cases hx : S[b]? with
  | none => simp [Sto.sig, hx] at hs
  | some x => exact (R.blk b x hx).there (by simpa [Sto.sig, hx] using hs) hm

/-- a new version of a block (new memory, or none) -/
theorem Le.bump {b : Nat} {x : Blk} (hb : b < S.length) (hv : S.ver b < x.ver) (p : Option (Nat × Nat)) (k : Nat) : Le k g S (g.put b p) (S.set b x) where
  h _ _ h := h
  ver i hi := by
    rw [ver_set hb]
    split
    · rename_i h; subst h; omega
    · exact Nat.le_refl _
  sig i hi e s hs := by
    rw [ver_set hb] at e
    rw [sig_set hb] at hs
    by_cases h : i = b
    · subst h; simp at e; omega
    · simp only [h, if_false] at hs
      exact ⟨hs, Sg.put_other _ h⟩
  h0 := rfl
  q _ h := h

/-- a block turned in place -/
theorem Le.turn {b : Nat} {x : Blk} (hb : b < S.length) (hv : S.ver b ≤ x.ver) (hs : x.sig = S.sig b ∨ x.sig = none) (k : Nat) : Le k g S g (S.set b x) where
  h _ _ h := h
  ver i hi := by
    rw [ver_set hb]
    split
    · rename_i h; subst h; omega
    · exact Nat.le_refl _
  sig i hi e s h1 := by
    rw [sig_set hb] at h1
    by_cases h : i = b
    · subst h
      simp only [if_true] at h1
      rcases hs with hs | hs
      · exact ⟨hs ▸ h1, rfl⟩
      · rw [hs] at h1; cases h1
    · simp only [h, if_false] at h1
      exact ⟨h1, rfl⟩
  h0 := rfl
  q _ h := h

/-- memory of the call's own is new: a block takes a new version there -/
theorem Rel.new (R : Rel A B0 w0 g S w) {b : Nat} {x : Blk} (hb : b < S.length) (hv : S.ver b < x.ver) (p : Option (Nat × Nat))
    (hbel : Below w.heap.size w w') (hp : ∀ cb s, p = some (cb, s) → w.heap.size ≤ cb)
    (hx : BR A (g.put b p) (S.set b x) w' B0 b x) : Rel A B0 w0 (g.put b p) (S.set b x) w' where
  below := R.below.trans (hbel.mono R.room)
  room := Nat.le_trans R.room hbel.size
  him cb a h := by
    obtain ⟨t, fz, e⟩ := R.him cb a h
    exact ⟨t, fz, (hbel.block cb (Array.getElem?_eq_some_iff.1 e).1).trans e⟩
  low := R.low
  blk i y hy := by
    by_cases h : i = b
    · subst h
      rw [List.getElem?_set_self hb] at hy
      cases hy
      exact hx
    · rw [List.getElem?_set_ne (by omega)] at hy
      have hl := Le.bump (g := g) hb hv p S.length
      refine (R.blk i y hy).keep (fun _ => Sg.put_other _ h) (by simp) hl fun cb hm hs => ⟨rfl, ?_⟩
      obtain ⟨s, hm⟩ := hm
      exact hbel.block cb ((R.blk i y hy).there hs hm)
  inj i j cb s s' hi hj h1 h2 := by
    rw [sig_set hb] at hi hj
    by_cases hib : i = b <;> by_cases hjb : j = b
    · omega
    · subst hib
      rw [Sg.put_same] at h1
      rw [Sg.put_other _ hjb] at h2
      simp only [hjb, if_false] at hj
      have := R.there hj h2
      have := hp cb s h1
      omega
    · subst hjb
      rw [Sg.put_same] at h2
      rw [Sg.put_other _ hib] at h1
      simp only [hib, if_false] at hi
      have := R.there hi h1
      have := hp cb s' h2
      omega
    · rw [Sg.put_other _ hib] at h1
      rw [Sg.put_other _ hjb] at h2
      simp only [hib, hjb, if_false] at hi hj
      exact R.inj i j cb s s' hi hj h1 h2
  q r h := by
    obtain ⟨h1, h2, h3, h4⟩ := R.q r h
    have hlt : r.1 < w.heap.size := (Array.getElem?_eq_some_iff.1 h2).1
    refine ⟨h1, (hbel.block _ hlt).trans h2, h3, fun i s hi hm => ?_⟩
    rw [sig_set hb] at hi
    by_cases e : i = b
    · subst e
      rw [Sg.put_same] at hm
      have := hp _ _ hm
      omega
    · rw [Sg.put_other _ e] at hm
      simp only [e, if_false] at hi
      exact h4 i s hi hm

/-- one block's memory is written, or the block dies -/
theorem Rel.write (R : Rel A B0 w0 g S w) {b : Nat} {x : Blk} (hb : b < S.length) (hv : S.ver b ≤ x.ver) (hs : x.sig = S.sig b ∨ x.sig = none)
    {cb : Nat} (hm : S.sig b ≠ none → ∀ c s, g.m b = some (c, s) → c = cb) (hlive : w'.heap[cb]? = w.heap[cb]? ∨ (S.sig b ≠ none ∧ (∃ s, g.m b = some (cb, s)) ∧ g.h cb = none ∧ B0 ≤ cb))
    (hw : ∀ i, i ≠ cb → w'.heap[i]? = w.heap[i]?) (hos : w'.os = w.os) (htp : w'.tape = w.tape) (hou : w'.output = w.output) (hsz : w.heap.size ≤ w'.heap.size)
    (hx : BR A g (S.set b x) w' B0 b x) : Rel A B0 w0 g (S.set b x) w' where
  below := by
    refine ⟨hos.trans R.below.os, htp.trans R.below.tape, hou.trans R.below.output, Nat.le_trans R.below.size hsz, fun k hk => ?_⟩
    by_cases h : k = cb
    · subst h
      rcases hlive with h | ⟨_, _, _, h⟩
      · exact h.trans (R.below.block _ hk)
      · omega
    · exact (hw k h).trans (R.below.block k hk)
  room := Nat.le_trans R.room hsz
  him c a h := by
    obtain ⟨t, fz, e⟩ := R.him c a h
    refine ⟨t, fz, ?_⟩
    by_cases hc : c = cb
    · subst hc
      rcases hlive with h' | ⟨_, _, h', _⟩
      · exact h'.trans e
      · rw [h] at h'; cases h'
    · exact (hw c hc).trans e
  low := R.low
  blk i y hy := by
    by_cases h : i = b
    · subst h
      rw [List.getElem?_set_self hb] at hy
      cases hy
      exact hx
    · rw [List.getElem?_set_ne (by omega)] at hy
      have hl := Le.turn (g := g) (x := x) hb hv hs S.length
      refine (R.blk i y hy).keep (fun _ => rfl) (by simp) hl fun c hmc hsy => ⟨rfl, ?_⟩
      obtain ⟨s, hmc⟩ := hmc
      by_cases hc : c = cb
      · subst hc
        rcases hlive with h' | ⟨hsb, ⟨s', hmb⟩, _, _⟩
        · exact h'
        · exact absurd (R.inj i b c s s' (by simpa [Sto.sig, hy] using hsy) hsb hmc hmb) h
      · exact hw c hc
  inj i j c s s' hi hj h1 h2 := by
    have conv : ∀ i, Sto.sig (S.set b x) i ≠ none → S.sig i ≠ none := fun i hi => by
      rw [sig_set hb] at hi
      by_cases h : i = b
      · subst h
        simp only [if_true] at hi
        rcases hs with hs | hs
        · rwa [hs] at hi
        · exact absurd hs hi
      · simpa [h] using hi
    exact R.inj i j c s s' (conv i hi) (conv j hj) h1 h2
  q r h := by
    obtain ⟨h1, h2, h3, h4⟩ := R.q r h
    refine ⟨h1, ?_, h3, fun i s hi hm => ?_⟩
    · by_cases hc : r.1 = cb
      · rcases hlive with h' | ⟨hsb, ⟨s', hmb⟩, _, _⟩
        · rw [hc]
          exact h'.trans (hc ▸ h2)
        · exact absurd hmb (hc ▸ h4 b s' hsb)
      · exact (hw r.1 hc).trans h2
    · rw [sig_set hb] at hi
      refine h4 i s ?_ hm
      split at hi
      · rename_i e
        subst e
        rcases hs with hs | hs
        · rw [← hs]; exact hi
        · exact absurd hs hi
      · exact hi

end Go.Wm

set_option linter.unusedVariables false
set_option linter.unusedSimpArgs false
namespace Go.Wm
open Go.RowKit

variable {A : Alike} {P : Program} {B0 : Nat} {w0 w w' : World} {g g' : Sg} {S S' : Sto}

/-- an operation's outcome is the machine's -/
def Sound (A : Alike) (P : Program) (B0 : Nat) (w0 : World) (g : Sg) (S : Sto) (w : World) (s : Sem Value) (r : R) : Prop :=
  ∀ v S', r = some (.ret v, S') → ∃ cv w' g', s.run P w = .ok cv w' ∧ Rel A B0 w0 g' S' w' ∧ V g' S' S'.length v cv ∧ (∀ k, Le k g S g' S') ∧ S'.length = S.length

theorem Sound.same {s : Sem Value} {v : AV} {cv : Value} (R : Rel A B0 w0 g S w) (h : s.run P w = .ok cv w) (hv : V g S S.length v cv) :
    Sound A P B0 w0 g S w s (some (.ret v, S)) := by
  intro v' S' e
  cases e
  exact ⟨cv, w, g, h, R, hv, fun k => Le.refl _ _ _, rfl⟩
theorem Sound.none {s : Sem Value} : Sound A P B0 w0 g S w s none := fun _ _ e => by cases e

theorem cell_row {cb off : Nat} {cur : Array Value} {t : TypeId} {fz : Nat × Nat} (h : w.heap[cb]? = some (.cells cur t fz)) : w.cell? ⟨cb, off, none⟩ = cur[off]? := by
  simp [World.cell?, h]
theorem frozen_row {cb off : Nat} {cur : Array Value} {t : TypeId} (h : w.heap[cb]? = some (.cells cur t (0, 0))) : w.frozen? ⟨cb, off, none⟩ = false := by
  simp [World.frozen?, h]
theorem addr_add (cb off j : Nat) : (⟨cb, off, none⟩ : Addr).add j = ⟨cb, off + j, none⟩ := by
  unfold Addr.add
  split
  · subst_vars; rfl
  · rfl

theorem rdCells_sound (R : Rel A B0 w0 g S w) {p : AV} {pv : Value} {cs : List AV} (hp : V g S S.length p pv) (h : rdCells S p = some cs) :
    ∃ cb off, pv = .pointer (some ⟨cb, off, none⟩) ∧ ∃ vs : List Value, VT g S S.length cs vs ∧ oneCells vs ∧ ∀ (j : Nat) (u : Value), vs[j]? = some u → w.cell? ⟨cb, off + j, none⟩ = some u := by
  unfold rdCells at h
  split at h
  · rename_i b ver off
    split at h
    · rename_i v t cs0 hb
      split at h
      · rename_i hv
        subst hv
        cases h
        simp only [V] at hp
        obtain ⟨_, _, _, hp⟩ := hp
        have hsig := sig_some hb
        obtain ⟨cb, sz, hm, rfl⟩ := hp (by rw [ver_some hb]; rfl) 0 (by rw [hsig]; rfl)
        obtain ⟨cb', cur, hm', _, _, hheap, hvt, hone⟩ := R.blk _ _ hb
        rw [hm] at hm'
        cases hm'
        refine ⟨cb, off, rfl, cur.toList.drop off, VT.drop off _ _ hvt, fun u hu => hone u (List.mem_of_mem_drop hu), fun j u hj => ?_⟩
        rw [cell_row hheap]
        simpa using hj
      · cases h
    · cases h
  · rename_i b ver i k
    split at h
    · rename_i v t e rows z hb
      split at h
      · rename_i hv
        subst hv
        cases hr : rows[i]? with
        | none => rw [hr] at h; cases h
        | some r =>
          rw [hr] at h
          cases h
          simp only [V] at hp
          obtain ⟨_, _, _, hp⟩ := hp
          have hsig := sig_some hb
          obtain ⟨cb, sz, hm, rfl⟩ := hp (by rw [ver_some hb]; rfl) e (by rw [hsig]; rfl)
          obtain ⟨he, hb2⟩ := R.blk _ _ hb
          rcases hb2 with ⟨h1, h2⟩ | ⟨cb', cur, hm', _, _, hheap, hvr⟩
          · rw [hm] at h1; cases h1
          rw [hm] at hm'
          cases hm'
          obtain ⟨hl, hvt, hone⟩ := VR.row _ _ hvr i r hr
          refine ⟨cb, i * e + k, rfl, ((cur.toList.drop (i * e)).take e).drop k, VT.drop k _ _ (VPL.toV _ _ hvt), fun u hu => hone u (List.mem_of_mem_drop hu), fun j u hj => ?_⟩
          rw [cell_row hheap]
          rw [List.getElem?_drop, List.getElem?_take] at hj
          split at hj
          · rw [List.getElem?_drop] at hj
            rw [show i * e + k + j = i * e + (k + j) from by omega]
            simpa using hj
          · cases hj
      · cases h
    · cases h
  · rename_i cs0 k
    cases h
    simp only [V] at hp
    obtain ⟨cb, off, arr, rfl, hh, hvp, hone⟩ := hp
    obtain ⟨t, fz, hheap⟩ := R.him _ _ hh
    refine ⟨cb, off + k, rfl, ((arr.toList.drop off).take cs0.length).drop k, VT.drop k _ _ (VPL.toV _ _ hvp), fun u hu => hone u (List.mem_of_mem_drop hu), fun j u hj => ?_⟩
    rw [cell_row hheap]
    rw [List.getElem?_drop, List.getElem?_take] at hj
    split at hj
    · rw [List.getElem?_drop] at hj
      rw [show off + k + j = off + (k + j) from by omega]
      simpa using hj
    · cases hj
  · cases h

/-! ### types -/
def aggB (P : Program) (t : TypeId) : Option Bool :=
  match P.underlying t with
  | some (.struct _) => some true
  | some (.array _ _) => some true
  | some _ => some false
  | none => none
def szB (P : Program) (t : TypeId) : Option Nat := (P.info? t).map (·.size)

theorem run_isAgg {t : TypeId} {b : Bool} (h : aggB P t = some b) (w : World) : (isAgg t).run P w = .ok b w := by
  unfold aggB at h
  unfold isAgg
  cases hu : P.underlying t with
  | none => rw [hu] at h; cases h
  | some d =>
    rw [hu] at h
    rw [Sem.run_bind, run_underlying hu]
    simp only [Result.andThen]
    cases d <;> simp_all
theorem run_typeInfo {t : TypeId} {i : TypeInfo} (h : P.info? t = some i) (w : World) : (typeInfo t).run P w = .ok i w := by
  simp [typeInfo, h]
theorem run_sizeOf {t : TypeId} {n : Nat} (h : szB P t = some n) (w : World) : (sizeOf t).run P w = .ok n w := by
  unfold szB at h
  cases hi : P.info? t with
  | none => rw [hi] at h; cases h
  | some i =>
    rw [hi] at h
    cases h
    simp [sizeOf, run_typeInfo hi]

def loadOk (P : Program) (t : TypeId) : Option Nat → Bool
  | none => aggB P t == some false
  | some n => aggB P t == some true && szB P t == some n

theorem run_loadCells' {cb off : Nat} {vs : List Value} (h : ∀ (j : Nat) (u : Value), vs[j]? = some u → w.cell? ⟨cb, off + j, none⟩ = some u) :
    (loadCells ⟨cb, off, none⟩ vs.length).run P w = .ok vs.toArray w :=
  run_loadCells_list w ⟨cb, off, none⟩ vs fun j v hv => by rw [addr_add]; exact h j v hv

theorem load_sound (R : Rel A B0 w0 g S w) {t : TypeId} {n : Option Nat} (hok : loadOk P t n = true) {p : AV} {pv : Value} (hp : V g S S.length p pv) :
    Sound A P B0 w0 g S w (Instr.loadAt t pv) (opLoad n [p] S) := by
  cases hr : rdCells S p with
  | none => simp only [opLoad, hr]; exact Sound.none
  | some cs =>
    obtain ⟨cb, off, rfl, vs, hvt, hone, hcell⟩ := rdCells_sound R hp hr
    cases n with
    | none =>
      simp only [loadOk, beq_iff_eq] at hok
      cases cs with
      | nil => simp only [opLoad, hr]; exact Sound.none
      | cons c cs =>
        simp only [opLoad, hr]
        simp only [VT] at hvt
        obtain ⟨v, vs', rfl, hv, _⟩ := hvt
        refine Sound.same R ?_ hv
        have hc := hcell 0 v (by simp)
        simp only [Nat.add_zero] at hc
        simp only [Instr.loadAt, Instr.sureAddr, loadVar, Sem.run_bind, Sem.run_pure, Result.andThen, run_isAgg hok]
        simp [load, Sem.run, hc]
    | some k =>
      simp only [loadOk, Bool.and_eq_true, beq_iff_eq] at hok
      have hlen := VT.length _ _ hvt
      have key : ∀ (cs : List AV) (vs : List Value), VT g S S.length cs vs → oneCells vs → (∀ (j : Nat) (u : Value), vs[j]? = some u → w.cell? ⟨cb, off + j, none⟩ = some u) →
          k ≤ cs.length → Sound A P B0 w0 g S w (Instr.loadAt t (.pointer (some ⟨cb, off, none⟩))) (some (.ret (.agg (cs.take k)), S)) := by
        intro cs vs hvt hone hcell hk
        have hlen := VT.length _ _ hvt
        refine Sound.same R (cv := .agg (vs.take k).toArray) ?_ ?_
        · have hl := run_loadCells' (P := P) (w := w) (cb := cb) (off := off) (vs := vs.take k) fun j u hj => hcell j u (by
            rw [List.getElem?_take] at hj
            split at hj
            · exact hj
            · cases hj)
          rw [List.length_take, Nat.min_eq_left (by omega)] at hl
          simp only [Instr.loadAt, Instr.sureAddr, loadVar, Sem.run_bind, Sem.run_pure, Result.andThen, run_isAgg hok.1, if_true, run_sizeOf hok.2, hl]
        · simp only [V]
          exact ⟨_, rfl, VT.take k _ _ hvt, fun u hu => hone u (List.mem_of_mem_take hu)⟩
      cases cs with
      | nil =>
        simp only [opLoad, hr]
        split
        · exact key _ _ hvt hone hcell (by assumption)
        · exact Sound.none
      | cons c cs =>
        simp only [opLoad, hr]
        split
        · exact key _ _ hvt hone hcell (by assumption)
        · exact Sound.none

end Go.Wm

set_option linter.unusedVariables false
set_option linter.unusedSimpArgs false
namespace Go.Wm
open Go.RowKit

variable {A : Alike} {P : Program} {B0 : Nat} {w0 w w' : World} {g g' : Sg} {S S' : Sto}

/-- a row of the call's own is written no more -/
theorem Rel.freeze' (R : Rel A B0 w0 g S w) {b ver t e : Nat} {rows : List (List AV)} {z : Bool} (hb : S[b]? = some (.row ver t e rows z)) :
    ∃ g', Rel A B0 w0 g' (S.set b (.row ver t e rows true)) w ∧ (∀ k, Le k g S g' (S.set b (.row ver t e rows true))) ∧ g'.m = g.m ∧
      (rows = [] ∨ ∃ cb cur, g'.m b = some (cb, cur.size) ∧ g'.h cb = some cur ∧ VR g'.h e rows cur.toList) ∧ ∀ c, (∀ s, g.m b ≠ some (c, s)) → g'.h c = g.h c := by
  have hlt : b < S.length := (List.getElem?_eq_some_iff.1 hb).1
  obtain ⟨he, hbr⟩ := R.blk _ _ hb
  have hturn : ∀ k, Le k g S g (S.set b (.row ver t e rows true)) := fun k =>
    Le.turn hlt (by rw [ver_some hb]; exact Nat.le_refl _) (.inl (by rw [sig_some hb]; rfl)) k
  rcases hbr with ⟨h1, h2⟩ | ⟨cb, cur, h1, h2, h3, h4, h5⟩
  · refine ⟨g, ?_, hturn, rfl, .inl h2, fun _ _ => rfl⟩
    refine R.write hlt (by rw [ver_some hb]; exact Nat.le_refl _) (.inl (by rw [sig_some hb]; rfl)) (cb := w.heap.size) ?_ (.inl rfl) (fun _ _ => rfl) rfl rfl rfl (Nat.le_refl _) ⟨he, .inl ⟨h1, h2⟩⟩
    intro _ c s hc
    rw [h1] at hc
    cases hc
  · let g' : Sg := { g with h := fun c => if c = cb then some cur else g.h c }
    have hext : ∀ c a, g.h c = some a → g'.h c = some a := by
      intro c a hc
      show (if c = cb then some cur else g.h c) = some a
      split
      · rename_i hcb
        subst hcb
        rw [h3] at hc
        split at hc
        · exact hc
        · cases hc
      · exact hc
    have hsame : g'.h cb = some cur := if_pos rfl
    have hvr : VR g'.h e rows cur.toList := VR.mono hext e rows _ h5
    have hle : ∀ k, Le k g S g' (S.set b (.row ver t e rows true)) := fun k => (hturn k).trans ⟨hext, fun _ _ => Nat.le_refl _, fun _ _ _ _ h => ⟨h, rfl⟩, rfl, fun _ h => h⟩
    refine ⟨g', ?_, hle, rfl, .inr ⟨cb, cur, h1, hsame, hvr⟩, fun c hc => if_neg fun e => hc _ (e ▸ h1)⟩
    refine ⟨R.below, R.room, ?_, ?_, ?_, ?_, ?_⟩
    rotate_right
    · intro r hr
      obtain ⟨q1, q2, q3, q4⟩ := R.q r hr
      have hsb : S.sig b ≠ none := by simp [Sto.sig, hb, Blk.sig]
      refine ⟨q1, q2, ?_, fun i s hi hm => ?_⟩
      · have : r.1 ≠ cb := fun e => q4 b _ hsb (e ▸ h1)
        show (if r.1 = cb then some cur else g.h r.1) = none
        rw [if_neg this]
        exact q3
      · rw [sig_set hlt] at hi
        refine q4 i s ?_ hm
        split at hi
        · rename_i e; subst e; exact hsb
        · exact hi
    · intro c a hc
      by_cases hcb : c = cb
      · subst hcb
        rw [hsame] at hc
        cases hc
        exact ⟨_, _, h4⟩
      · exact R.him c a (by simpa [g', hcb] using hc)
    · intro c hc
      have : c ≠ cb := by omega
      show (if c = cb then some cur else g.h c) = g.h0 c
      rw [if_neg this]
      exact R.low c hc
    · intro i x hx
      by_cases h : i = b
      · subst h
        rw [List.getElem?_set_self hlt] at hx
        cases hx
        exact ⟨he, .inr ⟨cb, cur, h1, h2, hsame, h4, hvr⟩⟩
      · rw [List.getElem?_set_ne (by omega)] at hx
        refine (R.blk i x hx).keep (fun _ => rfl) (by simp) (hle S.length) fun c hc hs => ⟨?_, rfl⟩
        obtain ⟨s, hc⟩ := hc
        have : c ≠ cb := by
          rintro rfl
          exact h (R.inj i b c s _ (by simpa [Sto.sig, hx] using hs) (by simp [Sto.sig, hb, Blk.sig]) hc h1)
        simp [g', this]
    · intro i j c s s' hi hj h1 h2
      rw [sig_set hlt] at hi hj
      have conv : ∀ i, (if i = b then (Blk.row ver t e rows true).sig else S.sig i) ≠ none → S.sig i ≠ none := fun i hi => by
        by_cases h : i = b
        · subst h; simp [Sto.sig, hb, Blk.sig]
        · simpa [h] using hi
      exact R.inj i j c s s' (conv i hi) (conv j hj) h1 h2

theorem Rel.freeze (R : Rel A B0 w0 g S w) {b ver t e : Nat} {rows : List (List AV)} {z : Bool} (hb : S[b]? = some (.row ver t e rows z)) :
    ∃ g', Rel A B0 w0 g' (S.set b (.row ver t e rows true)) w ∧ (∀ k, Le k g S g' (S.set b (.row ver t e rows true))) ∧ g'.m = g.m ∧
      (rows = [] ∨ ∃ cb cur, g'.m b = some (cb, cur.size) ∧ g'.h cb = some cur ∧ VR g'.h e rows cur.toList) := by
  obtain ⟨g', h1, h2, h3, h4, _⟩ := R.freeze' hb
  exact ⟨g', h1, h2, h3, h4⟩

theorem rowsOf_own {e b ver lo n : Nat} {f : Bool} {rs : List (List AV)} (h : rowsOf S (.own e b ver lo n f) = some rs) :
    ∃ t rows z, S[b]? = some (.row ver t e rows z) ∧ lo + n ≤ rows.length ∧ rs = (rows.drop lo).take n := by
  unfold rowsOf at h
  simp only at h
  split at h
  · rename_i v t e' rows z hb
    split at h
    · rename_i hc
      obtain ⟨rfl, rfl, hl⟩ := hc
      cases h
      exact ⟨t, rows, z, hb, hl, rfl⟩
    · cases h
  · cases h

theorem pure1_sound (R : Rel A B0 w0 g S w) {x y : AV} {v : Value} {S1 : Sto} (hv : V g S S.length x v) (h : pure1 S x = some (y, S1)) :
    ∃ g', Rel A B0 w0 g' S1 w ∧ (∀ k, Le k g S g' S1) ∧ S1.length = S.length ∧ VP g'.h y v := by
  have same : ∀ y, some (y, S) = some (y, S1) → VP g.h y v → ∃ g', Rel A B0 w0 g' S1 w ∧ (∀ k, Le k g S g' S1) ∧ S1.length = S.length ∧ VP g'.h y v := by
    intro y e hy
    cases e
    exact ⟨g, R, fun k => Le.refl _ _ _, rfl, hy⟩
  cases x with
  | own e b ver lo n f =>
    simp only [pure1] at h
    split at h
    · rename_i v0 t e' rows z rs hb hr
      cases h
      obtain ⟨t2, rows2, z2, hb2, hl, rfl⟩ := rowsOf_own hr
      rw [hb] at hb2
      cases hb2
      obtain ⟨g', R', hle, hm, hc⟩ := R.freeze hb
      refine ⟨g', R', hle, by simp, ?_⟩
      simp only [V] at hv
      obtain ⟨he, _, _, _, hv⟩ := hv
      obtain ⟨_, hloc⟩ := hv (by rw [ver_some hb]; rfl) e (by rw [sig_some hb]; rfl)
      have hlen : ((rows.drop lo).take n).length = n := by simp; omega
      simp only [VP]
      rcases hloc with ⟨_, ⟨a0, rfl⟩, rfl, rfl⟩ | ⟨rfl, _, a, c, rfl, hc1, hc2⟩ | ⟨cb, sz, c, hmb, rfl, hnc, hcm, _⟩
      · exact ⟨a0, 0, by simp, by simp, by simp [maxLen], he, fun _ => rfl, .inl (by simp)⟩
      · exact ⟨a, c, by simp, by simp, hc1, he, hc2, .inl (by simp)⟩
      · refine ⟨_, c, by rw [hlen], by rw [hlen]; exact hnc, hcm, he, by simp, ?_⟩
        rcases hc with hc | ⟨cb', cur, hm', hh, hvr⟩
        · exact .inl (by simp [hc])
        · rw [hm, hmb] at hm'
          cases hm'
          exact .inr ⟨cb, lo * e, cur, rfl, hh, VR.take n _ _ (VR.drop lo _ _ hvr)⟩
    · cases h
  | nils t e =>
    simp only [pure1] at h
    split at h
    · cases h
      simp only [V] at hv
      subst hv
      exact ⟨g, R, fun k => Le.refl _ _ _, rfl, by simp only [VP]; exact ⟨none, 0, rfl, by simp, by simp [maxLen], by assumption, fun _ => rfl, .inl trivial⟩⟩
    · cases h
  | zs t e =>
    simp only [pure1] at h
    split at h
    · cases h
      simp only [V] at hv
      obtain ⟨a, rfl⟩ := hv
      exact ⟨g, R, fun k => Le.refl _ _ _, rfl, by simp only [VP]; exact ⟨a, 0, rfl, by simp, by simp [maxLen], by assumption, fun _ => rfl, .inl trivial⟩⟩
    · cases h
  | int k n => simp only [pure1] at h; cases h; exact same _ rfl (by simpa [V, VP] using hv)
  | bool k => simp only [pure1] at h; cases h; exact same _ rfl (by simpa [V, VP] using hv)
  | str k => simp only [pure1] at h; cases h; exact same _ rfl (by simpa [V, VP] using hv)
  | any => simp only [pure1] at h; cases h; exact same _ rfl (by simp [VP])
  | flt => simp only [pure1] at h; cases h; exact same _ rfl (by simpa [V, VP] using hv)
  | cpx => simp only [pure1] at h; cases h; exact same _ rfl (by simpa [V, VP] using hv)
  | nilp => simp only [pure1] at h; cases h; exact same _ rfl (by simpa [V, VP] using hv)
  | nilf => simp only [pure1] at h; cases h; exact same _ rfl (by simpa [V, VP] using hv)
  | nili => simp only [pure1] at h; cases h; exact same _ rfl (by simpa [V, VP] using hv)
  | nilm => simp only [pure1] at h; cases h; exact same _ rfl (by simpa [V, VP] using hv)
  | imm e rows => simp only [pure1] at h; cases h; exact same _ rfl (by simp only [V] at hv; simpa only [VP] using hv)
  | fn f a c =>
    cases a <;> cases c <;> simp only [pure1] at h <;> first | (cases h; done) | skip
    cases h
    refine same _ rfl ?_
    simp only [V, VT] at hv
    obtain ⟨a, c, rfl, rfl, rfl⟩ := hv
    simp only [VP, VPL]
    exact ⟨[], [], rfl, rfl, rfl⟩
  | agg _ => simp [pure1] at h
  | tup _ => simp [pure1] at h
  | ifc _ _ => simp [pure1] at h
  | vsl _ _ _ _ _ => simp [pure1] at h
  | ptr _ _ _ => simp [pure1] at h
  | eptr _ _ _ _ => simp [pure1] at h
  | iptr _ _ => simp [pure1] at h
  | yld _ _ => simp [pure1] at h
  | map _ _ => simp [pure1] at h
  | itr _ _ => simp [pure1] at h
  | new _ _ _ => simp [pure1] at h
  | nbox _ _ => simp [pure1] at h
  | nmap _ => simp [pure1] at h

theorem pureL_sound : ∀ (xs : List AV) {g : Sg} {S : Sto} {ys : List AV} {vs : List Value} {S1 : Sto} (R : Rel A B0 w0 g S w), VT g S S.length xs vs → pureL S xs = some (ys, S1) →
    ∃ g', Rel A B0 w0 g' S1 w ∧ (∀ k, Le k g S g' S1) ∧ S1.length = S.length ∧ VPL g'.h ys vs
  | [], g, S, ys, vs, S1, R, hv, h => by
    simp only [pureL] at h
    cases h
    simp only [VT] at hv
    subst hv
    exact ⟨g, R, fun k => Le.refl _ _ _, rfl, by simp [VPL]⟩
  | x :: xs, g, S, ys, vs, S1, R, hv, h => by
    simp only [pureL] at h
    simp only [VT] at hv
    obtain ⟨v, vs', rfl, hv1, hv2⟩ := hv
    split at h
    · rename_i y Sa ha
      split at h
      · rename_i ys' Sb hb
        cases h
        obtain ⟨ga, Ra, la, na, va⟩ := pure1_sound R hv1 ha
        obtain ⟨gb, Rb, lb, nb, vb⟩ := pureL_sound xs Ra (by rw [na]; exact VT.mono (la _) _ _ hv2) hb
        refine ⟨gb, Rb, fun k => (la k).trans (lb k), nb.trans na, ?_⟩
        simp only [VPL]
        exact ⟨v, vs', rfl, VP.mono (lb 0).h _ _ va, vb⟩
      · cases h
    · cases h

/-- a value that may stand in memory: its cells -/
theorem flat_sound {k : Nat} {x : AV} {v : Value} {cs : List AV} (hv : V g S k x v) (h : x.flat = some cs) :
    VT g S k cs v.cells.toList ∧ oneCells v.cells.toList := by
  have one : ∀ u : Value, u.oneCell' = true → V g S k x u → x.flat = some [x] → cs = [x] → u = v → VT g S k cs v.cells.toList ∧ oneCells v.cells.toList := by
    intro u hu hvu _ e ev
    subst e ev
    have hc : u.cells = #[u] := by cases u <;> simp_all [Value.cells, Value.oneCell']
    rw [hc]
    refine ⟨by simp only [VT]; exact ⟨u, [], rfl, hvu, rfl⟩, ?_⟩
    intro z hz
    simp at hz
    subst hz
    exact hu
  have hv0 := hv
  cases x with
  | agg xs =>
    simp only [AV.flat] at h
    cases h
    simp only [V] at hv
    obtain ⟨vs, rfl, h1, h2⟩ := hv
    exact ⟨by simpa [Value.cells] using h1, by simpa [Value.cells, oneCells] using h2⟩
  | any => simp [AV.flat] at h
  | tup _ => simp [AV.flat] at h
  | new _ _ _ => simp [AV.flat] at h
  | nbox _ _ => simp [AV.flat] at h
  | nmap _ => simp [AV.flat] at h
  | int _ _ => simp only [V] at hv; exact one v (by rw [hv]; rfl) hv0 rfl (by simpa [AV.flat] using h.symm) rfl
  | bool _ => simp only [V] at hv; exact one v (by rw [hv]; rfl) hv0 rfl (by simpa [AV.flat] using h.symm) rfl
  | str _ => simp only [V] at hv; exact one v (by rw [hv]; rfl) hv0 rfl (by simpa [AV.flat] using h.symm) rfl
  | flt => simp only [V] at hv; obtain ⟨_, rfl⟩ := hv; exact one _ rfl hv0 rfl (by simpa [AV.flat] using h.symm) rfl
  | cpx => simp only [V] at hv; obtain ⟨_, _, rfl⟩ := hv; exact one _ rfl hv0 rfl (by simpa [AV.flat] using h.symm) rfl
  | nilp => simp only [V] at hv; exact one v (by rw [hv]; rfl) hv0 rfl (by simpa [AV.flat] using h.symm) rfl
  | nilf => simp only [V] at hv; exact one v (by rw [hv]; rfl) hv0 rfl (by simpa [AV.flat] using h.symm) rfl
  | nili => simp only [V] at hv; exact one v (by rw [hv]; rfl) hv0 rfl (by simpa [AV.flat] using h.symm) rfl
  | nilm => simp only [V] at hv; exact one v (by rw [hv]; rfl) hv0 rfl (by simpa [AV.flat] using h.symm) rfl
  | nils _ _ => simp only [V] at hv; exact one v (by rw [hv]; rfl) hv0 rfl (by simpa [AV.flat] using h.symm) rfl
  | zs _ _ => simp only [V] at hv; obtain ⟨_, rfl⟩ := hv; exact one _ rfl hv0 rfl (by simpa [AV.flat] using h.symm) rfl
  | ifc _ _ => simp only [V] at hv; obtain ⟨_, rfl, _⟩ := hv; exact one _ rfl hv0 rfl (by simpa [AV.flat] using h.symm) rfl
  | imm _ _ => simp only [V] at hv; obtain ⟨_, _, rfl, _⟩ := hv; exact one _ rfl hv0 rfl (by simpa [AV.flat] using h.symm) rfl
  | fn _ _ _ => simp only [V] at hv; obtain ⟨_, _, rfl, _⟩ := hv; exact one _ rfl hv0 rfl (by simpa [AV.flat] using h.symm) rfl
  | iptr _ _ => simp only [V] at hv; obtain ⟨_, _, _, rfl, _⟩ := hv; exact one _ rfl hv0 rfl (by simpa [AV.flat] using h.symm) rfl
  | own _ _ _ _ _ _ => simp only [V] at hv; exact one v hv.2.1 hv0 rfl (by simpa [AV.flat] using h.symm) rfl
  | vsl _ _ _ _ _ => simp only [V] at hv; exact one v hv.2.1 hv0 rfl (by simpa [AV.flat] using h.symm) rfl
  | ptr _ _ _ => simp only [V] at hv; exact one v hv.1 hv0 rfl (by simpa [AV.flat] using h.symm) rfl
  | eptr _ _ _ _ => simp only [V] at hv; exact one v hv.1 hv0 rfl (by simpa [AV.flat] using h.symm) rfl
  | yld _ _ => simp only [V] at hv; exact one v hv.1 hv0 rfl (by simpa [AV.flat] using h.symm) rfl
  | map _ _ => simp only [V] at hv; exact one v hv.1 hv0 rfl (by simpa [AV.flat] using h.symm) rfl
  | itr _ _ => simp only [V] at hv; exact one v hv.1 hv0 rfl (by simpa [AV.flat] using h.symm) rfl

end Go.Wm

set_option linter.unusedVariables false
set_option linter.unusedSimpArgs false
namespace Go.Wm
open Go.RowKit

variable {A : Alike} {P : Program} {B0 : Nat} {w0 w w' : World} {g g' : Sg} {S S' : Sto}

theorem VT.putAt {k : Nat} {cs xs : List AV} {vs us : List Value} {off : Nat} (h : VT g S k cs vs) (h' : VT g S k xs us) :
    VT g S k (putAt cs off xs) (vs.take off ++ us ++ vs.drop (off + us.length)) := by
  unfold Wm.putAt
  have hl := VT.length _ _ h'
  rw [← hl]
  exact VT.append _ _ _ _ (VT.append _ _ _ _ (VT.take off _ _ h) h') (VT.drop _ _ _ h)
theorem VPL.putAt {H : Nat → Option (Array Value)} {cs xs : List AV} {vs us : List Value} {off : Nat} (h : VPL H cs vs) (h' : VPL H xs us) :
    VPL H (putAt cs off xs) (vs.take off ++ us ++ vs.drop (off + us.length)) := by
  unfold Wm.putAt
  have hl := VPL.length _ _ h'
  rw [← hl]
  exact VPL.append _ _ _ _ (VPL.append _ _ _ _ (VPL.take off _ _ h) h') (VPL.drop _ _ _ h)
theorem oneCells.put {vs us : List Value} {off n : Nat} (h : oneCells vs) (h' : oneCells us) : oneCells (vs.take off ++ us ++ vs.drop n) := by
  intro u hu
  rcases List.mem_append.1 hu with hu | hu
  · rcases List.mem_append.1 hu with hu | hu
    · exact h u (List.mem_of_mem_take hu)
    · exact h' u hu
  · exact h u (List.mem_of_mem_drop hu)
theorem put_length {vs us : List Value} {off : Nat} (h : off + us.length ≤ vs.length) : (vs.take off ++ us ++ vs.drop (off + us.length)).length = vs.length := by
  simp
  omega

/-- a row's cells, one row's being written -/
theorem VR.set {H : Nat → Option (Array Value)} {e : Nat} : ∀ (rs : List (List AV)) (vs : List Value) (i : Nat) (r : List AV) (us : List Value), VR H e rs vs → i < rs.length → r.length = e → VPL H r us → us.length = e → oneCells us →
    VR H e (rs.set i r) (vs.take (i * e) ++ us ++ vs.drop (i * e + e))
  | [], vs, i, r, us, h, hi, hr, hv, hu, h1 => by simp at hi
  | q :: rs, vs, 0, r, us, h, hi, hr, hv, hu, h1 => by
    simp only [VR] at h
    simp only [List.set_cons_zero, VR, Nat.zero_mul, List.take_zero, List.nil_append, Nat.zero_add]
    have ht : (us ++ vs.drop e).take e = us := by rw [← hu, List.take_left]
    have hd : (us ++ vs.drop e).drop e = vs.drop e := by
      conv => lhs; rw [← hu]
      rw [List.drop_left, hu]
    rw [ht, hd]
    exact ⟨hr, hv, h1, h.2.2.2⟩
  | q :: rs, vs, i + 1, r, us, h, hi, hr, hv, hu, h1 => by
    have hroom := VR.room (q :: rs) vs h
    simp only [List.length_cons, Nat.succ_mul] at hroom
    simp only [VR] at h
    simp only [List.length_cons] at hi
    have ih := VR.set rs (vs.drop e) i r us h.2.2.2 (by omega) hr hv hu h1
    simp only [List.set_cons_succ, VR]
    have hs : i * e + e ≤ vs.length := by
      have : (i + 1) * e ≤ rs.length * e := Nat.mul_le_mul_right _ (by omega)
      rw [Nat.succ_mul] at this
      omega
    have e1 : (vs.take ((i + 1) * e) ++ us ++ vs.drop ((i + 1) * e + e)).take e = vs.take e := by
      rw [List.append_assoc, List.take_append_of_le_length (by simp [Nat.succ_mul]; omega), List.take_take]
      congr 1
      rw [Nat.succ_mul]
      omega
    have e2 : (vs.take ((i + 1) * e) ++ us ++ vs.drop ((i + 1) * e + e)).drop e = (vs.drop e).take (i * e) ++ us ++ (vs.drop e).drop (i * e + e) := by
      rw [List.append_assoc, List.drop_append_of_le_length (by simp [Nat.succ_mul]; omega), List.append_assoc]
      congr 1
      · rw [List.drop_take]
        congr 1
        rw [Nat.succ_mul]
        omega
      · congr 1
        rw [List.drop_drop]
        congr 1
        rw [Nat.succ_mul]
        omega
    rw [e1, e2]
    exact ⟨h.1, h.2.1, h.2.2.1, ih⟩

theorem wrCells_sound (R : Rel A B0 w0 g S w) {p : AV} {pv : Value} {cs : List AV} {vs : List Value} {S1 : Sto}
    (hp : V g S S.length p pv) (hc : VT g S S.length cs vs) (ho : oneCells vs) (h : wrCells S p cs = some S1) :
    ∃ cb off, pv = .pointer (some ⟨cb, off, none⟩) ∧ ∃ w' g', (storeCells ⟨cb, off, none⟩ vs).run P w = .ok () w' ∧ Rel A B0 w0 g' S1 w' ∧ (∀ k, Le k g S g' S1) ∧ S1.length = S.length := by
  unfold wrCells at h
  split at h
  · rename_i b ver off
    split at h
    · rename_i v t cs0 hb
      split at h
      · rename_i hv
        obtain ⟨rfl, hfit⟩ := hv
        cases h
        have hlt : b < S.length := (List.getElem?_eq_some_iff.1 hb).1
        simp only [V] at hp
        obtain ⟨_, _, _, hp⟩ := hp
        obtain ⟨cb, sz, hm, rfl⟩ := hp (by rw [ver_some hb]; rfl) 0 (by rw [sig_some hb]; rfl)
        obtain ⟨cb', cur, hm', hB, hh, hheap, hvt, hone⟩ := R.blk _ _ hb
        rw [hm] at hm'
        cases hm'
        have hl := VT.length _ _ hvt
        have hl' := VT.length _ _ hc
        have hfit' : off + vs.length ≤ cur.toList.length := by omega
        have hst := run_storeCells_at P cb off t vs 0 cur w hheap (by simpa using hfit') ho
        simp only [Nat.add_zero] at hst
        refine ⟨cb, off, rfl, _, g, hst, ?_, fun k => Le.turn hlt (by rw [ver_some hb]; exact Nat.le_refl _) (.inl (by rw [sig_some hb]; rfl)) k, by simp⟩
        refine R.write hlt (by rw [ver_some hb]; exact Nat.le_refl _) (.inl (by rw [sig_some hb]; rfl)) (cb := cb) ?_ (.inr ⟨by simp [Sto.sig, hb, Blk.sig], ⟨_, hm⟩, hh, hB⟩) ?_ rfl rfl rfl ?_ ?_
        · intro _ c s hcs
          rw [hm] at hcs
          cases hcs
          rfl
        · intro i hi
          exact setRow_other w cb i _ hi
        · simp [World.setRow]
        · refine ⟨cb, _, ?_, hB, hh, setRow_heap w cb cur _ t _ hheap, ?_, ?_⟩
          · rw [hm]
            have := put_length hfit'
            simp only [List.size_toArray, this, Array.length_toList]
          · simp only [List.length_set]
            exact VT.mono (Le.turn hlt (by rw [ver_some hb]; exact Nat.le_refl _) (.inl (by rw [sig_some hb]; rfl)) _) _ _ (VT.putAt hvt hc)
          · exact hone.put ho
      · cases h
    · cases h
  · rename_i b ver i k
    split at h
    · rename_i ys Sa ha
      obtain ⟨ga, Ra, la, na, va⟩ := pureL_sound _ R hc ha
      split at h
      · rename_i v t e rows hb
        split at h
        · rename_i r hr
          split at h
          · rename_i hv
            obtain ⟨rfl, hfit⟩ := hv
            cases h
            have hlt : b < Sa.length := (List.getElem?_eq_some_iff.1 hb).1
            have hp' : V ga Sa Sa.length (.eptr b v i k) pv := by rw [na]; exact V.mono (la _) _ _ hp
            simp only [V] at hp'
            obtain ⟨_, _, _, hp'⟩ := hp'
            obtain ⟨cb, sz, hm, rfl⟩ := hp' (by rw [ver_some hb]; rfl) e (by rw [sig_some hb]; rfl)
            obtain ⟨he, hbr⟩ := Ra.blk _ _ hb
            rcases hbr with ⟨h1, _⟩ | ⟨cb', cur, hm', hB, hh, hheap, hvr⟩
            · rw [hm] at h1; cases h1
            rw [hm] at hm'
            cases hm'
            have hroom := VR.room _ _ hvr
            have hi : i < rows.length := (List.getElem?_eq_some_iff.1 hr).1
            have hie : (i + 1) * e ≤ rows.length * e := Nat.mul_le_mul_right _ (by omega)
            rw [Nat.succ_mul] at hie
            obtain ⟨hrl, hrv, hro⟩ := VR.row _ _ hvr i r hr
            have hl' := VPL.length _ _ va
            have hfit' : i * e + k + vs.length ≤ cur.size := by simp only [Array.length_toList] at hroom; omega
            have hst := run_storeCells_at P cb (i * e + k) t vs 0 cur w hheap (by simpa using hfit') ho
            simp only [Nat.add_zero] at hst
            have hle : ∀ n, Le n ga Sa ga (Sa.set b (.row v t e (rows.set i (putAt r k ys)) false)) := fun n => Le.turn hlt (by rw [ver_some hb]; exact Nat.le_refl _) (.inl (by rw [sig_some hb]; rfl)) n
            refine ⟨cb, i * e + k, rfl, _, ga, hst, ?_, fun n => (la n).trans (hle n), by simp [na]⟩
            refine Ra.write hlt (by rw [ver_some hb]; exact Nat.le_refl _) (.inl (by rw [sig_some hb]; rfl)) (cb := cb) ?_ (.inr ⟨by simp [Sto.sig, hb, Blk.sig], ⟨_, hm⟩, by simpa using hh, hB⟩) ?_ rfl rfl rfl ?_ ?_
            · intro _ c s hcs
              rw [hm] at hcs
              cases hcs
              rfl
            · intro j hj
              exact setRow_other w cb j _ hj
            · simp [World.setRow]
            · have hsz : (cur.toList.take (i * e + k) ++ vs ++ cur.toList.drop (i * e + k + vs.length)).length = cur.toList.length := put_length (by simpa using hfit')
              refine ⟨he, .inr ⟨cb, _, ?_, hB, by simpa using hh, setRow_heap w cb cur _ t _ hheap, ?_⟩⟩
              · rw [hm]
                simp only [List.size_toArray, hsz, Array.length_toList]
              · have hlr := VPL.length _ _ hrv
                have hnew := VR.set rows cur.toList i (putAt r k ys) (((cur.toList.drop (i * e)).take e).take k ++ vs ++ ((cur.toList.drop (i * e)).take e).drop (k + vs.length)) hvr hi
                  (by simp [putAt]; omega) (VPL.putAt hrv va) (by rw [put_length (by rw [hlr]; omega), hlr, hrl]) (oneCells.put hro ho)
                have heq : cur.toList.take (i * e) ++ (((cur.toList.drop (i * e)).take e).take k ++ vs ++ ((cur.toList.drop (i * e)).take e).drop (k + vs.length)) ++ cur.toList.drop (i * e + e) =
                    cur.toList.take (i * e + k) ++ vs ++ cur.toList.drop (i * e + k + vs.length) := by
                  have h1 : ((cur.toList.drop (i * e)).take e).take k = (cur.toList.drop (i * e)).take k := by rw [List.take_take]; congr 1; omega
                  have h2 : ((cur.toList.drop (i * e)).take e).drop (k + vs.length) ++ cur.toList.drop (i * e + e) = cur.toList.drop (i * e + k + vs.length) := by
                    have h3 : cur.toList.drop (i * e + e) = ((cur.toList.drop (i * e)).drop e) := by rw [List.drop_drop]
                    have h4 : cur.toList.drop (i * e + k + vs.length) = (cur.toList.drop (i * e)).drop (k + vs.length) := by rw [List.drop_drop]; congr 1; omega
                    rw [h3, h4]
                    generalize cur.toList.drop (i * e) = l
                    rw [List.drop_take]
                    have : l.drop e = (l.drop (k + vs.length)).drop (e - (k + vs.length)) := by rw [List.drop_drop]; congr 1; omega
                    rw [this, List.take_append_drop]
                  rw [h1, List.append_assoc, List.append_assoc, h2, List.take_add]
                  simp only [List.append_assoc]
                rw [heq] at hnew
                simpa using hnew
          · cases h
        · cases h
      · cases h
    · cases h
  · cases h

theorem store_sound (R : Rel A B0 w0 g S w) {t : TypeId} {n : Nat} (hok : szB P t = some n) {p x : AV} {pv xv : Value} (hp : V g S S.length p pv) (hx : V g S S.length x xv) :
    ∀ v S', opStore n [p, x] S = some (.ret v, S') → ∃ w' g', (Instr.storeAt t pv xv).run P w = .ok () w' ∧ Rel A B0 w0 g' S' w' ∧ v = .any ∧ (∀ k, Le k g S g' S') ∧ S'.length = S.length := by
  intro v S' h
  unfold opStore at h
  simp only at h
  split at h
  · rename_i cs hcs
    split at h
    · rename_i hn
      split at h
      · rename_i S1 h1
        cases h
        obtain ⟨hvt, hone⟩ := flat_sound hx hcs
        obtain ⟨cb, off, rfl, w', g', hst, R', hle, hl⟩ := wrCells_sound (P := P) R hp hvt hone h1
        refine ⟨w', g', ?_, R', rfl, hle, hl⟩
        have hsz := VT.length _ _ hvt
        simp only [Array.length_toList] at hsz
        simp only [Instr.storeAt, Instr.sureAddr, storeVar, Sem.run_bind, Sem.run_pure, Result.andThen, run_sizeOf hok]
        rw [if_neg (by simp; omega)]
        simpa using hst
      · cases h
    · cases h
  · cases h

theorem alloc_push (w : World) (o : Obj) : Below w.heap.size w (w.alloc o) := (Below.refl _ _).alloc (Nat.le_refl _) o

/-- a new variable -/
theorem newVar_sound (R : Rel A B0 w0 g S w) {b t : Nat} {cs : List AV} {cur : Array Value} (hb : b < S.length) (hc : VT g S S.length cs cur.toList) (ho : oneCells cur.toList) :
    Sound A P B0 w0 g S w (do pure (.pointer (some (← newRow t cur)))) (some (.ret (.ptr b (S.ver b + 1) 0), S.set b (.var (S.ver b + 1) t cs))) := by
  intro v S' e
  cases e
  have hle := fun k => Le.bump (g := g) (S := S) (x := .var (S.ver b + 1) t cs) hb (by simp [Blk.ver]) (some (w.heap.size, cur.size)) k
  refine ⟨.pointer (some ⟨w.heap.size, 0, none⟩), w.alloc (.cells cur t), g.put b (some (w.heap.size, cur.size)), ?_, ?_, ?_, hle, by simp⟩
  · rfl
  · refine R.new hb (by simp [Blk.ver]) _ (alloc_push w _) (fun cb s h => by cases h; exact Nat.le_refl _) ?_
    refine ⟨w.heap.size, cur, Sg.put_same _ _, R.room, ?_, heap_alloc_new w _, ?_, ho⟩
    · show g.h w.heap.size = none
      cases hh : g.h w.heap.size with
      | none => rfl
      | some a =>
        obtain ⟨t', fz, h⟩ := R.him _ _ hh
        have := (Array.getElem?_eq_some_iff.1 h).1
        omega
    · simp only [List.length_set]
      exact VT.mono (hle _) _ _ hc
  · simp only [V]
    refine ⟨rfl, by simp; exact hb, ?_, ?_⟩
    · rw [ver_set hb]; simp [Blk.ver]
    · intro _ _ _
      exact ⟨_, _, Sg.put_same _ _, rfl⟩

end Go.Wm

set_option linter.unusedVariables false
set_option linter.unusedSimpArgs false
namespace Go.Wm
open Go.RowKit

variable {A : Alike} {P : Program} {B0 : Nat} {w0 w w' : World} {g g' : Sg} {S S' : Sto}

theorem pick_sound (R : Rel A B0 w0 g S w) {c a b : AV} {cv av bv : Value} (hc : V g S S.length c cv) (ha : V g S S.length a av) (hb : V g S S.length b bv) :
    Sound A P B0 w0 g S w (do pure (if ← asBool cv then av else bv)) (opPick [c, a, b] S) := by
  cases c <;> try exact Sound.none
  rename_i t
  simp only [V] at hc
  subst hc
  cases t
  · exact Sound.same R (cv := bv) (by simp [asBool]) hb
  · exact Sound.same R (cv := av) (by simp [asBool]) ha

theorem nilchk_sound (R : Rel A B0 w0 g S w) {x : AV} {xv : Value} (hx : V g S S.length x xv) :
    ∀ v S', opNilchk [x] S = some (.ret v, S') → v = x ∧ S' = S := by
  intro v S' h
  cases x <;> simp [opNilchk] at h <;> first | exact ⟨h.2.1.symm, h.2.2.symm⟩ | exact ⟨h.1.symm, h.2.symm⟩

theorem bnot_sound (R : Rel A B0 w0 g S w) {x : AV} {xv : Value} (hx : V g S S.length x xv) :
    Sound A P B0 w0 g S w (Op.unary .not xv) (opBnot [x] S) := by
  cases x <;> try exact Sound.none
  rename_i b
  simp only [V] at hx
  subst hx
  exact Sound.same R (cv := .bool !b) rfl (by simp [V])

theorem convI_sound (R : Rel A B0 w0 g S w) {s d : TypeId} {ks : TypeDesc} {k : IntKind} (hs : P.underlying s = some ks) (hd : P.underlying d = some (.int k)) {x : AV} {xv : Value} (hx : V g S S.length x xv) :
    Sound A P B0 w0 g S w (convert s d xv) (opConv k [x] S) := by
  cases x <;> try exact Sound.none
  rename_i kx n
  simp only [V] at hx
  subst hx
  refine Sound.same R (cv := .int k (k.wrap n)) ?_ (by simp [V])
  simp only [convert, Sem.run_bind, run_underlying hs, run_underlying hd, Result.andThen]
  simp [Conv.intToInt]

theorem cflt_sound (R : Rel A B0 w0 g S w) {s d : TypeId} {ks : TypeDesc} (hs : P.underlying s = some ks) (hd : P.underlying d = some (.float .f64)) {x : AV} {xv : Value} (hx : V g S S.length x xv) :
    Sound A P B0 w0 g S w (convert s d xv) (opCflt [x] S) := by
  cases x <;> try exact Sound.none
  rename_i kx n
  simp only [V] at hx
  subst hx
  refine Sound.same R (cv := .float .f64 (FloatKind.f64.nearest n)) ?_ (by simp [V])
  simp only [convert, Sem.run_bind, run_underlying hs, run_underlying hd, Result.andThen]
  simp [Conv.intToFloat]

theorem ccpx_sound (R : Rel A B0 w0 g S w) {ats : Array TypeId} {ty : TypeId} {x y : AV} {xv yv : Value} (hx : V g S S.length x xv) (hy : V g S S.length y yv) :
    Sound A P B0 w0 g S w (Builtin.complex_ ats ty #[xv, yv]) (opCcpx [x, y] S) := by
  cases x <;> try exact Sound.none
  cases y <;> try exact Sound.none
  simp only [V] at hx hy
  obtain ⟨a, rfl⟩ := hx
  obtain ⟨b, rfl⟩ := hy
  exact Sound.same R (cv := .complex .f64 a b) rfl (by simp [V])

theorem mkifc_sound (R : Rel A B0 w0 g S w) {t : TypeId} {d : TypeDesc} (ht : P.underlying t = some d) (hd : (match d with | .interface _ => false | _ => true) = true) {x : AV} {xv : Value} (hx : V g S S.length x xv) :
    Sound A P B0 w0 g S w (Instr.makeInterface t xv) (opMkifc t [x] S) := by
  refine Sound.same R (cv := .iface t xv) ?_ (by simp only [V]; exact ⟨xv, rfl, hx⟩)
  simp only [Instr.makeInterface, Sem.run_bind, run_underlying ht, Result.andThen]
  cases d <;> simp_all

theorem extr_sound (R : Rel A B0 w0 g S w) {i : Nat} {x : AV} {xv : Value} (hx : V g S S.length x xv) :
    Sound A P B0 w0 g S w (Instr.extract xv i) (opExtr i [x] S) := by
  cases x <;> try exact Sound.none
  rename_i vs
  simp only [V] at hx
  obtain ⟨us, rfl, hvt⟩ := hx
  cases hi : vs[i]? with
  | none => simp only [opExtr, hi]; exact Sound.none
  | some v =>
    obtain ⟨u, hu, hv⟩ := hvt.at_ _ _ i v hi
    simp only [opExtr, hi]
    refine Sound.same R ?_ hv
    simp [Instr.extract, hu]

theorem lenOf_sound {x : AV} {xv : Value} {n : Nat} (hx : V g S S.length x xv) (h : lenOf x = some n)
    (hlive : liveB S x = true) :
    ∃ a c, xv = .slice a n c ∧ n ≤ c := by
  cases x <;> simp [lenOf] at h
  case nils => simp only [V] at hx; subst hx h; exact ⟨none, 0, rfl, Nat.le_refl _⟩
  case zs => simp only [V] at hx; obtain ⟨a, rfl⟩ := hx; subst h; exact ⟨a, 0, rfl, Nat.le_refl _⟩
  case imm => simp only [V] at hx; obtain ⟨a, c, rfl, hc, _⟩ := hx; subst h; exact ⟨a, c, rfl, hc⟩
  case own e b ver lo m f =>
    simp only [V] at hx
    simp [liveB] at hlive
    obtain ⟨h1, h2⟩ := hlive
    obtain ⟨_, hl⟩ := hx.2.2.2.2 h1 _ h2
    subst h
    rcases hl with ⟨_, ⟨a0, rfl⟩, rfl, _⟩ | ⟨rfl, _, a, c, rfl, _⟩ | ⟨cb, sz, c, _, rfl, hc, _⟩
    · exact ⟨a0, 0, rfl, Nat.le_refl _⟩
    · exact ⟨a, c, rfl, Nat.zero_le _⟩
    · exact ⟨_, c, rfl, hc⟩
  case vsl b ver off e m =>
    simp only [V] at hx
    simp [liveB] at hlive
    obtain ⟨h1, h2⟩ := hlive
    obtain ⟨cb, sz, c, _, rfl, hc, _⟩ := hx.2.2.2.2 h1 _ h2
    subst h
    exact ⟨_, c, rfl, hc⟩

theorem min2_sound (R : Rel A B0 w0 g S w) {ats : Array TypeId} {ty : TypeId} {x y : AV} {xv yv : Value} (hx : V g S S.length x xv) (hy : V g S S.length y yv) :
    Sound A P B0 w0 g S w (Builtin.min_ ats ty #[xv, yv]) (opMin2 [x, y] S) := by
  cases x <;> try exact Sound.none
  cases y <;> try exact Sound.none
  rename_i k a k' b
  simp only [V] at hx hy
  subst hx hy
  refine Sound.same R (cv := .int k (if b < a then b else a)) ?_ (by simp [V])
  simp [Builtin.min_, List.foldlM, Builtin.min2]
theorem max2_sound (R : Rel A B0 w0 g S w) {ats : Array TypeId} {ty : TypeId} {x y : AV} {xv yv : Value} (hx : V g S S.length x xv) (hy : V g S S.length y yv) :
    Sound A P B0 w0 g S w (Builtin.max_ ats ty #[xv, yv]) (opMax2 [x, y] S) := by
  cases x <;> try exact Sound.none
  cases y <;> try exact Sound.none
  rename_i k a k' b
  simp only [V] at hx hy
  subst hx hy
  refine Sound.same R (cv := .int k (if b > a then b else a)) ?_ (by simp [V])
  simp [Builtin.max_, List.foldlM, Builtin.max2]

theorem fld_sound (R : Rel A B0 w0 g S w) {off : Nat} {n : Option Nat} {ft : TypeId} (hok : loadOk P ft n = true) {x : AV} {xv : Value} (hx : V g S S.length x xv) :
    Sound A P B0 w0 g S w (do Go.part ft (← asAgg xv) off) (opFld off n [x] S) := by
  cases x <;> try exact Sound.none
  rename_i cs
  simp only [V] at hx
  obtain ⟨us, rfl, hvt, hone⟩ := hx
  have hl := VT.length _ _ hvt
  cases n with
  | none =>
    simp only [loadOk, beq_iff_eq] at hok
    cases hi : cs[off]? with
    | none => simp only [opFld, hi]; exact Sound.none
    | some c =>
      obtain ⟨u, hu, hv⟩ := hvt.at_ _ _ off c hi
      simp only [opFld, hi]
      refine Sound.same R ?_ hv
      simp [asAgg, Go.part, run_isAgg hok, Result.andThen, hu]
  | some k =>
    simp only [loadOk, Bool.and_eq_true, beq_iff_eq] at hok
    simp only [opFld]
    split
    · refine Sound.same R (cv := .agg ((us.drop off).take k).toArray) ?_ ?_
      · simp only [asAgg, Go.part, Sem.run_bind, Sem.run_pure, Result.andThen, run_isAgg hok.1, if_true, run_sizeOf hok.2]
        congr 2
        apply Array.ext'
        simp [List.extract_eq_take_drop]
      · simp only [V]
        exact ⟨_, rfl, VT.take k _ _ (VT.drop off _ _ hvt), fun u hu => hone u (List.mem_of_mem_drop (List.mem_of_mem_take hu))⟩
    · exact Sound.none

theorem idx_sound (R : Rel A B0 w0 g S w) {t et : TypeId} {len e : Nat} {n : Option Nat} (ht : P.underlying t = some (.array len et)) (he : szB P et = some e) (hok : loadOk P et n = true)
    {x i : AV} {xv iv : Value} (hx : V g S S.length x xv) (hi : V g S S.length i iv) :
    Sound A P B0 w0 g S w (Instr.index t xv iv) (opIdx len e n [x, i] S) := by
  cases x <;> try exact Sound.none
  cases i <;> try exact Sound.none
  rename_i cs k j
  simp only [opIdx]
  split
  · rename_i hj
    intro v S' hr
    obtain ⟨cv, w', g', h1, h2⟩ := fld_sound R hok hx v S' hr
    refine ⟨cv, w', g', ?_, h2⟩
    simp only [V] at hx hi
    obtain ⟨us, rfl, hvt, hone⟩ := hx
    subst hi
    simp only [Instr.index, asIntOf, Sem.run_bind, Sem.run_pure, Result.andThen, run_underlying ht]
    rw [if_pos ⟨hj.1, by omega⟩]
    simpa [run_sizeOf he, asAgg, Result.andThen] using h1
  · exact Sound.none

theorem idxs_sound (R : Rel A B0 w0 g S w) {t : TypeId} (ht : P.underlying t = some .string) {x i : AV} {xv iv : Value} (hx : V g S S.length x xv) (hi : V g S S.length i iv) :
    Sound A P B0 w0 g S w (Instr.index t xv iv) (opIdxs [x, i] S) := by
  cases x <;> try exact Sound.none
  cases i <;> try exact Sound.none
  rename_i s k j
  simp only [V] at hx hi
  subst hx hi
  simp only [opIdxs]
  split
  · rename_i hj
    split
    · rename_i b hb
      refine Sound.same R (cv := .int .u8 b.toNat) ?_ (by simp [V, u8])
      simp only [Instr.index, asIntOf, Sem.run_bind, Sem.run_pure, Result.andThen, run_underlying ht]
      rw [if_pos hj]
      have : (⟨s.toArray⟩ : ByteArray)[j.toNat]? = some b := by
        have := hb
        rw [List.getElem?_eq_some_iff] at this
        obtain ⟨h1, h2⟩ := this
        rw [getElem?_pos (h := by simpa [ByteArray.size] using h1)]
        simp [← h2]
        rfl
      simp [this]
    · exact Sound.none
  · exact Sound.none

theorem padd_sound {k : Nat} {p q : AV} {pv : Value} (hp : V g S S.length p pv) (h : padd k p = some q) (hlive : liveB S p = true) :
    ∃ cb off, pv = .pointer (some ⟨cb, off, none⟩) ∧ V g S S.length q (.pointer (some ⟨cb, off + k, none⟩)) := by
  cases p <;> simp [padd] at h <;> subst h
  case ptr b ver o =>
    simp [liveB] at hlive
    simp only [V] at hp
    obtain ⟨cb, sz, hm, rfl⟩ := hp.2.2.2 hlive.1 _ hlive.2
    refine ⟨cb, o, rfl, ?_⟩
    simp only [V]
    refine ⟨rfl, hp.2.1, hp.2.2.1, fun h1 e h2 => ⟨cb, sz, hm, rfl⟩⟩
  case eptr b ver i j =>
    simp [liveB] at hlive
    obtain ⟨hv, hk⟩ := hlive
    simp only [V] at hp
    cases hs : S.sig b with
    | none => rw [hs] at hk; simp at hk
    | some s =>
      obtain ⟨s1, s2⟩ := s
      rw [hs] at hk
      have : s1 = 1 := by
        by_cases h : s1 = 1
        · exact h
        · simp [h] at hk
      subst this
      obtain ⟨cb, sz, hm, rfl⟩ := hp.2.2.2 hv _ hs
      refine ⟨cb, i * s2 + j, rfl, ?_⟩
      simp only [V]
      refine ⟨rfl, hp.2.1, hp.2.2.1, fun h1 e h2 => ⟨cb, sz, hm, ?_⟩⟩
      rw [hs] at h2
      cases h2
      rw [Nat.add_assoc]
  case iptr cs j =>
    simp only [V] at hp
    obtain ⟨cb, off, arr, rfl, hh, hvp, hone⟩ := hp
    refine ⟨cb, off + j, rfl, ?_⟩
    simp only [V]
    exact ⟨cb, off, arr, by rw [Nat.add_assoc], hh, hvp, hone⟩

end Go.Wm

set_option linter.unusedVariables false
set_option linter.unusedSimpArgs false
namespace Go.Wm
open Go.RowKit

variable {A : Alike} {P : Program} {B0 : Nat} {w0 w w' : World} {g g' : Sg} {S S' : Sto}

/-- the field of a struct type: where it begins, and its type -/
def fieldB (P : Program) (s : TypeId) (k : Nat) : Option (Nat × TypeId) :=
  match P.underlying s with
  | some (.struct fs) => (fs[k]?).map fun f => (f.offset, f.type)
  | _ => none
def fadrOk (P : Program) (s : TypeId) (k off : Nat) : Bool :=
  match fieldB P s k with
  | some (o, t) => o == off && (match szB P t with | some n => n != 0 | none => false)
  | none => false

theorem fadr_sound (R : Rel A B0 w0 g S w) {s : TypeId} {k off : Nat} (hok : fadrOk P s k off = true) {p : AV} {pv : Value} (hp : V g S S.length p pv) :
    Sound A P B0 w0 g S w (Instr.fieldAt s pv k) (opFadr off [p] S) := by
  simp only [opFadr]
  split
  · rename_i hl
    split
    · rename_i q hq
      obtain ⟨cb, o, rfl, hv⟩ := padd_sound hp hq hl
      refine Sound.same R (cv := .pointer (some ⟨cb, o + off, none⟩)) ?_ hv
      unfold fadrOk fieldB at hok
      cases hu : P.underlying s with
      | none => simp [hu] at hok
      | some d =>
        cases d with
        | struct fs =>
          simp only [hu] at hok
          cases hf : fs[k]? with
          | none => simp [hf] at hok
          | some f =>
            simp only [hf, Option.map_some, Bool.and_eq_true, beq_iff_eq] at hok
            cases hs : szB P f.type with
            | none => simp [hs] at hok
            | some n =>
              simp only [hs, bne_iff_ne] at hok
              simp only [Instr.fieldAt, Sem.run_bind, run_underlying hu, Result.andThen, hf, Instr.sureAddr, Sem.run_pure, fieldPlace, run_sizeOf hs]
              rw [if_neg hok.2]
              simp only [Sem.run_pure, Result.andThen, addr_add, hok.1]
        | _ => simp [hu] at hok
    · exact Sound.none
  · exact Sound.none

theorem indexAt_slice {t et : TypeId} {e : Nat} (ht : P.underlying t = some (.slice et)) (he : szB P et = some e) {cb off n c : Nat} {k : IntKind} {i : Int}
    (h0 : 0 ≤ i) (h1 : i.toNat < n) (w : World) :
    (Instr.indexAt t (.slice (some ⟨cb, off, none⟩) n c) (.int k i)).run P w = .ok (.pointer (some ⟨cb, off + i.toNat * e, none⟩)) w := by
  simp only [Instr.indexAt, asIntOf, Sem.run_bind, Sem.run_pure, Result.andThen, run_underlying ht]
  rw [if_pos ⟨h0, by omega⟩]
  simp [run_sizeOf he, Result.andThen, addr_add]

theorem iadr_sound (R : Rel A B0 w0 g S w) {t et : TypeId} {e : Nat} (ht : P.underlying t = some (.slice et)) (he : szB P et = some e) {x i : AV} {xv iv : Value}
    (hx : V g S S.length x xv) (hi : V g S S.length i iv) :
    Sound A P B0 w0 g S w (Instr.indexAt t xv iv) (opIadr e [x, i] S) := by
  cases i <;> try exact Sound.none
  rename_i k j
  simp only [V] at hi
  subst hi
  simp only [opIadr]
  split
  · rename_i h0
    cases x <;> try exact Sound.none
    case imm e' rows =>
      simp only
      split
      · rename_i r hr
        split
        · rename_i hee
          subst hee
          simp only [V] at hx
          obtain ⟨a, c, rfl, hc, _, _, _, hx⟩ := hx
          have hlt : j.toNat < rows.length := (List.getElem?_eq_some_iff.1 hr).1
          rcases hx with hx | ⟨cb, off, arr, rfl, hh, hvr⟩
          · subst hx; simp at hlt
          · refine Sound.same R (indexAt_slice ht he h0 hlt w) ?_
            obtain ⟨hl, hv, hone⟩ := VR.row _ _ hvr _ _ hr
            simp only [V]
            refine ⟨cb, off + j.toNat * e, arr, rfl, hh, ?_, ?_⟩
            · rw [List.drop_drop] at hv; rw [hl]; exact hv
            · rw [List.drop_drop] at hone; rw [hl]; exact hone
        · exact Sound.none
      · exact Sound.none
    case own e' b ver lo n f =>
      simp only
      split
      · rename_i hc
        obtain ⟨hn, hee, hl⟩ := hc
        subst hee
        simp [liveB] at hl
        simp only [V] at hx
        obtain ⟨he0, _, hbk, hver, hx⟩ := hx
        obtain ⟨_, hloc⟩ := hx hl.1 _ hl.2
        rcases hloc with ⟨_, _, rfl, _⟩ | ⟨rfl, _⟩ | ⟨cb, sz, c, hm, rfl, _⟩
        · omega
        · omega
        · refine Sound.same R (indexAt_slice ht he h0 hn w) ?_
          simp only [V]
          refine ⟨rfl, hbk, hver, fun h1 e2 h2 => ⟨cb, sz, hm, ?_⟩⟩
          rw [hl.2] at h2
          cases h2
          rw [Nat.add_mul, Nat.add_zero]
      · exact Sound.none
  · exact Sound.none

theorem iadra_sound (R : Rel A B0 w0 g S w) {t et : TypeId} {e len : Nat} (ht : P.underlying t = some (.array len et)) (he : szB P et = some e) {x i : AV} {xv iv : Value}
    (hx : V g S S.length x xv) (hi : V g S S.length i iv) :
    Sound A P B0 w0 g S w (Instr.indexAt t xv iv) (opIadra e len [x, i] S) := by
  cases i <;> try exact Sound.none
  rename_i k j
  simp only [V] at hi
  subst hi
  simp only [opIadra]
  split
  · rename_i h0
    split
    · rename_i q hq
      obtain ⟨cb, o, rfl, hv⟩ := padd_sound hx hq h0.2.2
      refine Sound.same R (cv := .pointer (some ⟨cb, o + j.toNat * e, none⟩)) ?_ hv
      simp only [Instr.indexAt, asIntOf, Sem.run_bind, Sem.run_pure, Result.andThen, run_underlying ht, Instr.sureAddr]
      rw [if_pos ⟨h0.1, by omega⟩]
      simp [run_sizeOf he, Result.andThen, addr_add]
    · exact Sound.none
  · exact Sound.none

theorem len_sound (R : Rel A B0 w0 g S w) {t ty et : TypeId} (ht : P.underlying t = some (.slice et)) {x : AV} {xv : Value} (hx : V g S S.length x xv) :
    Sound A P B0 w0 g S w (Builtin.len_ #[t] ty #[xv]) (opLen [x] S) := by
  simp only [opLen]
  split
  · rename_i hl
    split
    · rename_i n hn
      refine Sound.same R (cv := .int .i64 n) ?_ (by simp [V])
      obtain ⟨a, c, rfl, _⟩ := lenOf_sound hx hn hl
      simp [Builtin.len_, run_underlying ht, Result.andThen, goInt]
    · exact Sound.none
  · exact Sound.none
theorem lens_sound (R : Rel A B0 w0 g S w) {t ty : TypeId} (ht : P.underlying t = some .string) {x : AV} {xv : Value} (hx : V g S S.length x xv) :
    Sound A P B0 w0 g S w (Builtin.len_ #[t] ty #[xv]) (opLens [x] S) := by
  cases x <;> try exact Sound.none
  rename_i s
  simp only [V] at hx
  subst hx
  refine Sound.same R (cv := .int .i64 s.length) ?_ (by simp [V])
  have hb : (⟨s.toArray⟩ : ByteArray).size = s.length := rfl
  simp [Builtin.len_, run_underlying ht, Result.andThen, goInt, hb]

/-! ### slicing -/
theorem run_sliceBound {v : Value} {k : IntKind} {i : Int} {y n : Nat} (c : BoundsCode) (hv : v = .int k i) (h0 : 0 ≤ i) (hn : i.toNat = n) (h : n ≤ y) (w : World) :
    (Instr.sliceBound v y c).run P w = .ok n w := by
  subst hv
  simp only [Instr.sliceBound, asIntOf, Sem.run_bind, Sem.run_pure, Result.andThen]
  rw [if_pos ⟨h0, by omega⟩]
  simp [hn]

theorem toN_sound {k : Nat} {x : AV} {v : Value} {n : Nat} (hx : V g S k x v) (h : toN x = some n) : ∃ kd i, v = .int kd i ∧ 0 ≤ i ∧ i.toNat = n := by
  cases x <;> simp [toN] at h
  rename_i kd i
  simp only [V] at hx
  exact ⟨kd, i, hx, h.1, h.2⟩

/-- the bounds, as the machine's operands give them -/
def optV (b : Bool) (x : Value) : Option Value := if b then some x else none

theorem bounds_sound {n r cap : Nat} {hl hh hm : Bool} {xs : List AV} {lv hv mv : Value} {isS : Bool} {l h : Nat} {m : Option Nat}
    (hb : bounds n r hl hh hm xs = some (l, h, m)) (hr : r ≤ cap) (hmh : hm = true → hh = true)
    (hvs : ∃ a b c, xs = (if hl then [a] else []) ++ (if hh then [b] else []) ++ (if hm then [c] else []) ∧ V g S S.length a lv ∧ V g S S.length b hv ∧ V g S S.length c mv) (w : World) :
    (Instr.sliceBounds isS n cap (optV hl lv) (optV hh hv) (optV hm mv)).run P w = .ok (l, h, m.getD cap) w ∧ l ≤ h ∧ h ≤ r ∧ (∀ q, m = some q → h ≤ q ∧ q ≤ r) ∧ (m = none ↔ hm = false) := by
  obtain ⟨a, b, c, rfl, ha, hbv, hc⟩ := hvs
  cases hl <;> cases hh <;> cases hm <;> simp at hmh <;> simp [bounds] at hb
  · obtain ⟨h2, rfl, rfl, rfl⟩ := hb
    refine ⟨?_, by omega, by omega, by simp, by simp⟩
    simp [Instr.sliceBounds, optV, Result.andThen]
  · cases hn : toN b with
    | none => simp [hn] at hb
    | some j =>
      simp [hn] at hb
      obtain ⟨h2, rfl, rfl, rfl⟩ := hb
      obtain ⟨kd, i, e1, e2, e3⟩ := toN_sound hbv hn
      refine ⟨?_, by omega, by omega, by simp, by simp⟩
      simp [Instr.sliceBounds, optV, Result.andThen, run_sliceBound _ e1 e2 e3 (show j ≤ cap by omega)]
  · cases hn : toN b with
    | none => simp [hn] at hb
    | some j =>
      cases hq : toN c with
      | none => simp [hn, hq] at hb
      | some q =>
        simp [hn, hq] at hb
        obtain ⟨⟨h1, h2⟩, rfl, rfl, rfl⟩ := hb
        obtain ⟨kd, i, e1, e2, e3⟩ := toN_sound hbv hn
        obtain ⟨kd', i', f1, f2, f3⟩ := toN_sound hc hq
        refine ⟨?_, by omega, by omega, fun z hz => by cases hz; omega, by simp⟩
        simp [Instr.sliceBounds, optV, Result.andThen, run_sliceBound _ e1 e2 e3 (show j ≤ q by omega), run_sliceBound _ f1 f2 f3 (show q ≤ cap by omega)]
  · cases hn : toN a with
    | none => simp [hn] at hb
    | some j =>
      simp [hn] at hb
      obtain ⟨⟨h1, h2⟩, rfl, rfl, rfl⟩ := hb
      obtain ⟨kd, i, e1, e2, e3⟩ := toN_sound ha hn
      refine ⟨?_, by omega, by omega, by simp, by simp⟩
      simp [Instr.sliceBounds, optV, Result.andThen, run_sliceBound _ e1 e2 e3 h1]
  · cases hn : toN a with
    | none => simp [hn] at hb
    | some j =>
      cases hq : toN b with
      | none => simp [hn, hq] at hb
      | some q =>
        simp [hn, hq] at hb
        obtain ⟨⟨h1, h2⟩, rfl, rfl, rfl⟩ := hb
        obtain ⟨kd, i, e1, e2, e3⟩ := toN_sound ha hn
        obtain ⟨kd', i', f1, f2, f3⟩ := toN_sound hbv hq
        refine ⟨?_, by omega, by omega, by simp, by simp⟩
        simp [Instr.sliceBounds, optV, Result.andThen, run_sliceBound _ e1 e2 e3 h1, run_sliceBound _ f1 f2 f3 (show q ≤ cap by omega)]
  · cases hn : toN a with
    | none => simp [hn] at hb
    | some j =>
      cases hq : toN b with
      | none => simp [hn, hq] at hb
      | some q =>
        cases hz : toN c with
        | none => simp [hn, hq, hz] at hb
        | some z =>
          simp [hn, hq, hz] at hb
          obtain ⟨⟨h1, h2, h3⟩, rfl, rfl, rfl⟩ := hb
          obtain ⟨kd, i, e1, e2, e3⟩ := toN_sound ha hn
          obtain ⟨kd', i', f1, f2, f3⟩ := toN_sound hbv hq
          obtain ⟨kd'', i'', g1, g2, g3⟩ := toN_sound hc hz
          refine ⟨?_, by omega, by omega, fun y hy => by cases hy; omega, by simp⟩
          simp [Instr.sliceBounds, optV, Result.andThen, run_sliceBound _ e1 e2 e3 h1, run_sliceBound _ f1 f2 f3 h2, run_sliceBound _ g1 g2 g3 (show z ≤ cap by omega)]

end Go.Wm

set_option linter.unusedVariables false
set_option linter.unusedSimpArgs false
namespace Go.Wm
open Go.RowKit

variable {A : Alike} {P : Program} {B0 : Nat} {w0 w w' : World} {g g' : Sg} {S S' : Sto}

theorem run_sliceAt {t et : TypeId} {e : Nat} (ht : P.underlying t = some (.slice et)) (he : szB P et = some e) {a : Option Addr} {n c l h m : Nat} {lo hi mx : Option Value} (w : World)
    (hb : (Instr.sliceBounds true n c lo hi mx).run P w = .ok (l, h, m) w) :
    (Instr.sliceAt t (.slice a n c) lo hi mx).run P w = .ok (.slice (if m = l then a else a.map (·.add (l * e))) (h - l) (m - l)) w := by
  simp only [Instr.sliceAt, Sem.run_bind, run_underlying ht, Result.andThen, Instr.slice, hb, run_sizeOf he, Sem.run_pure]

theorem slc_sound (R : Rel A B0 w0 g S w) {t et : TypeId} {e : Nat} (ht : P.underlying t = some (.slice et)) (he : szB P et = some e) {hl hh hm : Bool} (hmh : hm = true → hh = true)
    {x a b c : AV} {xv lv hv mv : Value} (hx : V g S S.length x xv) (ha : V g S S.length a lv) (hb : V g S S.length b hv) (hc : V g S S.length c mv) :
    Sound A P B0 w0 g S w (Instr.sliceAt t xv (optV hl lv) (optV hh hv) (optV hm mv))
      (opSlc et e hl hh hm (x :: ((if hl then [a] else []) ++ (if hh then [b] else []) ++ (if hm then [c] else []))) S) := by
  simp only [opSlc]
  split
  · exact Sound.none
  rename_i hlive
  simp only [Bool.not_eq_false] at hlive
  split
  · rename_i n r hn hr
    split
    · exact Sound.none
    · rename_i l h m hbd
      have hbs : ∀ cap, r ≤ cap → _ := fun cap hcap => bounds_sound (P := P) (isS := true) (g := g) (S := S) hbd hcap hmh ⟨a, b, c, rfl, ha, hb, hc⟩ w
      cases x with
      | nils t' e' =>
        simp only [V] at hx
        subst hx
        simp [lenOf] at hn
        simp [roomOf, lenOf] at hr
        subst hn hr
        obtain ⟨hrun, h1, h2, h3, h4⟩ := hbs 0 (Nat.le_refl _)
        refine Sound.same R (run_sliceAt ht he w hrun) ?_
        have : m.getD 0 = 0 := by
          cases m with
          | none => rfl
          | some q => have := h3 q rfl; simp; omega
        have hl0 : l = 0 := by omega
        have hh0 : h = 0 := by omega
        simp [V, this, hl0, hh0]
      | zs t' e' =>
        simp only [V] at hx
        obtain ⟨ad, rfl⟩ := hx
        simp [lenOf] at hn
        simp [roomOf, lenOf] at hr
        subst hn hr
        obtain ⟨hrun, h1, h2, h3, h4⟩ := hbs 0 (Nat.le_refl _)
        refine Sound.same R (run_sliceAt ht he w hrun) ?_
        have : m.getD 0 = 0 := by
          cases m with
          | none => rfl
          | some q => have := h3 q rfl; simp; omega
        have hl0 : l = 0 := by omega
        have hh0 : h = 0 := by omega
        simp [V, this, hl0, hh0]
      | imm e' rows =>
        simp only
        split
        · rename_i hee
          subst hee
          simp only [V] at hx
          obtain ⟨ad, cp, rfl, hcap, hmax, he0, hnil, hx⟩ := hx
          simp [lenOf] at hn
          simp [roomOf, lenOf] at hr
          subst hn hr
          obtain ⟨hrun, h1, h2, h3, h4⟩ := hbs cp hcap
          have hmm : h ≤ m.getD cp ∧ m.getD cp ≤ cp := by
            cases m with
            | none => exact ⟨by simp; omega, Nat.le_refl _⟩
            | some q => have := h3 q rfl; exact ⟨by simp; omega, by simp; omega⟩
          have hgen : V g S S.length (.imm e' ((rows.drop l).take (h - l))) (.slice (if m.getD cp = l then ad else ad.map (·.add (l * e'))) (h - l) (m.getD cp - l)) := by
            simp only [V]
            have hlen : ((rows.drop l).take (h - l)).length = h - l := by simp; omega
            refine ⟨_, _, by rw [hlen], by rw [hlen]; omega, by omega, he0, ?_, ?_⟩
            · intro hnone
              have : ad = none := by
                split at hnone
                · exact hnone
                · cases ad with
                  | none => rfl
                  | some _ => simp at hnone
              have := hnil this
              omega
            · rcases hx with hx | ⟨cb, off, arr, rfl, hheap, hvr⟩
              · exact .inl (by simp [hx])
              · by_cases hml : m.getD cp = l
                · refine .inl ?_
                  apply List.eq_nil_of_length_eq_zero
                  rw [hlen]; omega
                · refine .inr ⟨cb, off + l * e', arr, by rw [if_neg hml]; simp [addr_add], hheap, ?_⟩
                  rw [← List.drop_drop]
                  exact VR.take _ _ _ (VR.drop l _ _ hvr)
          split
          · refine Sound.same R (run_sliceAt ht he w hrun) ?_
            have := h3 0 rfl
            have hl0 : l = 0 := by omega
            have hh0 : h = 0 := by omega
            simp [V, hl0, hh0]
          · exact Sound.same R (run_sliceAt ht he w hrun) hgen
        · exact Sound.none
      | own e' bb ver lo n' f =>
        simp only
        split
        · rename_i hee
          subst hee
          simp only [V] at hx
          obtain ⟨he0, hone, hbk, hver, hx⟩ := hx
          simp [liveB] at hlive
          obtain ⟨_, hloc⟩ := hx hlive.1 _ hlive.2
          simp [lenOf] at hn
          subst hn
          have hrow : ∃ t rows z, S[bb]? = some (.row ver t e' rows z) := by
            have h2 := hlive.2
            unfold Sto.sig at h2
            have h1 := hlive.1
            unfold Sto.ver at h1
            cases hs : S[bb]? with
            | none => rw [hs] at h2; cases h2
            | some y =>
              rw [hs] at h2 h1
              cases y <;> simp [Blk.sig] at h2
              simp [Blk.ver] at h1
              subst h1 h2
              exact ⟨_, _, _, rfl⟩
          obtain ⟨t0, rows, z, hrow⟩ := hrow
          obtain ⟨_, hbr⟩ := R.blk _ _ hrow
          have hroom : (f = false → r = n') ∧ (f = true → r = max n' rows.length) := by
            refine ⟨fun hf => ?_, fun hf => ?_⟩
            · subst hf; simp [roomOf, lenOf] at hr; exact hr.symm
            · subst hf; simp [roomOf, hrow] at hr; exact hr.symm
          have mk : ∀ (lo2 n2 : Nat) (f2 : Bool) (v : Value), v.oneCell' = true → Loc g e' bb lo2 n2 f2 v → V g S S.length (.own e' bb ver lo2 n2 f2) v := by
            intro lo2 n2 f2 v hv hl
            simp only [V]
            refine ⟨he0, hv, hbk, hver, fun _ e2 h2 => ?_⟩
            rw [hlive.2] at h2
            cases h2
            exact ⟨rfl, hl⟩
          rcases hloc with ⟨hmn, ⟨a0, rfl⟩, rfl, rfl⟩ | ⟨rfl, rfl, ad, cp, rfl, hcm, hcn⟩ | ⟨cb, sz, cp, hmb, rfl, hnc, hcm, hful⟩
          · have hrr : r = 0 := by
              rcases hbr with ⟨_, h0⟩ | ⟨cb, cur, h0, _⟩
              · cases f with
                | false => exact hroom.1 rfl
                | true => rw [hroom.2 rfl, h0]; rfl
              · rw [hmn] at h0; cases h0
            obtain ⟨hrun, h1, h2, h3, h4⟩ := hbs 0 (by omega)
            have hmz : m.getD 0 = 0 := by
              cases m with
              | none => rfl
              | some q => have := h3 q rfl; simp; omega
            have hl0 : l = 0 := by omega
            have hh0 : h = 0 := by omega
            have hrun2 := run_sliceAt (a := a0) ht he w hrun
            subst hl0 hh0
            rw [hmz] at hrun2
            simp only [if_true, Nat.sub_zero] at hrun2
            split
            · exact Sound.same R hrun2 (by simp [V])
            · rename_i _ q hq
              have := h3 q rfl
              exact absurd (show q = 0 by omega) (fun e => hq (by rw [e]))
            · exact Sound.same R hrun2 (mk _ _ _ _ rfl (.inl ⟨hmn, ⟨_, rfl⟩, rfl, rfl⟩))
          · have hrr : r = 0 := hroom.1 rfl
            obtain ⟨hrun, h1, h2, h3, h4⟩ := hbs cp (by omega)
            have hl0 : l = 0 := by omega
            have hh0 : h = 0 := by omega
            have hrun2 := run_sliceAt (a := ad) ht he w hrun
            subst hl0 hh0
            split
            · simp only [Option.getD_some, if_true, Nat.sub_zero] at hrun2
              exact Sound.same R hrun2 (by simp [V])
            · rename_i _ q hq
              have := h3 q rfl
              exact absurd (show q = 0 by omega) (fun e => hq (by rw [e]))
            · simp only [Option.getD_none, Nat.sub_zero, Nat.zero_mul] at hrun2
              refine Sound.same R hrun2 (mk _ _ _ _ rfl (.inr (.inl ⟨rfl, by simp, _, cp, rfl, hcm, ?_⟩)))
              intro hz
              apply hcn
              split at hz
              · exact hz
              · cases ad <;> simp at hz ⊢
          · have hrc : r ≤ cp := by
              cases hf : f with
              | false => rw [hroom.1 hf]; exact hnc
              | true =>
                rw [hroom.2 hf]
                obtain ⟨_, hce⟩ := hful hf
                rcases hbr with ⟨h0, _⟩ | ⟨cb2, cur, h0, _, _, _, hvr⟩
                · rw [hmb] at h0; cases h0
                · rw [hmb] at h0
                  cases h0
                  have := VR.room _ _ hvr
                  simp only [Array.length_toList] at this
                  rw [← hce] at this
                  have := Nat.le_of_mul_le_mul_right this he0
                  omega
            obtain ⟨hrun, h1, h2, h3, h4⟩ := hbs cp hrc
            have hrun2 := run_sliceAt (a := some ⟨cb, lo * e', none⟩) ht he w hrun
            have hmm : h ≤ m.getD cp ∧ m.getD cp ≤ cp := by
              cases m with
              | none => exact ⟨by simp; omega, Nat.le_refl _⟩
              | some q => have := h3 q rfl; exact ⟨by simp; omega, by simp; omega⟩
            have gen : ∀ f2 : Bool, (f2 = true → f = true ∧ l = 0 ∧ m = none) → V g S S.length (.own e' bb ver (lo + l) (h - l) f2)
                (.slice (if m.getD cp = l then some ⟨cb, lo * e', none⟩ else Option.map (fun z : Addr => z.add (l * e')) (some ⟨cb, lo * e', none⟩)) (h - l) (m.getD cp - l)) := by
              intro f2 hf2
              by_cases hml : m.getD cp = l
              · rw [if_pos hml]
                cases hf : f2 with
                | false =>
                  refine mk _ _ _ _ rfl (.inr (.inl ⟨by omega, rfl, some ⟨cb, lo * e', none⟩, m.getD cp - l, ?_, by omega, by simp⟩))
                  rw [show h - l = 0 from by omega]
                | true =>
                  obtain ⟨h5, h6, h7⟩ := hf2 hf
                  subst h6 h7
                  obtain ⟨h8, h9⟩ := hful h5
                  refine mk _ _ _ _ rfl (.inr (.inr ⟨cb, sz, _, hmb, rfl, by omega, by omega, fun _ => ⟨by omega, by simpa using h9⟩⟩))
              · rw [if_neg hml]
                refine mk _ _ _ _ rfl (.inr (.inr ⟨cb, sz, m.getD cp - l, hmb, ?_, by omega, by omega, fun h5 => ?_⟩))
                · simp [addr_add, Nat.add_mul]
                · obtain ⟨h5, h6, h7⟩ := hf2 h5
                  subst h6 h7
                  obtain ⟨h8, h9⟩ := hful h5
                  exact ⟨by omega, by simpa using h9⟩
            split
            · have := h3 0 rfl
              have hl0 : l = 0 := by omega
              have hh0 : h = 0 := by omega
              subst hl0 hh0
              refine Sound.same R hrun2 ?_
              simp [V]
            · exact Sound.same R hrun2 (gen false (by simp))
            · refine Sound.same R hrun2 (gen _ ?_)
              intro h5
              simp at h5
              exact ⟨h5.1, h5.2, rfl⟩
        · exact Sound.none
      | _ => exact Sound.none
  · exact Sound.none

theorem slcs_sound (R : Rel A B0 w0 g S w) {t : TypeId} (ht : P.underlying t = some .string) {hl hh : Bool}
    {x a b : AV} {xv lv hv : Value} (hx : V g S S.length x xv) (ha : V g S S.length a lv) (hb : V g S S.length b hv) :
    Sound A P B0 w0 g S w (Instr.sliceAt t xv (optV hl lv) (optV hh hv) none)
      (opSlcs hl hh (x :: ((if hl then [a] else []) ++ (if hh then [b] else []))) S) := by
  cases x <;> try exact Sound.none
  rename_i s
  simp only [V] at hx
  subst hx
  simp only [opSlcs]
  split
  · rename_i l h m hbd
    obtain ⟨hrun, h1, h2, h3, h4⟩ := bounds_sound (P := P) (isS := false) (g := g) (S := S) (hm := false) (mv := .nilIface) (lv := lv) (hv := hv) hbd (Nat.le_refl _) (by simp) ⟨a, b, .nili, by simp, ha, hb, by simp [V]⟩ w
    refine Sound.same R (cv := .string ⟨((s.drop l).take (h - l)).toArray⟩) ?_ (by simp [V])
    have hsz : (⟨s.toArray⟩ : ByteArray).size = s.length := rfl
    simp only [optV] at hrun ⊢
    simp only [Instr.sliceAt, Sem.run_bind, run_underlying ht, Result.andThen, Instr.slice, hsz]
    simp only [Option.isSome_none]
    simp only [optV, if_false, Bool.false_eq_true] at hrun
    simp [hrun, Result.andThen]
    apply ByteArray.ext
    simp [ByteArray.extract, ByteArray.copySlice]
  · exact Sound.none

end Go.Wm

set_option linter.unusedVariables false
set_option linter.unusedSimpArgs false
namespace Go.Wm
open Go.RowKit

variable {A : Alike} {P : Program} {B0 : Nat} {w0 w w' : World} {g g' : Sg} {S S' : Sto}

theorem scalar_VP {k : Nat} {x : AV} {v : Value} (h : x.scalar = true) (hv : V g S k x v) : VP g.h x v := by
  cases x <;> simp [AV.scalar] at h <;> simpa [V, VP] using hv
theorem scalars_VPL {k : Nat} : ∀ (xs : List AV) (vs : List Value), xs.all AV.scalar = true → VT g S k xs vs → VPL g.h xs vs
  | [], vs, _, hv => by simpa [VT, VPL] using hv
  | x :: xs, vs, h, hv => by
    simp only [List.all_cons, Bool.and_eq_true] at h
    simp only [VT] at hv
    obtain ⟨v, vs', rfl, h1, h2⟩ := hv
    simp only [VPL]
    exact ⟨v, vs', rfl, scalar_VP h.1 h1, scalars_VPL xs vs' h.2 h2⟩

theorem vslRows_sound {H : Nat → Option (Array Value)} {cs : List AV} {e : Nat} : ∀ (n off : Nat) (vs : List Value), off + n * e ≤ cs.length → VPL H ((cs.drop off).take (n * e)) vs → oneCells vs →
    VR H e (vslRows cs off e n) vs ∧ (vslRows cs off e n).length = n
  | 0, off, vs, h, hv, ho => by simp [vslRows, VR]
  | n + 1, off, vs, h, hv, ho => by
    rw [Nat.succ_mul] at h hv
    have hl := VPL.length _ _ hv
    simp only [List.length_take, List.length_drop] at hl
    have ht := VPL.take e _ _ hv
    have hd := VPL.drop e _ _ hv
    rw [List.take_take, Nat.min_eq_left (by omega)] at ht
    rw [List.drop_take, List.drop_drop, show n * e + e - e = n * e from by omega] at hd
    have ih := vslRows_sound n (off + e) (vs.drop e) (by omega) hd (fun u hu => ho u (List.mem_of_mem_drop hu))
    simp only [vslRows, VR, List.length_cons, ih.2, and_true]
    exact ⟨by simp; omega, ht, fun u hu => ho u (List.mem_of_mem_take hu), ih.1⟩

theorem rowsOf_vsl {b ver off e n : Nat} {rs : List (List AV)} (h : rowsOf' S (.vsl b ver off e n) = some rs) :
    ∃ t cs, S[b]? = some (.var ver t cs) ∧ off + n * e ≤ cs.length ∧ ((cs.drop off).take (n * e)).all AV.scalar = true ∧ rs = vslRows cs off e n := by
  unfold rowsOf' at h
  simp only at h
  split at h
  · rename_i v t cs hb
    split at h
    · rename_i hc
      obtain ⟨rfl, h1, h2⟩ := hc
      cases h
      exact ⟨t, cs, hb, h1, h2, rfl⟩
    · cases h
  · cases h

/-- what a slice, or a string, is read as -/
theorem rows_read (R : Rel A B0 w0 g S w) {e : Nat} {y : AV} {yv : Value} {ys : List (List AV)} (hy : V g S S.length y yv) (hes : eszB e y = true) (he0 : 0 < e) (h : rowsOf' S y = some ys) :
    ∃ us : List Value, us.length = ys.length * e ∧ VR g.h e ys us ∧ oneCells us ∧ (Builtin.lenOf yv = pure ys.length) ∧
      (∀ m, m ≤ ys.length → ∀ w', (∀ cb off, w.heap[cb]? ≠ none → w'.cell? ⟨cb, off, none⟩ = w.cell? ⟨cb, off, none⟩) → (Builtin.firstCells e m yv).run P w' = .ok (us.take (m * e)).toArray w') := by
  have fromMem : ∀ (cb off c : Nat) (us : List Value), us.length = ys.length * e → (∀ (j : Nat) (u : Value), us[j]? = some u → w.cell? ⟨cb, off + j, none⟩ = some u) →
      ∀ m, m ≤ ys.length → ∀ w', (∀ cb off, w.heap[cb]? ≠ none → w'.cell? ⟨cb, off, none⟩ = w.cell? ⟨cb, off, none⟩) →
        (Builtin.firstCells e m (.slice (some ⟨cb, off, none⟩) ys.length c)).run P w' = .ok (us.take (m * e)).toArray w' := by
    intro cb off c us hl hc m hm w' hw
    have hme : m * e ≤ us.length := by rw [hl]; exact Nat.mul_le_mul_right _ hm
    refine run_firstCells_some w' e m ⟨cb, off, none⟩ _ _ (us.take (m * e)) (by simp; omega) fun j v hj => ?_
    rw [addr_add]
    rw [List.getElem?_take] at hj
    split at hj
    · have := hc j v hj
      rw [hw cb (off + j) ?_]
      · exact this
      · intro hn
        simp [World.cell?, hn] at this
    · cases hj
  have cellsOf : ∀ (cb : Nat) (cur : Array Value) (t : TypeId) (fz : Nat × Nat) (off n : Nat), w.heap[cb]? = some (.cells cur t fz) →
      ∀ (j : Nat) (u : Value), ((cur.toList.drop off).take n)[j]? = some u → w.cell? ⟨cb, off + j, none⟩ = some u := by
    intro cb cur t fz off n hh j u hj
    rw [cell_row hh]
    rw [List.getElem?_take] at hj
    split at hj
    · rw [List.getElem?_drop] at hj
      simpa using hj
    · cases hj
  have join : ∀ (a : Option Addr) (c : Nat), yv = .slice a 0 c → ys = [] → ∃ us : List Value, us.length = ys.length * e ∧ VR g.h e ys us ∧ oneCells us ∧ (Builtin.lenOf yv = pure ys.length) ∧
      (∀ m, m ≤ ys.length → ∀ w', (∀ cb off, w.heap[cb]? ≠ none → w'.cell? ⟨cb, off, none⟩ = w.cell? ⟨cb, off, none⟩) → (Builtin.firstCells e m yv).run P w' = .ok (us.take (m * e)).toArray w') := by
    intro a c h1 h2
    subst h2
    refine ⟨[], by simp, by simp [VR], (by intro u hu; simp at hu), by rw [h1]; rfl, ?_⟩
    intro m hm w' _
    have : m = 0 := by simpa using hm
    subst this
    rw [h1]
    cases a with
    | none => simp [Builtin.firstCells]
    | some x => simp [Builtin.firstCells, loadCells, loadCellsFrom]
  cases y with
  | nils t' e' =>
    simp [rowsOf', rowsOf] at h
    simp only [V] at hy
    exact join none 0 hy h
  | zs t' e' =>
    simp [rowsOf', rowsOf] at h
    simp only [V] at hy
    obtain ⟨a, hy⟩ := hy
    exact join a 0 hy h
  | imm e' rows =>
    simp [rowsOf', rowsOf] at h
    subst h
    simp [eszB] at hes
    subst hes
    simp only [V] at hy
    obtain ⟨a, c, rfl, hc, hm, _, hn, hy⟩ := hy
    rcases hy with hy | ⟨cb, off, arr, rfl, hh, hvr⟩
    · subst hy
      exact join a c rfl rfl
    · obtain ⟨t, fz, hheap⟩ := R.him _ _ hh
      have hroom := VR.room _ _ hvr
      have hcell := cellsOf cb arr t fz off (rows.length * e') hheap
      refine ⟨(arr.toList.drop off).take (rows.length * e'), by simp at hroom ⊢; omega, VR.cut _ _ _ hvr (Nat.le_refl _), (VR.flat _ _ hvr).2, rfl, ?_⟩
      exact fromMem cb off c _ (by simp at hroom ⊢; omega) hcell
  | own e' b ver lo n f =>
    simp [eszB] at hes
    subst hes
    simp only [rowsOf'] at h
    obtain ⟨t, rows, z, hb, hl, rfl⟩ := rowsOf_own h
    simp only [V] at hy
    obtain ⟨_, _, _, _, hy⟩ := hy
    obtain ⟨_, hloc⟩ := hy (by rw [ver_some hb]; rfl) _ (by rw [sig_some hb]; rfl)
    obtain ⟨_, hbr⟩ := R.blk _ _ hb
    have hlen : ((rows.drop lo).take n).length = n := by simp; omega
    rcases hloc with ⟨_, ⟨a0, rfl⟩, rfl, rfl⟩ | ⟨rfl, _, a, c, rfl, _, _⟩ | ⟨cb, sz, c, hmb, rfl, hnc, _, _⟩
    · exact join a0 0 rfl (by simp)
    · exact join a c rfl (by simp)
    · rcases hbr with ⟨h0, _⟩ | ⟨cb2, cur, h0, _, _, hheap, hvr⟩
      · rw [hmb] at h0; cases h0
      rw [hmb] at h0
      cases h0
      have hv2 := VR.take n _ _ (VR.drop lo _ _ hvr)
      have hroom := VR.room _ _ hv2
      have hcell := cellsOf cb cur t _ (lo * e') (((rows.drop lo).take n).length * e') hheap
      refine ⟨(cur.toList.drop (lo * e')).take (((rows.drop lo).take n).length * e'), by simp at hroom ⊢; omega, VR.cut _ _ _ hv2 (Nat.le_refl _), (VR.flat _ _ hv2).2, by rw [hlen]; rfl, ?_⟩
      have := fromMem cb (lo * e') c _ (by simp at hroom ⊢; omega) hcell
      rw [hlen] at this ⊢
      exact this
  | vsl b ver off e' n =>
    simp [eszB] at hes
    subst hes
    obtain ⟨t, cs, hb, hl, hsc, rfl⟩ := rowsOf_vsl h
    simp only [V] at hy
    obtain ⟨_, _, _, _, hy⟩ := hy
    obtain ⟨cb, sz, c, hmb, rfl, hnc, _⟩ := hy (by rw [ver_some hb]; rfl) _ (by rw [sig_some hb]; rfl)
    obtain ⟨cb2, cur, h0, _, _, hheap, hvt, hone⟩ := R.blk _ _ hb
    rw [hmb] at h0
    cases h0
    have hvp := scalars_VPL _ _ hsc (VT.take (n * e') _ _ (VT.drop off _ _ hvt))
    have ho : oneCells ((cur.toList.drop off).take (n * e')) := fun u hu => hone u (List.mem_of_mem_drop (List.mem_of_mem_take hu))
    obtain ⟨hvr, hlen⟩ := vslRows_sound n off _ hl hvp ho
    have hcell := cellsOf cb cur t _ off (n * e') hheap
    have hll := VPL.length _ _ hvp
    simp only [List.length_take, List.length_drop] at hll
    have hl2 : ((cur.toList.drop off).take (n * e')).length = n * e' := by simp only [List.length_take, List.length_drop]; omega
    refine ⟨(cur.toList.drop off).take (n * e'), by rw [hlen, hl2], hvr, ho, by rw [hlen]; rfl, ?_⟩
    have := fromMem cb off c _ (by rw [hlen, hl2]) hcell
    rw [hlen] at this ⊢
    exact this
  | str s =>
    simp [eszB] at hes
    subst hes
    simp [rowsOf', rowsOf] at h
    subst h
    simp only [V] at hy
    subst hy
    refine ⟨s.map fun b => .int .u8 b.toNat, by simp, ?_, ?_, by simp [Builtin.lenOf]; rfl, ?_⟩
    · clear fromMem join cellsOf
      induction s with
      | nil => simp [VR]
      | cons b s ih =>
        simp only [List.map_cons, VR]
        refine ⟨rfl, ?_, ?_, by simpa using ih⟩
        · simp [VPL, VP, u8]
        · intro u hu; simp at hu; subst hu; rfl
    · intro u hu
      simp at hu
      obtain ⟨b, _, rfl⟩ := hu
      rfl
    · intro m hm w' _
      simp only [Builtin.firstCells, Sem.run_pure]
      congr 1
      apply Array.ext'
      simp [ByteArray.extract, ByteArray.copySlice]
  | _ => simp [rowsOf', rowsOf] at h

end Go.Wm

set_option linter.unusedVariables false
set_option linter.unusedSimpArgs false
namespace Go.Wm
open Go.RowKit

variable {A : Alike} {P : Program} {B0 : Nat} {w0 w w' : World} {g g' : Sg} {S S' : Sto}

/-- a slice's type and its element's: what append asks of them -/
def appOk (P : Program) (st ut et e bytes : Nat) : Bool :=
  (match P.underlying st with | some (.slice t) => t == et | _ => false) &&
  (match P.underlying ut with | some (.slice _) => true | some .string => true | _ => false) &&
  (match P.info? et with
  | some i => i.size == e && i.bytes == bytes && (match i.zero with | some z => z.cells.size == i.size | none => false)
  | none => false) && (0 < e) && (0 < bytes)

structure AppOk (P : Program) (st ut et e bytes : Nat) : Prop where
  hs : P.underlying st = some (.slice et)
  hu : (∃ t, P.underlying ut = some (.slice t)) ∨ P.underlying ut = some .string
  hi : ∃ i z, P.info? et = some i ∧ i.size = e ∧ i.bytes = bytes ∧ i.zero = some z ∧ z.cells.size = e
  he : 0 < e
  hb : 0 < bytes

theorem appOk.out {st ut et e bytes : Nat} (h : appOk P st ut et e bytes = true) : AppOk P st ut et e bytes := by
  simp only [appOk, Bool.and_eq_true, decide_eq_true_eq] at h
  obtain ⟨⟨⟨⟨h1, h2⟩, h3⟩, h4⟩, h5⟩ := h
  refine ⟨?_, ?_, ?_, h4, h5⟩
  · split at h1
    · rename_i t ht; simp at h1; subst h1; exact ht
    · cases h1
  · split at h2
    · rename_i t ht; exact .inl ⟨_, ht⟩
    · rename_i ht; exact .inr ht
    · cases h2
  · split at h3
    · rename_i i hi
      simp only [Bool.and_eq_true, beq_iff_eq] at h3
      obtain ⟨⟨h6, h7⟩, h8⟩ := h3
      split at h8
      · rename_i z hz
        simp at h8
        exact ⟨i, z, hi, h6, h7, hz, by omega⟩
      · cases h8
    · cases h3

section
variable {st ut et e bytes ty : Nat} (ok : AppOk P st ut et e bytes) {yv : Value} {n : Nat} {us : List Value} (hlen : Builtin.lenOf yv = pure n)
  (hfc : ∀ w', (∀ cb off, w.heap[cb]? ≠ none → w'.cell? ⟨cb, off, none⟩ = w.cell? ⟨cb, off, none⟩) → (Builtin.firstCells e n yv).run P w' = .ok us.toArray w')
include ok hlen hfc

theorem run_append_room1 {cb sLen sCap : Nat} (hroom : sLen + n ≤ sCap) {off : Nat} :
    (Builtin.append_ #[st, ut] ty #[.slice (some ⟨cb, off, none⟩) sLen sCap, yv]).run P w =
      ((storeCells ⟨cb, off + sLen * e, none⟩ us).run P w).andThen fun _ w' => .ok (.slice (some ⟨cb, off, none⟩) (sLen + n) sCap) w' := by
  obtain ⟨i, z, hi, h1, h2, hz, hzs⟩ := ok.hi
  subst h1 h2
  have hf := hfc w (fun _ _ _ => rfl)
  rcases ok.hu with ⟨t, hu⟩ | hu <;>
    simp [Builtin.append_, run_underlying ok.hs, run_underlying hu, sizeOf, typeInfo, hi, hlen, hroom, hf, addr_add, Result.andThen]

theorem run_append_none1 (hn : n = 0) (hus : us = []) {a : Option Addr} :
    (Builtin.append_ #[st, ut] ty #[.slice a 0 0, yv]).run P w = .ok (.slice a 0 0) w := by
  obtain ⟨i, z, hi, h1, h2, hz, hzs⟩ := ok.hi
  subst h1 h2 hn
  have hf := hfc w (fun _ _ _ => rfl)
  subst hus
  rcases ok.hu with ⟨t, hu⟩ | hu <;> cases a <;>
    simp [Builtin.append_, run_underlying ok.hs, run_underlying hu, sizeOf, typeInfo, hi, hlen, hf, Result.andThen, storeCells]

theorem run_append_grow1 {a : Option Addr} {sLen sCap : Nat} {olds : List Value} (hol : ∀ w', (∀ cb off, w.heap[cb]? ≠ none → w'.cell? ⟨cb, off, none⟩ = w.cell? ⟨cb, off, none⟩) → (Builtin.firstCells e sLen (.slice a sLen sCap)).run P w' = .ok olds.toArray w')
    (hg : sCap < sLen + n) (hb : (sLen + n) * bytes ≤ roomB) (h63 : sLen + n ≤ roomB) :
    ∃ z : Value, z.cells.size = e ∧ (Builtin.append_ #[st, ut] ty #[.slice a sLen sCap, yv]).run P w =
      .ok (.slice (some ⟨w.heap.size, 0, none⟩) (sLen + n) (grownCap w (sLen + n) sCap et))
        (w.drew.alloc (.cells (olds.toArray ++ us.toArray ++ Builtin.zeroCells z.cells (grownCap w (sLen + n) sCap et - (sLen + n))) et)) := by
  obtain ⟨i, z, hi, h1, h2, hz, hzs⟩ := ok.hi
  subst h1 h2
  refine ⟨z, hzs, ?_⟩
  have hn : ¬ (sLen + n ≤ sCap) := by omega
  unfold roomB at hb h63
  have h63' : ¬ (9223372036854775807 < ((sLen : Int) + (n : Int))) := by omega
  have hfit := growslice_fits (need := sLen + n) (old := sCap) (bytes := i.bytes) (by omega) hb
  have h48' : ¬ (281474976710656 < Builtin.nextslicecap (sLen + n) sCap * i.bytes) := by omega
  have hf := hfc w.drew (fun _ _ _ => by simp)
  have hfo := hol w.drew (fun _ _ _ => by simp)
  rcases ok.hu with ⟨t, hu⟩ | hu <;>
  · simp [Builtin.append_, run_underlying ok.hs, run_underlying hu, sizeOf, typeInfo, zeroValue, hi, hz, hlen, hn, h63', h48', Question.forced, hf, hfo, newRow, grownCap]
    congr 2
    apply Array.ext'
    simp
end

theorem cells_new {o : Obj} : ∀ cb off, w.heap[cb]? ≠ none → (w.drew.alloc o).cell? ⟨cb, off, none⟩ = w.cell? ⟨cb, off, none⟩ := by
  intro cb off h
  have hlt : cb < w.heap.size := by
    cases hh : w.heap[cb]? with
    | none => exact absurd hh h
    | some x => exact (Array.getElem?_eq_some_iff.1 hh).1
  have : (w.drew.alloc o).heap[cb]? = w.heap[cb]? := heap_alloc_old w.drew o cb hlt
  simp [World.cell?, this]

/-- a row in memory that is new takes a place -/
theorem newRow_rel (R : Rel A B0 w0 g S w) {b et e v n c : Nat} {rows : List (List AV)} {cur : Array Value} (hb : b < S.length) (hv : S.ver b < v) (he : 0 < e)
    (hr : VR g.h e rows cur.toList) (hn : n ≤ c) (hc : c ≤ maxLen) (hsz : c * e = cur.size) (hlen : n = rows.length) :
    ∃ g', Rel A B0 w0 g' (S.set b (.row v et e rows false)) (w.drew.alloc (.cells cur et)) ∧ (∀ k, Le k g S g' (S.set b (.row v et e rows false))) ∧
      V g' (S.set b (.row v et e rows false)) S.length (.own e b v 0 n true) (.slice (some ⟨w.heap.size, 0, none⟩) n c) := by
  have hle := fun k => Le.bump (g := g) (S := S) (x := .row v et e rows false) hb hv (some (w.heap.size, cur.size)) k
  refine ⟨g.put b (some (w.heap.size, cur.size)), ?_, hle, ?_⟩
  · refine R.new (x := .row v et e rows false) hb hv _ (((Below.refl _ _).drew).alloc (Nat.le_refl _) _) (fun cb s h => by cases h; exact Nat.le_refl _) ?_
    refine ⟨he, .inr ⟨w.heap.size, cur, Sg.put_same _ _, R.room, ?_, heap_alloc_new w.drew _, hr⟩⟩
    show g.h w.heap.size = none
    cases hh : g.h w.heap.size with
    | none => rfl
    | some a =>
      obtain ⟨t', fz, h⟩ := R.him _ _ hh
      have := (Array.getElem?_eq_some_iff.1 h).1
      omega
  · simp only [V]
    refine ⟨he, rfl, hb, ?_, ?_⟩
    · rw [ver_set hb]; simp [Blk.ver]
    · intro _ e2 h2
      rw [sig_set hb] at h2
      simp [Blk.sig] at h2
      subst h2
      exact ⟨rfl, .inr (.inr ⟨_, _, c, Sg.put_same _ _, by simp, hn, hc, fun _ => ⟨rfl, hsz⟩⟩)⟩

theorem set_same {b : Nat} {x : Blk} (h : S[b]? = some x) : S.set b x = S := by
  apply List.ext_getElem?
  intro i
  rw [List.getElem?_set]
  split
  · rename_i hi
    subst hi
    split
    · exact h.symm
    · rename_i hlt
      have := (List.getElem?_eq_some_iff.1 h).1
      omega
  · rfl

theorem app_sound (R : Rel A B0 w0 g S w) {st ut et e bytes ty b : Nat} (hok : appOk P st ut et e bytes = true) {x y : AV} {xv yv : Value} (hx : V g S S.length x xv) (hy : V g S S.length y yv) :
    Sound A P B0 w0 g S w (Builtin.append_ #[st, ut] ty #[xv, yv]) (opApp b et e bytes [x, y] S) := by
  have ok := appOk.out hok
  simp only [opApp]
  split
  · exact Sound.none
  rename_i ys hys
  split at hys
  rename_i hes
  case isFalse => cases hys
  obtain ⟨us, hul, hvr, hone, hlen, hfc⟩ := rows_read (P := P) R hy hes ok.he hys
  have hfc' : ∀ w', (∀ cb off, w.heap[cb]? ≠ none → w'.cell? ⟨cb, off, none⟩ = w.cell? ⟨cb, off, none⟩) → (Builtin.firstCells e ys.length yv).run P w' = .ok us.toArray w' := by
    intro w' hw
    have := hfc _ (Nat.le_refl _) w' hw
    rw [← hul, List.take_length] at this
    exact this
  have grown : ∀ (a : Option Addr) (n cap : Nat) (olds : List Value) (rows0 : List (List AV)) (bb v : Nat), bb < S.length → S.ver bb < v →
      (∀ w', (∀ cb off, w.heap[cb]? ≠ none → w'.cell? ⟨cb, off, none⟩ = w.cell? ⟨cb, off, none⟩) → (Builtin.firstCells e n (.slice a n cap)).run P w' = .ok olds.toArray w') →
      VR g.h e rows0 olds → olds.length = rows0.length * e → rows0.length = n → cap < n + ys.length → (n + ys.length) * bytes ≤ roomB → n + ys.length ≤ roomB →
      Sound A P B0 w0 g S w (Builtin.append_ #[st, ut] ty #[.slice a n cap, yv]) (some (.ret (.own e bb v 0 (n + ys.length) true), S.set bb (.row v et e (rows0 ++ ys) false))) := by
    intro a n cap olds rows0 bb v hb hv hol hvr0 hl0 hr0 hcap hby h63
    obtain ⟨z, hzs, hrun⟩ := run_append_grow1 ok hlen hfc' (ty := ty) hol hcap hby h63
    have hge := grownCap_ge w (n + ys.length) cap et
    have hm := grownCap_le_maxLen w (n + ys.length) cap et (by unfold roomB at h63; simp only [maxLen]; omega)
    have hzl := size_zeroCells z.cells (grownCap w (n + ys.length) cap et - (n + ys.length))
    obtain ⟨g', R', hle, hvv⟩ := newRow_rel R (b := bb) (et := et) (e := e) (v := v) (n := n + ys.length) (c := grownCap w (n + ys.length) cap et) (rows := rows0 ++ ys)
      (cur := olds.toArray ++ us.toArray ++ Builtin.zeroCells z.cells (grownCap w (n + ys.length) cap et - (n + ys.length))) hb hv ok.he
      (by
        simp only [Array.toList_append]
        exact VR.pre _ _ _ (VR.append _ _ _ _ hvr0 hl0 hvr)) hge hm
      (by
        simp only [Array.size_append, List.size_toArray, hzl, hzs, hl0, hul, hr0, ← Nat.add_mul]
        congr 1
        omega) (by simp [hr0])
    intro v' S' e'
    cases e'
    exact ⟨_, _, g', hrun, R', by simpa using hvv, hle, by simp⟩
  have nilCase : ∀ (a : Option Addr) (x : AV), V g S S.length x (.slice a 0 0) → Sound A P B0 w0 g S w (Builtin.append_ #[st, ut] ty #[.slice a 0 0, yv]) (appNil b et e bytes x ys S) := by
    intro a x hxx
    unfold appNil
    split
    · rename_i h0
      subst h0
      exact Sound.same R (run_append_none1 ok hlen hfc' rfl (List.eq_nil_of_length_eq_zero (by simpa using hul))) hxx
    · split
      · rename_i hne hc
        have h0 : 0 < ys.length := by cases ys <;> simp_all
        have := grown a 0 0 [] [] b (S.ver b + 1) hc.1 (Nat.lt_succ_self _) (by
          intro w' _
          cases a with
          | none => simp [Builtin.firstCells]
          | some x => simp [Builtin.firstCells, loadCells, loadCellsFrom]) (by simp [VR]) (by simp) rfl (by omega) (by simpa using hc.2.1) (by simpa using hc.2.2)
        simpa using this
      · exact Sound.none
  cases x with
  | nils t' e' =>
    simp only
    split
    · simp only [V] at hx
      subst hx
      exact nilCase none _ (by simp [V])
    · exact Sound.none
  | zs t' e' =>
    simp only
    split
    · have hx0 := hx
      simp only [V] at hx
      obtain ⟨a, rfl⟩ := hx
      exact nilCase a _ hx0
    · exact Sound.none
  | own e' b' ver lo n f =>
    cases lo with
    | succ _ => exact Sound.none
    | zero =>
    cases f with
    | false => exact Sound.none
    | true =>
    simp only
    split
    · rename_i v t' e'' rows hrow
      split
      · rename_i hc
        obtain ⟨rfl, rfl, rfl, rfl, hn, hby, h63⟩ := hc
        have hlt : b' < S.length := (List.getElem?_eq_some_iff.1 hrow).1
        have hver : S.ver b' = v := by rw [ver_some hrow]; rfl
        have hx0 := hx
        simp only [V] at hx
        obtain ⟨_, _, _, _, hx⟩ := hx
        obtain ⟨_, hloc⟩ := hx hver _ (by rw [sig_some hrow]; rfl)
        obtain ⟨_, hbr⟩ := R.blk _ _ hrow
        rcases hloc with ⟨hmn, ⟨a0, rfl⟩, rfl, _⟩ | ⟨_, h, _⟩ | ⟨cb, sz, c, hmb, rfl, hnc, hcm, hful⟩
        · rcases hbr with ⟨_, h0⟩ | ⟨cb, cur, h0, _⟩
          · subst h0
            split
            · rename_i hle
              have hy0 : ys = [] := by simpa using hle
              subst hy0
              have := Sound.same (v := .own e b' v 0 0 true) R (run_append_none1 ok hlen hfc' (ty := ty) rfl (List.eq_nil_of_length_eq_zero (by simpa using hul)) (a := a0)) hx0
              simpa [set_same hrow] using this
            · rename_i hle
              have h0 : 0 < ys.length := by simp at hle; cases ys <;> simp_all
              have := grown a0 0 0 [] [] b' (v + 1) hlt (by rw [hver]; exact Nat.lt_succ_self _) (by
                intro w' _
                cases a0 with
                | none => simp [Builtin.firstCells]
                | some x => simp [Builtin.firstCells, loadCells, loadCellsFrom]) (by simp [VR]) (by simp) rfl (by simpa using h0) hby h63
              simpa using this
          · rw [hmn] at h0; cases h0
        · cases h
        · obtain ⟨_, hce⟩ := hful rfl
          rcases hbr with ⟨h0, _⟩ | ⟨cb2, cur, h0, hB, hh, hheap, hvrow⟩
          · rw [hmb] at h0; cases h0
          rw [hmb] at h0
          cases h0
          have hroom := VR.room _ _ hvrow
          simp only [Array.length_toList] at hroom
          have hrc : rows.length ≤ c := by rw [← hce] at hroom; exact Nat.le_of_mul_le_mul_right hroom ok.he
          have hne : n * e ≤ cur.size := by rw [← hce]; exact Nat.mul_le_mul_right _ (by omega)
          have hold : VR g.h e (rows.take n) (cur.toList.take (n * e)) := VR.cut _ _ _ (VR.take n _ _ hvrow) (by rw [List.length_take, Nat.min_eq_left hn]; exact Nat.le_refl _)
          have holl : (cur.toList.take (n * e)).length = (rows.take n).length * e := by
            rw [List.length_take, List.length_take, Nat.min_eq_left (by simpa using hne), Nat.min_eq_left hn]
          -- written in place
          have inplace : ∀ (v2 : Nat) (rows2 : List (List AV)), S.ver b' ≤ v2 → n + ys.length ≤ c → VR g.h e rows2 (cur.toList.take (n * e) ++ us ++ cur.toList.drop (n * e + us.length)) → n + ys.length ≤ rows2.length →
              Sound A P B0 w0 g S w (Builtin.append_ #[st, ut] ty #[.slice (some ⟨cb, 0 * e, none⟩) n c, yv]) (some (.ret (.own e b' v2 0 (n + ys.length) true), S.set b' (.row v2 et e rows2 false))) := by
            intro v2 rows2 hv2 hroom2 hvr2 hl2 v' S' e'
            cases e'
            have hfit : n * e + us.length ≤ cur.size := by
              rw [hul, ← hce, ← Nat.add_mul]
              exact Nat.mul_le_mul_right _ hroom2
            have hst := run_storeCells_at P cb (n * e) et us 0 cur w hheap (by simpa using hfit) hone
            simp only [Nat.add_zero] at hst
            have hrun := run_append_room1 ok hlen hfc' (ty := ty) hroom2 (cb := cb) (off := 0 * e)
            rw [show 0 * e + n * e = n * e from by simp, hst] at hrun
            have hle : ∀ k, Le k g S g (S.set b' (.row v2 et e rows2 false)) := fun k => Le.turn (x := .row v2 et e rows2 false) hlt hv2 (.inl (by rw [sig_some hrow]; rfl)) k
            have hsz2 : (cur.toList.take (n * e) ++ us ++ cur.toList.drop (n * e + us.length)).length = cur.size := by
              rw [put_length (by simpa using hfit)]; simp
            refine ⟨_, _, g, hrun, ?_, ?_, hle, by simp⟩
            · refine R.write (x := .row v2 et e rows2 false) hlt hv2 (.inl (by rw [sig_some hrow]; rfl)) (cb := cb) ?_ (.inr ⟨by simp [Sto.sig, hrow, Blk.sig], ⟨_, hmb⟩, by simpa using hh, hB⟩) ?_ rfl rfl rfl ?_ ?_
              · intro _ c' s hcs
                rw [hmb] at hcs
                cases hcs
                rfl
              · intro j hj
                exact setRow_other w cb j _ hj
              · simp [World.setRow]
              · refine ⟨ok.he, .inr ⟨cb, _, ?_, hB, by simpa using hh, setRow_heap w cb cur _ et _ hheap, by simpa using hvr2⟩⟩
                rw [hmb]
                simp only [List.size_toArray, hsz2]
            · simp only [V, List.length_set]
              refine ⟨ok.he, rfl, hlt, ?_, ?_⟩
              · rw [ver_set hlt]; simp [Blk.ver]
              · intro _ e2 h2
                rw [sig_set hlt] at h2
                simp [Blk.sig] at h2
                subst h2
                exact ⟨rfl, .inr (.inr ⟨cb, _, c, hmb, rfl, hroom2, hcm, fun _ => ⟨rfl, hce⟩⟩)⟩
          split
          · rename_i hfit
            refine inplace v _ (by omega) (by omega) ?_ (by simp only [List.length_append, List.length_take, List.length_drop]; omega)
            refine VR.append _ _ _ _ (VR.append _ _ _ _ hold holl hvr) (by rw [List.length_append, List.length_append, holl, hul, Nat.add_mul]) ?_
            have := VR.drop (n + ys.length) _ _ hvrow
            rw [hul, ← Nat.add_mul]
            exact this
          · rename_i hfit
            by_cases hcap : n + ys.length ≤ c
            · refine inplace (v + 1) _ (by omega) hcap ?_ (by simp only [List.length_append, List.length_take]; omega)
              exact VR.pre _ _ _ (VR.append _ _ _ _ hold holl hvr)
            · refine grown _ n c (cur.toList.take (n * e)) (rows.take n) b' (v + 1) hlt (by omega) ?_ hold holl (by simp; omega) (by omega) hby h63
              intro w' hw'
              refine run_firstCells_some w' e n ⟨cb, 0 * e, none⟩ n c _ (by simp; omega) fun j u hj => ?_
              rw [addr_add, Nat.zero_mul, Nat.zero_add]
              rw [hw' cb j (by rw [hheap]; simp), cell_row hheap]
              rw [List.getElem?_take] at hj
              split at hj
              · simpa using hj
              · cases hj
      · exact Sound.none
    · exact Sound.none
  | _ => exact Sound.none

end Go.Wm

set_option linter.unusedVariables false
set_option linter.unusedSimpArgs false
namespace Go.Wm
open Go.RowKit

variable {A : Alike} {P : Program} {B0 : Nat} {w0 w w' : World} {g g' : Sg} {S S' : Sto}

theorem fold_putL (off : Nat) : ∀ (vs : List Value) (i : Nat) (cs : Array Value), off + i + vs.length ≤ cs.size →
    ((vs.zipIdx i).foldl (fun (cs : Array Value) (p : Value × Nat) => cs.setIfInBounds (off + p.2) p.1) cs).toList = cs.toList.take (off + i) ++ vs ++ cs.toList.drop (off + i + vs.length)
  | [], i, cs, h => by simp
  | v :: vs, i, cs, h => by
    simp only [List.length_cons] at h
    simp only [List.zipIdx_cons, List.foldl_cons]
    rw [fold_putL off vs (i + 1) _ (by simp; omega)]
    simp only [Array.toList_setIfInBounds, List.length_cons]
    apply List.ext_getElem?
    intro j
    have hlen : (cs.toList.set (off + i) v).length = cs.size := by simp
    by_cases h1 : j < off + i
    · rw [List.append_assoc, List.append_assoc, List.getElem?_append_left (by simp; omega), List.getElem?_append_left (by simp; omega)]
      rw [List.getElem?_take_of_lt (by omega), List.getElem?_take_of_lt (by omega), List.getElem?_set_ne (by omega)]
    · by_cases h2 : j = off + i
      · subst h2
        rw [List.append_assoc, List.append_assoc, List.getElem?_append_left (by simp; omega), List.getElem?_append_right (by simp; omega)]
        rw [List.getElem?_take_of_lt (by omega), List.getElem?_set_self (by simp; omega)]
        simp
        rw [show min (off + i) cs.size = off + i from by omega]
        simp
      · rw [List.append_assoc, List.append_assoc, List.getElem?_append_right (l₁ := List.take (off + (i + 1)) (cs.toList.set (off + i) v)) (by simp; omega), List.getElem?_append_right (l₁ := List.take (off + i) cs.toList) (by simp; omega)]
        simp only [List.length_take, hlen, Array.length_toList]
        rw [show min (off + (i + 1)) cs.size = off + i + 1 from by omega, show min (off + i) cs.size = off + i from by omega]
        obtain ⟨d, rfl⟩ : ∃ d, j = off + i + 1 + d := ⟨j - (off + i + 1), by omega⟩
        rw [show off + i + 1 + d - (off + i + 1) = d from by omega, show off + i + 1 + d - (off + i) = d + 1 from by omega]
        simp only [List.cons_append, List.getElem?_cons_succ]
        by_cases h3 : d < vs.length
        · rw [List.getElem?_append_left h3, List.getElem?_append_left h3]
        · rw [List.getElem?_append_right (by omega), List.getElem?_append_right (by omega)]
          simp only [List.getElem?_drop]
          rw [List.getElem?_set_ne (by omega)]
          congr 1
          omega

theorem fold_put (off : Nat) (vs cs : Array Value) (h : off + vs.size ≤ cs.size) :
    (vs.zipIdx.foldl (fun (cs : Array Value) (p : Value × Nat) => cs.setIfInBounds (off + p.2) p.1) cs).toList = cs.toList.take off ++ vs.toList ++ cs.toList.drop (off + vs.toList.length) := by
  have := fold_putL off vs.toList 0 cs (by simpa using h)
  rw [← Array.foldl_toList]
  simpa [Array.toList_zipIdx] using this

theorem oneCells.of {cs : List AV} {k : Nat} {vs : List Value} (h : oneCells vs) : ∀ u ∈ vs, u.oneCell' = true := h

/-- a struct, or an array, filled part by part -/
theorem fill_sound {k : Nat} (place : Nat → Option (Nat × Nat)) : ∀ (xs : List AV) (is : List Nat) (vs : List Value) (parts : List (Nat × Nat)) (cs cs' : List AV) (cells : Array Value),
    VT g S k cs cells.toList → oneCells cells.toList → VT g S k xs vs → is.length = xs.length → parts.length = xs.length → (∀ (j i : Nat) (p : Nat × Nat), is[j]? = some i → parts[j]? = some p → place i = some p) →
    fillE cs parts xs = some cs' → ∃ cells', Instr.fill place cells (is.zip vs) = some cells' ∧ VT g S k cs' cells'.toList ∧ oneCells cells'.toList
  | [], is, vs, parts, cs, cs', cells, h1, h2, h3, h4, h5, h6, h => by
    simp at h4 h5
    subst h4 h5
    simp only [VT] at h3
    subst h3
    simp [fillE] at h
    subst h
    exact ⟨cells, rfl, h1, h2⟩
  | x :: xs, [], vs, parts, cs, cs', cells, h1, h2, h3, h4, h5, h6, h => by simp at h4
  | x :: xs, i :: is, vs, [], cs, cs', cells, h1, h2, h3, h4, h5, h6, h => by simp at h5
  | x :: xs, i :: is, vs, (off, n) :: parts, cs, cs', cells, h1, h2, h3, h4, h5, h6, h => by
    simp only [VT] at h3
    obtain ⟨v, vs', rfl, hv, hvs⟩ := h3
    simp only [fillE] at h
    split at h
    · rename_i ys hys
      split at h
      · rename_i hc
        obtain ⟨hf1, hf2⟩ := flat_sound hv hys
        have hl := VT.length _ _ hf1
        have hl2 := VT.length _ _ h1
        simp only [Array.length_toList] at hl hl2
        have hplace := h6 0 i (off, n) rfl rfl
        have hfit : off + v.cells.size ≤ cells.size := by omega
        have hput := fold_put off v.cells cells hfit
        obtain ⟨cells', hfill, h7, h8⟩ := fill_sound place xs is vs' parts _ cs' (v.cells.zipIdx.foldl (fun (cs : Array Value) (p : Value × Nat) => cs.setIfInBounds (off + p.2) p.1) cells)
          (by rw [hput]; exact VT.putAt h1 hf1) (by rw [hput]; exact h2.put hf2) hvs (by simpa using h4) (by simpa using h5)
          (fun j i' p hj hp => h6 (j + 1) i' p (by simpa using hj) (by simpa using hp)) h
        refine ⟨cells', ?_, h7, h8⟩
        simp only [List.zip_cons_cons, Instr.fill, hplace]
        have hcond : (v.cells.size ≠ n || decide (off + v.cells.size > cells.size)) = false := by
          simp
          omega
        simp only [hcond]
        exact hfill
      · cases h
    · cases h

theorem VR.mk {H : Nat → Option (Array Value)} {e : Nat} : ∀ (rs : List (List AV)) (vs : List Value), (∀ (i : Nat) (r : List AV), rs[i]? = some r → r.length = e ∧ VPL H r ((vs.drop (i * e)).take e) ∧ oneCells ((vs.drop (i * e)).take e)) → VR H e rs vs
  | [], vs, h => by simp [VR]
  | r :: rs, vs, h => by
    have h0 := h 0 r rfl
    simp only [Nat.zero_mul, List.drop_zero] at h0
    simp only [VR]
    refine ⟨h0.1, h0.2.1, h0.2.2, VR.mk rs _ fun i q hq => ?_⟩
    have := h (i + 1) q (by simpa using hq)
    rw [List.drop_drop]
    rw [Nat.succ_mul, Nat.add_comm] at this
    exact this

/-- cells of zero values, one behind the other -/
theorem zero_rows (z : Array Value) (n i : Nat) (hi : i < n) :
    ((((Array.range (n * z.size)).map (z[· % z.size]!)).toList.drop (i * z.size)).take z.size) = z.toList := by
  apply List.ext_getElem?
  intro j
  have hie : (i + 1) * z.size ≤ n * z.size := Nat.mul_le_mul_right _ (by omega)
  rw [Nat.succ_mul] at hie
  by_cases hj : j < z.size
  · rw [List.getElem?_take_of_lt hj, List.getElem?_drop]
    have : i * z.size + j < n * z.size := by omega
    have hmod : (i * z.size + j) % z.size = j := by
      rw [Nat.mul_comm, Nat.mul_add_mod, Nat.mod_eq_of_lt hj]
    simp [this, hmod, hj]
  · have h1 : z.toList[j]? = none := by simp; omega
    rw [h1]
    simp
    omega

def constsOk : List AV → List Value → Bool
  | [], [] => true
  | x :: xs, v :: vs => constOk x v && v.oneCell' && constsOk xs vs
  | _, _ => false
theorem constsOk.VT {g : Sg} {S : Sto} {k : Nat} : ∀ {xs : List AV} {vs : List Value}, constsOk xs vs = true → VT g S k xs vs ∧ oneCells vs
  | [], [], _ => ⟨by simp [Wm.VT], by intro u hu; simp at hu⟩
  | x :: xs, v :: vs, h => by
    simp only [constsOk, Bool.and_eq_true] at h
    obtain ⟨h1, h2⟩ := constsOk.VT (g := g) (S := S) (k := k) h.2
    refine ⟨by simp only [Wm.VT]; exact ⟨v, vs, rfl, constOk.V h.1.1, h1⟩, ?_⟩
    intro u hu
    rcases List.mem_cons.1 hu with rfl | hu
    · exact h.1.2
    · exact h2 u hu
/-- constants that may stand in rows -/
def AV.noNil : AV → Bool
  | .nils _ _ => false
  | _ => true
theorem constsOk.VPL {H : Nat → Option (Array Value)} : ∀ {xs : List AV} {vs : List Value}, constsOk xs vs = true → xs.all AV.noNil = true → VPL H xs vs ∧ oneCells vs
  | [], [], _, _ => ⟨by simp [Wm.VPL], by intro u hu; simp at hu⟩
  | x :: xs, v :: vs, h, hn => by
    simp only [constsOk, Bool.and_eq_true] at h
    simp only [List.all_cons, Bool.and_eq_true] at hn
    obtain ⟨h1, h2⟩ := constsOk.VPL (H := H) h.2 hn.2
    refine ⟨by
      simp only [Wm.VPL]
      refine ⟨v, vs, rfl, ?_, h1⟩
      have hv : V ⟨H, fun _ => none, fun _ => none, []⟩ [] 0 x v := constOk.V h.1.1
      cases x <;> first | (simp [AV.noNil] at hn; done) | (simp only [V] at hv; simp only [VP]; exact hv) | (have := h.1.1; simp [constOk] at this; done) | (simp [VP]; done), ?_⟩
    intro u hu
    rcases List.mem_cons.1 hu with rfl | hu
    · exact h.1.2
    · exact h2 u hu

end Go.Wm
