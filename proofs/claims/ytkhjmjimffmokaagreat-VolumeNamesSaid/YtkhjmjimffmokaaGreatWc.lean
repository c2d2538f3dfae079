/-
The abstract machine is sound, part 2.
-/
import Derived.Laws.MakeOwn
import Derived.Laws.BytesString
import Derived.Lib.Strings
import Derived.Laws.Small
import Derived.Laws.StructEq
import Derived.ChangeKeysEq
import Derived.MapKept
import Derived.WideMake
import Derived.Laws.RangeString
import Derived.Control
import Derived.Test.YtkhjmjimffmokaaGreatWb

set_option linter.unusedVariables false
set_option linter.unusedSimpArgs false
namespace Go.Wm
open Go.RowKit

variable {A : Alike} {P : Program} {B0 : Nat} {w0 w w' : World} {g g' : Sg} {S S' : Sto}

/-- a type's zero value, by its cells -/
def zeroOk (P : Program) (t : TypeId) (zero : List AV) : Bool :=
  match P.info? t with
  | some i => match i.zero with
    | some z => constsOk zero z.cells.toList
    | none => false
  | none => false
theorem zeroOk.out {t : TypeId} {zero : List AV} (h : zeroOk P t zero = true) : ∃ i z, P.info? t = some i ∧ i.zero = some z ∧ constsOk zero z.cells.toList = true := by
  unfold zeroOk at h
  split at h
  · rename_i i hi
    split at h
    · rename_i z hz
      exact ⟨i, z, hi, hz, h⟩
    · cases h
  · cases h
theorem run_zeroValue {t : TypeId} {i : TypeInfo} {z : Value} (hi : P.info? t = some i) (hz : i.zero = some z) (w : World) : (zeroValue t).run P w = .ok z w := by
  simp [zeroValue, run_typeInfo hi, Result.andThen, hz]

theorem alloc_sound (R : Rel A B0 w0 g S w) {b t : Nat} {zero : List AV} (hok : zeroOk P t zero = true) :
    Sound A P B0 w0 g S w (Instr.alloc t true (.tuple #[])) (opAlloc b t zero S) := by
  obtain ⟨i, z, hi, hz, hc⟩ := zeroOk.out hok
  obtain ⟨h1, h2⟩ := constsOk.VT (g := g) (S := S) (k := S.length) hc
  unfold opAlloc
  split
  · rename_i hb
    intro v S' e
    obtain ⟨cv, w', g', hr, h3⟩ := newVar_sound (P := P) R (b := b) (t := t) hb h1 h2 v S' e
    refine ⟨cv, w', g', ?_, h3⟩
    rw [← hr]
    simp [Instr.alloc, run_zeroValue hi hz, Result.andThen, newVar]
  · exact Sound.none

theorem box_sound (R : Rel A B0 w0 g S w) {b t : Nat} {x : AV} {xv : Value} (hx : V g S S.length x xv) :
    Sound A P B0 w0 g S w (Instr.box t xv) (opBox b t [x] S) := by
  simp only [opBox]
  split
  · rename_i cs hcs
    split
    · rename_i hb
      obtain ⟨h1, h2⟩ := flat_sound hx hcs
      intro v S' e
      obtain ⟨cv, w', g', hr, h3⟩ := newVar_sound (P := P) R (b := b) (t := t) hb h1 h2 v S' e
      exact ⟨cv, w', g', by rw [← hr]; rfl, h3⟩
    · exact Sound.none
  · exact Sound.none

/-- the parts of a struct's, or an array's, literal -/
def partsOk (P : Program) (t : TypeId) (is : List Nat) (parts : List (Nat × Nat)) : Bool :=
  match P.underlying t with
  | some (.struct fs) => is.length == parts.length && (is.zip parts).all fun p => match fs[p.1]? with
    | some f => f.offset == p.2.1 && szB P f.type == some p.2.2
    | none => false
  | some (.array _ e) => is.length == parts.length && (is.zip parts).all fun p => match szB P e with
    | some n => p.2.1 == p.1 * n && p.2.2 == n
    | none => false
  | _ => false

theorem run_places (w : World) : ∀ fs : List Field, fs.all (fun f => (szB P f.type).isSome) = true →
    (fs.mapM (m := Sem) fun f => do pure (f.offset, ← sizeOf f.type)).run P w = .ok (fs.map fun f => (f.offset, (szB P f.type).getD 0)) w
  | [], _ => by simp
  | f :: fs, h => by
    simp only [List.all_cons, Bool.and_eq_true] at h
    obtain ⟨n, hn⟩ := Option.isSome_iff_exists.1 h.1
    simp only [List.mapM_cons, Sem.run_bind, run_sizeOf hn, Result.andThen, Sem.run_pure, run_places w fs h.2]
    simp [hn]

theorem build_sound (R : Rel A B0 w0 g S w) {t : Nat} {zero : List AV} {is : List Nat} {parts : List (Nat × Nat)} (hok : zeroOk P t zero = true) (hp : partsOk P t is parts = true)
    (hfs : ∀ fs, P.underlying t = some (.struct fs) → fs.all (fun f => (szB P f.type).isSome) = true)
    (hel : ∀ n e, P.underlying t = some (.array n e) → (szB P e).isSome = true)
    {xs : List AV} {vs : List Value} (hl : is.length = xs.length) (hx : VT g S S.length xs vs) :
    Sound A P B0 w0 g S w (Instr.build t (is.zip vs).toArray) (opBuild zero parts xs S) := by
  obtain ⟨i, z, hi, hz, hc⟩ := zeroOk.out hok
  obtain ⟨h1, h2⟩ := constsOk.VT (g := g) (S := S) (k := S.length) hc
  unfold opBuild
  split
  · rename_i cs hcs
    unfold partsOk at hp
    split at hp
    · rename_i fs hu
      simp only [Bool.and_eq_true, beq_iff_eq, List.all_eq_true] at hp
      obtain ⟨hp1, hp2⟩ := hp
      have hall := hfs fs hu
      have hplaces : ∃ places : Array (Nat × Nat), (fs.mapM (m := Sem) fun f => do pure (f.offset, ← sizeOf f.type)).run P w = .ok places w ∧
          ∀ (j : Nat) (f : Field), fs[j]? = some f → places[j]? = some (f.offset, (szB P f.type).getD 0) := by
        refine ⟨(fs.toList.map fun f => (f.offset, (szB P f.type).getD 0)).toArray, ?_, fun j f hj => by simp [hj]⟩
        have := run_places (P := P) w fs.toList (by simpa [Array.all_toList] using hall)
        rw [Array.mapM_eq_mapM_toList]
        simp only [Sem.run_map, this]
        rfl
      obtain ⟨places, hrun, hpl⟩ := hplaces
      obtain ⟨cells', hfill, h3, h4⟩ := fill_sound (fun i => places[i]?) xs is vs parts zero cs z.cells h1 h2 hx hl (by omega) (fun j i p hj hq => by
        have := hp2 (i, p) (by
          refine List.mem_iff_getElem?.2 ⟨j, ?_⟩
          simp [List.getElem?_zip_eq_some, hj, hq])
        simp only at this
        split at this
        · rename_i f hf
          simp only [Bool.and_eq_true, beq_iff_eq] at this
          rw [hpl _ _ hf, this.2, this.1]
          rfl
        · cases this) hcs
      refine Sound.same R (cv := .agg cells') ?_ ?_
      · simp only [Instr.build, Sem.run_bind, run_zeroValue hi hz, Result.andThen, run_underlying hu, hrun]
        simp [hfill]
      · simp only [V]
        exact ⟨cells'.toList, by simp, h3, h4⟩
    · rename_i n e hu
      simp only [Bool.and_eq_true, beq_iff_eq, List.all_eq_true] at hp
      obtain ⟨hp1, hp2⟩ := hp
      by_cases hnil : is = []
      · subst hnil
        simp only [List.length_nil] at hl hp1
        have hxs : xs = [] := List.length_eq_zero_iff.1 hl.symm
        have hps : parts = [] := List.length_eq_zero_iff.1 hp1.symm
        subst hxs hps
        simp [fillE] at hcs
        subst hcs
        obtain ⟨m, hm⟩ := Option.isSome_iff_exists.1 (hel n e hu)
        refine Sound.same R (cv := .agg z.cells) ?_ ?_
        · simp [Instr.build, Sem.run_bind, run_zeroValue hi hz, Result.andThen, run_underlying hu, run_sizeOf hm, Instr.fill]
        · simp only [V]
          exact ⟨z.cells.toList, by simp, h1, h2⟩
      · obtain ⟨m, hm⟩ := Option.isSome_iff_exists.1 (hel n e hu)
        obtain ⟨cells', hfill, h3, h4⟩ := fill_sound (fun i => some (i * m, m)) xs is vs parts zero cs z.cells h1 h2 hx hl (by omega) (fun j i p hj hq => by
          have := hp2 (i, p) (by
            refine List.mem_iff_getElem?.2 ⟨j, ?_⟩
            simp [List.getElem?_zip_eq_some, hj, hq])
          simp only [hm, Bool.and_eq_true, beq_iff_eq] at this
          rw [← this.1, ← this.2]) hcs
        refine Sound.same R (cv := .agg cells') ?_ ?_
        · simp only [Instr.build, Sem.run_bind, run_zeroValue hi hz, Result.andThen, run_underlying hu, run_sizeOf hm]
          simp [hfill]
        · simp only [V]
          exact ⟨cells'.toList, by simp, h3, h4⟩
    · cases hp
  · exact Sound.none

end Go.Wm

set_option linter.unusedVariables false
set_option linter.unusedSimpArgs false
namespace Go.Wm
open Go.RowKit

variable {A : Alike} {P : Program} {B0 : Nat} {w0 w w' : World} {g g' : Sg} {S S' : Sto}

/-- a row in memory that is new takes a place -/
theorem madeRow_rel (R : Rel A B0 w0 g S w) {b et e v n c : Nat} {rows : List (List AV)} {cur : Array Value} (hb : b < S.length) (hv : S.ver b < v) (he : 0 < e)
    (hr : VR g.h e rows cur.toList) (hn : n ≤ c) (hc : c ≤ maxLen) (hsz : c * e = cur.size) :
    ∃ g', Rel A B0 w0 g' (S.set b (.row v et e rows false)) (w.alloc (.cells cur et)) ∧ (∀ k, Le k g S g' (S.set b (.row v et e rows false))) ∧
      V g' (S.set b (.row v et e rows false)) S.length (.own e b v 0 n true) (.slice (some ⟨w.heap.size, 0, none⟩) n c) := by
  have hle := fun k => Le.bump (g := g) (S := S) (x := .row v et e rows false) hb hv (some (w.heap.size, cur.size)) k
  refine ⟨g.put b (some (w.heap.size, cur.size)), ?_, hle, ?_⟩
  · refine R.new (x := .row v et e rows false) hb hv _ (alloc_push w _) (fun cb s h => by cases h; exact Nat.le_refl _) ?_
    refine ⟨he, .inr ⟨w.heap.size, cur, Sg.put_same _ _, R.room, ?_, heap_alloc_new w _, hr⟩⟩
    show g.h w.heap.size = none
    cases hh : g.h w.heap.size with
    | none => rfl
    | some a =>
      obtain ⟨t', fz, h⟩ := R.him _ _ hh
      have := (Array.getElem?_eq_some_iff.1 h).1
      omega
  · simp only [V]
    refine ⟨he, rfl, hb, ?_, ?_⟩
    · rw [ver_set hb]; simp [Blk.ver]
    · intro _ e2 h2
      rw [sig_set hb] at h2
      simp [Blk.sig] at h2
      subst h2
      exact ⟨rfl, .inr (.inr ⟨_, _, c, Sg.put_same _ _, by simp, hn, hc, fun _ => ⟨rfl, hsz⟩⟩)⟩

/-- a slice's type, its element's, and the zero row -/
def rowOk (P : Program) (st et e bytes : Nat) (zero : List AV) : Bool :=
  (match P.underlying st with | some (.slice t) => t == et | _ => false) &&
  (match P.info? et with
  | some i => i.size == e && i.bytes == bytes && (match i.zero with | some z => z.cells.size == e && constsOk zero z.cells.toList | none => false)
  | none => false) && (0 < e) && zero.all AV.noNil

structure RowOk (P : Program) (st et e bytes : Nat) (zero : List AV) : Prop where
  hs : P.underlying st = some (.slice et)
  hi : ∃ i z, P.info? et = some i ∧ i.size = e ∧ i.bytes = bytes ∧ i.zero = some z ∧ z.cells.size = e ∧ constsOk zero z.cells.toList = true
  he : 0 < e
  hz : zero.all AV.noNil = true

theorem rowOk.out {st et e bytes : Nat} {zero : List AV} (h : rowOk P st et e bytes zero = true) : RowOk P st et e bytes zero := by
  simp only [rowOk, Bool.and_eq_true, decide_eq_true_eq] at h
  obtain ⟨⟨⟨h1, h3⟩, h4⟩, h5⟩ := h
  refine ⟨?_, ?_, h4, h5⟩
  · split at h1
    · rename_i t ht; simp at h1; subst h1; exact ht
    · cases h1
  · split at h3
    · rename_i i hi
      simp only [Bool.and_eq_true, beq_iff_eq] at h3
      obtain ⟨⟨h6, h7⟩, h8⟩ := h3
      split at h8
      · rename_i z hz
        simp only [Bool.and_eq_true, beq_iff_eq] at h8
        exact ⟨i, z, hi, h6, h7, hz, h8.1, h8.2⟩
      · cases h8
    · cases h3

/-- rows of zeros -/
theorem zeros_VR {H : Nat → Option (Array Value)} {e n : Nat} {zero : List AV} {z : Array Value} (hz : z.size = e) (hc : constsOk zero z.toList = true) (hn : zero.all AV.noNil = true) :
    VR H e (List.replicate n zero) ((Array.range (n * z.size)).map (z[· % z.size]!)).toList := by
  obtain ⟨h1, h2⟩ := constsOk.VPL (H := H) hc hn
  have hl := VPL.length _ _ h1
  refine VR.mk _ _ fun i r hr => ?_
  obtain ⟨hi, rfl⟩ := List.getElem?_eq_some_iff.1 hr
  simp only [List.length_replicate] at hi
  have := zero_rows z n i hi
  rw [hz] at this ⊢
  simp only [List.getElem_replicate]
  rw [this]
  exact ⟨by simpa [hz] using hl.symm, h1, h2⟩

theorem mkslice_sound (R : Rel A B0 w0 g S w) {b st et e bytes : Nat} {zero : List AV} (hok : rowOk P st et e bytes zero = true) {x y : AV} {xv yv : Value}
    (hx : V g S S.length x xv) (hy : V g S S.length y yv) : Sound A P B0 w0 g S w (Instr.makeSlice st xv yv) (opMkslice b et e bytes zero [x, y] S) := by
  obtain ⟨hs, ⟨i, z, hi, rfl, rfl, hz, hzs, hc⟩, he, hzn⟩ := rowOk.out hok
  cases x <;> cases y <;> first | exact Sound.none | skip
  rename_i k1 n k2 c
  simp only [opMkslice]
  split
  · rename_i h
    obtain ⟨rfl, h0, hby, h63, hb⟩ := h
    simp only [V] at hx hy
    subst hx hy
    obtain ⟨m, rfl⟩ := Int.eq_ofNat_of_zero_le h0
    simp only [Int.toNat_natCast] at hby h63
    unfold roomB at hby h63
    have hb2 : (i.bytes : Int) * (m : Int) ≤ 281474976710656 := by
      have : ((i.bytes * m : Nat) : Int) ≤ 281474976710656 := by rw [Nat.mul_comm]; omega
      rwa [Int.natCast_mul] at this
    have hrun := run_make (P := P) w st et i z hs hi hz k1 k2 m m h0 (Int.le_refl _) hb2 (by omega)
    simp only [Int.toNat_natCast] at hrun
    obtain ⟨g', R', hle, hv⟩ := madeRow_rel R (b := b) (et := et) (e := i.size) (v := S.ver b + 1) (n := m) (c := m) (rows := List.replicate m zero) (cur := madeCells z.cells (m * i.size)) hb (Nat.lt_succ_self _) he
      (by
        have := zeros_VR (H := g.h) (n := m) hzs hc hzn
        rw [hzs] at this
        simpa [madeCells, hzs] using this) (Nat.le_refl _) (by simp only [maxLen]; omega) (by rw [size_madeCells])
    intro v' S' e'
    simp only [Int.toNat_natCast] at e'
    cases e'
    exact ⟨_, _, g', hrun, R', by simpa using hv, hle, by simp⟩
  · exact Sound.none

/-- a row, filled -/
theorem fillR_sound {e : Nat} : ∀ (xs : List AV) (is : List Nat) (vs : List Value) (rows rows' : List (List AV)) (g : Sg) (S S1 : Sto) (cells : Array Value),
    Rel A B0 w0 g S w → VR g.h e rows cells.toList → cells.size = rows.length * e → VT g S S.length xs vs → is.length = xs.length → fillR e rows S is xs = some (rows', S1) →
    ∃ g' cells', Instr.fill (fun i => some (i * e, e)) cells (is.zip vs) = some cells' ∧ Rel A B0 w0 g' S1 w ∧ (∀ k, Le k g S g' S1) ∧ S1.length = S.length ∧
      VR g'.h e rows' cells'.toList ∧ cells'.size = cells.size
  | [], is, vs, rows, rows', g, S, S1, cells, R, h1, h2, h3, h4, h => by
    have : is = [] := List.length_eq_zero_iff.1 h4
    subst this
    simp only [fillR] at h
    cases h
    exact ⟨g, cells, by simp [Instr.fill], R, fun k => Le.refl _ _ _, rfl, h1, rfl⟩
  | x :: xs, [], vs, rows, rows', g, S, S1, cells, R, h1, h2, h3, h4, h => by simp at h4
  | x :: xs, i :: is, vs, rows, rows', g, S, S1, cells, R, h1, h2, h3, h4, h => by
    simp only [VT] at h3
    obtain ⟨v, vs', rfl, hv, hvs⟩ := h3
    simp only [fillR] at h
    split at h
    · rename_i cs hcs
      obtain ⟨hf1, hf2⟩ := flat_sound hv hcs
      split at h
      · rename_i ys Sa hp
        obtain ⟨ga, Ra, la, na, va⟩ := pureL_sound cs R hf1 hp
        split at h
        · rename_i hc
          obtain ⟨hy, hi⟩ := hc
          have hl := VPL.length _ _ va
          simp only [Array.length_toList] at hl
          have hie : (i + 1) * e ≤ rows.length * e := Nat.mul_le_mul_right _ (by omega)
          rw [Nat.succ_mul] at hie
          have hfit : i * e + v.cells.size ≤ cells.size := by omega
          have hput := fold_put (i * e) v.cells cells hfit
          have hsz : (v.cells.zipIdx.foldl (fun (cs : Array Value) (p : Value × Nat) => cs.setIfInBounds (i * e + p.2) p.1) cells).size = cells.size := by
            have := congrArg List.length hput
            rw [put_length (by simpa using hfit)] at this
            simpa using this
          obtain ⟨gb, cells', hfill, Rb, lb, nb, h7, h8⟩ := fillR_sound xs is vs' _ rows' ga Sa S1 (v.cells.zipIdx.foldl (fun (cs : Array Value) (p : Value × Nat) => cs.setIfInBounds (i * e + p.2) p.1) cells)
            Ra (by
              rw [hput, show v.cells.toList.length = e from by simp; omega]
              exact VR.set _ _ _ _ _ (VR.mono (la 0).h _ _ _ h1) hi hy va (by simp; omega) hf2) (by rw [hsz, h2]; simp) (by rw [na]; exact VT.mono (la _) _ _ hvs) (by simpa using h4) h
          refine ⟨gb, cells', ?_, Rb, fun k => (la k).trans (lb k), nb.trans na, h7, h8.trans hsz⟩
          simp only [List.zip_cons_cons, Instr.fill]
          have hcond : (v.cells.size ≠ e || decide (i * e + v.cells.size > cells.size)) = false := by
            simp
            omega
          simp only [hcond]
          exact hfill
        · cases h
      · cases h
    · cases h

theorem bslice_sound (R : Rel A B0 w0 g S w) {b st et e bytes n : Nat} {zero : List AV} {is : List Nat} (hok : rowOk P st et e bytes zero = true) (hn : n * e ≤ 2 ^ 24)
    {xs : List AV} {vs : List Value} (hl : is.length = xs.length) (hx : VT g S S.length xs vs) :
    Sound A P B0 w0 g S w (Instr.buildSlice st n (is.zip vs).toArray) (opBslice b et e zero n is xs S) := by
  obtain ⟨hs, ⟨i, z, hi, rfl, rfl, hz, hzs, hc⟩, he, hzn⟩ := rowOk.out hok
  simp only [opBslice]
  split
  · rename_i rows S1 hf
    have hz0 := zeros_VR (H := g.h) (n := n) hzs hc hzn
    obtain ⟨ga, cells', hfill, Ra, la, na, h1, h2⟩ := fillR_sound xs is vs (List.replicate n zero) rows g S S1 _ R hz0 (by simp [hzs]) hx hl hf
    split
    · rename_i hb
      obtain ⟨g', R', hle, hv⟩ := madeRow_rel Ra (b := b) (et := et) (e := i.size) (v := S1.ver b + 1) (n := n) (c := n) (rows := rows) (cur := cells') hb (Nat.lt_succ_self _) he h1 (Nat.le_refl _)
        (by
          have : n ≤ n * i.size := Nat.le_mul_of_pos_right _ he
          simp only [maxLen]
          omega) (by rw [h2]; simp [hzs])
      intro v' S' e'
      cases e'
      refine ⟨.slice (some ⟨w.heap.size, 0, none⟩) n n, w.alloc (.cells cells' et), g', ?_, R', by simpa using hv, fun k => (la k).trans (hle k), by simpa using na⟩
      have hgt : ¬ (n * i.size > 2 ^ 24) := by omega
      have hsz : (sizeOf et).run P w = .ok i.size w := run_sizeOf (by simp [szB, hi]) w
      by_cases h0 : n * i.size = 0
      · have hn0 : n = 0 := by
          rcases Nat.mul_eq_zero.1 h0 with h | h <;> omega
        subst hn0
        have hfill' : Instr.fill (fun i_1 => some (i_1 * i.size, i.size)) #[] (is.zip vs) = some cells' := by
          rw [← hfill]
          congr 1
          simp [Array.range_zero']
        simp [Instr.buildSlice, run_underlying hs, Result.andThen, hsz, hfill', newRow, Array.range_zero']
      · simp only [hzs] at hfill
        simp [Instr.buildSlice, run_underlying hs, Result.andThen, hsz, run_zeroValue hi hz, h0, hgt, hzs, hfill, newRow]
    · exact Sound.none
  · exact Sound.none

end Go.Wm

set_option linter.unusedVariables false
set_option linter.unusedSimpArgs false
namespace Go.Wm
open Go.RowKit

variable {A : Alike} {P : Program} {B0 : Nat} {w0 w w' : World} {g g' : Sg} {S S' : Sto}

/-- cells of a row of the call's own are written, from one row's begin on -/
theorem putRow_rel (R : Rel A B0 w0 g S w) {b v t e lo cb : Nat} {rows rows2 : List (List AV)} {us : List Value} {cur : Array Value} (hrow : S[b]? = some (.row v t e rows false))
    (he : 0 < e) (hm : g.m b = some (cb, cur.size)) (hB : B0 ≤ cb) (hh : g.h cb = none) (hheap : w.heap[cb]? = some (.cells cur t (0, 0)))
    (hfit : lo * e + us.length ≤ cur.size) (hone : oneCells us)
    (hvr : VR g.h e rows2 (cur.toList.take (lo * e) ++ us ++ cur.toList.drop (lo * e + us.length))) :
    ∃ w', (storeCells ⟨cb, lo * e, none⟩ us).run P w = .ok () w' ∧ Rel A B0 w0 g (S.set b (.row v t e rows2 false)) w' ∧ (∀ k, Le k g S g (S.set b (.row v t e rows2 false))) := by
  have hlt : b < S.length := (List.getElem?_eq_some_iff.1 hrow).1
  have hver : S.ver b = v := by rw [ver_some hrow]; rfl
  have hst := run_storeCells_at P cb (lo * e) t us 0 cur w hheap (by simpa using hfit) hone
  simp only [Nat.add_zero] at hst
  have hle : ∀ k, Le k g S g (S.set b (.row v t e rows2 false)) := fun k => Le.turn (x := .row v t e rows2 false) hlt (by rw [hver]; exact Nat.le_refl _) (.inl (by rw [sig_some hrow]; rfl)) k
  have hsz2 : (cur.toList.take (lo * e) ++ us ++ cur.toList.drop (lo * e + us.length)).length = cur.size := by
    rw [put_length (by simpa using hfit)]; simp
  refine ⟨_, hst, ?_, hle⟩
  refine R.write (x := .row v t e rows2 false) hlt (by rw [hver]; exact Nat.le_refl _) (.inl (by rw [sig_some hrow]; rfl)) (cb := cb) ?_ (.inr ⟨by simp [Sto.sig, hrow, Blk.sig], ⟨_, hm⟩, hh, hB⟩) ?_ rfl rfl rfl ?_ ?_
  · intro _ c' s hcs
    rw [hm] at hcs
    cases hcs
    rfl
  · intro j hj
    exact setRow_other w cb j _ hj
  · simp [World.setRow]
  · refine ⟨he, .inr ⟨cb, _, ?_, hB, by simpa using hh, setRow_heap w cb cur _ t _ hheap, by simpa using hvr⟩⟩
    rw [hm]
    simp only [List.size_toArray, hsz2]

/-- where an own slice's row lies -/
theorem own_at (R : Rel A B0 w0 g S w) {e b ver lo n t e2 : Nat} {f : Bool} {rows : List (List AV)} {v : Value} (hv : V g S S.length (.own e b ver lo n f) v) (hrow : S[b]? = some (.row ver t e2 rows false)) :
    e2 = e ∧ ((∃ a c, v = .slice a 0 c ∧ n = 0 ∧ (a = none → c = 0)) ∨ ∃ cb, ∃ cur : Array Value, ∃ c, g.m b = some (cb, cur.size) ∧ B0 ≤ cb ∧ g.h cb = none ∧ w.heap[cb]? = some (.cells cur t (0, 0)) ∧ VR g.h e rows cur.toList ∧ v = .slice (some ⟨cb, lo * e, none⟩) n c ∧ n ≤ c ∧ c ≤ maxLen) := by
  simp only [V] at hv
  obtain ⟨_, _, _, _, hv⟩ := hv
  obtain ⟨h2, hloc⟩ := hv (by rw [ver_some hrow]; rfl) e2 (by rw [sig_some hrow]; rfl)
  subst h2
  refine ⟨rfl, ?_⟩
  obtain ⟨_, hbr⟩ := R.blk _ _ hrow
  rcases hloc with ⟨_, ⟨a0, rfl⟩, rfl, _⟩ | ⟨rfl, _, a, c, rfl, _, hac⟩ | ⟨cb, sz, c, hm, rfl, hnc, hcm, _⟩
  · exact .inl ⟨a0, 0, rfl, rfl, fun _ => rfl⟩
  · exact .inl ⟨a, c, rfl, rfl, hac⟩
  · rcases hbr with ⟨h0, _⟩ | ⟨cb2, cur, h0, hB, hh, hheap, hvrow⟩
    · rw [hm] at h0; cases h0
    rw [hm] at h0
    cases h0
    exact .inr ⟨cb, cur, c, hm, hB, by simpa using hh, hheap, hvrow, rfl, hnc, hcm⟩

def sliceOf (P : Program) (st : TypeId) (e : Nat) : Bool :=
  match P.underlying st with
  | some (.slice t) => szB P t == some e && 0 < e
  | _ => false
theorem sliceOf.out {st : TypeId} {e : Nat} (h : sliceOf P st e = true) : ∃ t, P.underlying st = some (.slice t) ∧ szB P t = some e ∧ 0 < e := by
  unfold sliceOf at h
  split at h
  · rename_i t ht
    simp only [Bool.and_eq_true, beq_iff_eq, decide_eq_true_eq] at h
    exact ⟨t, ht, h.1, h.2⟩
  · cases h

theorem copy_sound (R : Rel A B0 w0 g S w) {st ut ty : TypeId} {e : Nat} (hok : sliceOf P st e = true) {x y : AV} {xv yv : Value} (hx : V g S S.length x xv) (hy : V g S S.length y yv) :
    Sound A P B0 w0 g S w (Builtin.copy_ #[st, ut] ty #[xv, yv]) (opCopy e [x, y] S) := by
  obtain ⟨et, hs, hsz, he⟩ := sliceOf.out hok
  cases x with
  | own e' b ver lo n f => ?_
  | _ => exact Sound.none
  cases lo with
  | succ _ => exact Sound.none
  | zero => ?_
  simp only [opCopy]
  split
  rotate_left
  · exact Sound.none
  rename_i ys v t e2 rows hys hrow
  split at hys
  rotate_left
  · cases hys
  rename_i hes
  split
  rotate_left
  · exact Sound.none
  rename_i hc
  obtain ⟨rfl, rfl, rfl, hn⟩ := hc
  obtain ⟨us, hul, hvr, hone, hlen, hfc⟩ := rows_read (P := P) R hy hes he hys
  have hf := hfc (min ys.length n) (Nat.min_le_left _ _) w (fun _ _ _ => rfl)
  obtain ⟨_, hat⟩ := own_at R hx hrow
  have hver : S.ver b = v := by rw [ver_some hrow]; rfl
  have hlt : b < S.length := (List.getElem?_eq_some_iff.1 hrow).1
  rcases hat with ⟨a, c, rfl, rfl, hac⟩ | ⟨cb, cur, c, hm, hB, hh, hheap, hvrow, rfl, hnc, hcm⟩
  · simp only [Nat.min_zero, List.take_zero, List.drop_zero, List.nil_append, set_same hrow]
    refine Sound.same R (cv := .int .i64 0) ?_ (by simp [V]; try omega)
    simp only [Nat.min_zero, Nat.zero_mul, List.take_zero] at hf
    cases a <;> simp [Builtin.copy_, run_underlying hs, hlen, Result.andThen, run_sizeOf hsz, hf, storeCells, goInt]
  · have hroom := VR.room _ _ hvrow
    simp only [Array.length_toList] at hroom
    have hml : min ys.length n * e ≤ us.length := by rw [hul]; exact Nat.mul_le_mul_right _ (Nat.min_le_left _ _)
    have hmr : min ys.length n * e ≤ rows.length * e := Nat.mul_le_mul_right _ (by omega)
    have htl : (us.take (min ys.length n * e)).length = min ys.length n * e := by simp; omega
    obtain ⟨w', hst, R', hle⟩ := putRow_rel (P := P) R (lo := 0) (us := us.take (min ys.length n * e)) (rows2 := ys.take n ++ rows.drop (min ys.length n)) hrow he hm hB hh hheap (by rw [htl]; omega)
      (fun u hu => hone u (List.mem_of_mem_take hu)) (by
        simp only [Nat.zero_mul, List.take_zero, List.nil_append, Nat.zero_add]
        rw [htl]
        have hyt : ys.take n = ys.take (min ys.length n) := by
          rw [List.take_eq_take_iff]
          omega
        rw [hyt]
        refine VR.append _ _ _ _ (VR.cut _ _ _ (VR.take _ _ _ hvr) ?_) ?_ (VR.drop _ _ _ hvrow)
        · rw [List.length_take]
          exact Nat.mul_le_mul_right _ (by omega)
        · rw [htl, List.length_take]
          congr 1
          omega)
    intro v' S' e'
    cases e'
    refine ⟨.int .i64 ((min ys.length n : Nat) : Int), w', g, ?_, R', by simp only [V, Value.int.injEq, true_and]; omega, hle, by simp⟩
    have hnm : Nat.min ys.length n = min ys.length n := rfl
    simp only [Nat.zero_mul] at hst
    simp [Builtin.copy_, run_underlying hs, hlen, Result.andThen, run_sizeOf hsz, hf, hst, goInt, hnm]

theorem zeroCells_eq (z : Array Value) (n : Nat) : Builtin.zeroCells z n = (Array.range (n * z.size)).map (z[· % z.size]!) := rfl

theorem clear_sound (R : Rel A B0 w0 g S w) {st et ty : TypeId} {e bytes : Nat} {zero : List AV} (hok : rowOk P st et e bytes zero = true) {x : AV} {xv : Value} (hx : V g S S.length x xv) :
    Sound A P B0 w0 g S w (Builtin.clear_ #[st] ty #[xv]) (opClear zero [x] S) := by
  obtain ⟨hs, ⟨i, z, hi, rfl, rfl, hz, hzs, hc⟩, he, hzn⟩ := rowOk.out hok
  cases x with
  | own e' b ver lo n f => ?_
  | _ => exact Sound.none
  intro v' S' h
  simp only [opClear] at h
  split at h
  rotate_left
  · cases h
  rename_i v t e2 rows hrow
  split at h
  rotate_left
  · cases h
  rename_i hcc
  obtain ⟨rfl, hn, hzl0⟩ := hcc
  cases h
  have hzl1 : zero.length = i.size := by
    have := VPL.length _ _ (constsOk.VPL (H := g.h) hc hzn).1
    simp at this
    omega
  rw [hzl1] at hzl0
  subst hzl0
  obtain ⟨rfl, hat⟩ := own_at R hx hrow
  rcases hat with ⟨a, c, rfl, rfl, hac⟩ | ⟨cb, cur, c, hm, hB, hh, hheap, hvrow, rfl, hnc, hcm⟩
  · simp only [List.replicate_zero, List.append_nil, Nat.add_zero, List.take_append_drop, set_same hrow]
    refine ⟨.tuple #[], w, g, ?_, R, by simp [V], fun k => Le.refl _ _ _, by simp⟩
    cases a <;> simp [Builtin.clear_, run_underlying hs, Result.andThen]
  · by_cases hn0 : n = 0
    · subst hn0
      simp only [List.replicate_zero, List.append_nil, Nat.add_zero, List.take_append_drop, set_same hrow]
      refine ⟨.tuple #[], w, g, ?_, R, by simp [V], fun k => Le.refl _ _ _, by simp⟩
      simp [Builtin.clear_, run_underlying hs, Result.andThen]
    have hroom := VR.room _ _ hvrow
    simp only [Array.length_toList] at hroom
    have hz0 := zeros_VR (H := g.h) (n := n) hzs hc hzn
    have hzl : (Builtin.zeroCells z.cells n).toList.length = n * i.size := by simp [zeroCells_eq, hzs]
    have hle0 : (lo + n) * i.size ≤ rows.length * i.size := Nat.mul_le_mul_right _ hn
    rw [Nat.add_mul] at hle0
    obtain ⟨w', hst, R', hle⟩ := putRow_rel (P := P) R (lo := lo) (us := (Builtin.zeroCells z.cells n).toList) (rows2 := rows.take lo ++ List.replicate n zero ++ rows.drop (lo + n)) hrow he hm hB hh hheap (by rw [hzl]; omega)
      (by
        intro u hu
        obtain ⟨_, h1⟩ := constsOk.VPL (H := g.h) hc hzn
        simp only [zeroCells_eq, Array.toList_map, List.mem_map] at hu
        obtain ⟨j, hj, rfl⟩ := hu
        have hjm : j % z.cells.size < z.cells.size := Nat.mod_lt _ (by omega)
        rw [getElem!_pos z.cells _ hjm]
        exact h1 _ (by simp)) (by
        rw [hzl]
        have hl1 : (cur.toList.take (lo * i.size)).length = (rows.take lo).length * i.size := by
          rw [List.length_take, List.length_take, Nat.min_eq_left (by simp; omega), Nat.min_eq_left (by omega)]
        refine VR.append _ _ _ _ (VR.append _ _ _ _ (VR.cut _ _ _ (VR.take _ _ _ hvrow) (by rw [List.length_take, Nat.min_eq_left (by omega)]; exact Nat.le_refl _)) hl1 (by rw [zeroCells_eq]; exact hz0)) ?_ ?_
        · rw [List.length_append, List.length_append, hl1, hzl, List.length_replicate, Nat.add_mul]
        · have := VR.drop (lo + n) _ _ hvrow
          rwa [Nat.add_mul] at this)
    refine ⟨.tuple #[], w', g, ?_, R', by simp [V], hle, by simp⟩
    obtain ⟨n', rfl⟩ : ∃ n', n = n' + 1 := ⟨n - 1, by omega⟩
    simp [Builtin.clear_, run_underlying hs, Result.andThen, run_zeroValue hi hz, hst]

theorem slca_sound (R : Rel A B0 w0 g S w) {t et : TypeId} {e n : Nat} (ht : P.underlying t = some (.array n et)) (he : szB P et = some e) (h0 : 0 < e) (hn : n ≤ maxLen) {hl hh hm : Bool} (hmh : hm = true → hh = true)
    {x a b c : AV} {xv lv hv mv : Value} (hx : V g S S.length x xv) (ha : V g S S.length a lv) (hb : V g S S.length b hv) (hc : V g S S.length c mv) :
    Sound A P B0 w0 g S w (Instr.sliceAt t xv (optV hl lv) (optV hh hv) (optV hm mv))
      (opSlca e n hl hh hm (x :: ((if hl then [a] else []) ++ (if hh then [b] else []) ++ (if hm then [c] else []))) S) := by
  cases x with
  | ptr b' ver off => ?_
  | _ => exact Sound.none
  simp only [opSlca]
  split
  rotate_left
  · exact Sound.none
  rename_i hlive
  split
  rotate_left
  · exact Sound.none
  rename_i l h hbd
  split
  rotate_left
  · exact Sound.none
  rename_i hln
  obtain ⟨hrun, h1, h2, h3, h4⟩ := bounds_sound (P := P) (isS := false) (g := g) (S := S) hbd (Nat.le_refl _) hmh ⟨a, b, c, rfl, ha, hb, hc⟩ w
  simp only [liveB, Bool.and_eq_true, beq_iff_eq] at hlive
  have hx0 := hx
  simp only [V] at hx
  obtain ⟨_, hlt, hvv, hx⟩ := hx
  obtain ⟨cb, sz, hmm, rfl⟩ := hx hlive.1 0 hlive.2
  simp only [Option.getD_none] at hrun
  have hne : n ≠ l := by omega
  refine Sound.same R (cv := .slice (some ⟨cb, off + l * e, none⟩) (h - l) (n - l)) ?_ ?_
  · simp [Instr.sliceAt, run_underlying ht, Result.andThen, Instr.sureAddr, hrun, run_sizeOf he, hne, addr_add]
  · simp only [V]
    exact ⟨h0, rfl, hlt, hvv, fun _ _ _ => ⟨cb, sz, n - l, hmm, rfl, by omega, by omega⟩⟩

end Go.Wm

set_option linter.unusedVariables false
set_option linter.unusedSimpArgs false
namespace Go.Wm
open Go.RowKit

variable {A : Alike} {P : Program} {B0 : Nat} {w0 w w' : World} {g g' : Sg} {S S' : Sto}

/-- a slice of bytes' type -/
def bytesTy (P : Program) (t : TypeId) : Bool :=
  match P.underlying t with
  | some (.slice e) => match P.underlying e with | some (.int .u8) => true | _ => false
  | _ => false
theorem bytesTy.out {t : TypeId} (h : bytesTy P t = true) : ∃ e, P.underlying t = some (.slice e) ∧ P.underlying e = some (.int .u8) := by
  unfold bytesTy at h
  split at h
  · rename_i e he
    split at h
    · rename_i h2
      exact ⟨e, he, h2⟩
    · cases h
  · cases h

theorem bytes_rows {H : Nat → Option (Array Value)} : ∀ (rows : List (List AV)) (us : List Value) (bs : List UInt8), us.length = rows.length * 1 → VR H 1 rows us → bytesOf rows = some bs →
    ∃ ns : List Int, us = ns.map (Value.int .u8) ∧ bs = ns.map fun n => UInt8.ofNat n.toNat
  | [], us, bs, hl, hv, h => by
    simp at hl
    simp [bytesOf] at h
    subst hl h
    exact ⟨[], rfl, rfl⟩
  | r :: rows, us, bs, hl, hv, h => by
    simp only [bytesOf] at h
    split at h
    · rename_i b bs' hb hbs
      cases h
      cases us with
      | nil => simp at hl
      | cons u us =>
        simp only [VR, List.take_succ_cons, List.take_zero, List.drop_succ_cons, List.drop_zero] at hv
        obtain ⟨h1, h2, h3, h4⟩ := hv
        obtain ⟨ns, h5, h6⟩ := bytes_rows rows us bs' (by simpa using hl) h4 hbs
        unfold byteOf1 at hb
        split at hb
        · rename_i n
          cases hb
          simp only [VPL, VP] at h2
          obtain ⟨v, vs', e, hv, _⟩ := h2
          cases e
          subst hv
          exact ⟨n :: ns, by simp [h5], by simp [h6]⟩
        · cases hb
    · cases h

theorem fold_push : ∀ (ns : List Int) (s : ByteArray), (ns.foldl (fun r n => r.push (UInt8.ofNat n.toNat)) s) = ⟨(s.data.toList ++ ns.map fun n => UInt8.ofNat n.toNat).toArray⟩
  | [], s => by simp
  | n :: ns, s => by
    simp only [List.foldl_cons]
    rw [fold_push ns]
    simp [ByteArray.push]

theorem tostr_sound (R : Rel A B0 w0 g S w) {src dst : TypeId} (hs : bytesTy P src = true) (hd : P.underlying dst = some .string) {x : AV} {xv : Value} (hx : V g S S.length x xv) :
    Sound A P B0 w0 g S w (convert src dst xv) (opTostr [x] S) := by
  obtain ⟨et, hs1, hs2⟩ := bytesTy.out hs
  unfold opTostr
  split
  · exact Sound.none
  rotate_left
  · exact Sound.none
  rename_i x' S' hns heq
  cases heq
  split
  rotate_left
  · exact Sound.none
  rename_i rows hr
  split at hr
  rotate_left
  · cases hr
  rename_i hes
  split
  rotate_left
  · exact Sound.none
  rename_i bs hbs
  obtain ⟨us, hul, hvr, hone, hlen, hfc⟩ := rows_read (P := P) R hx hes (by omega) hr
  obtain ⟨ns, rfl, rfl⟩ := bytes_rows rows us bs hul hvr hbs
  have hf := hfc rows.length (Nat.le_refl _) w (fun _ _ _ => rfl)
  have hsl : ∃ a n c, xv = .slice a n c := by
    cases x with
    | nils _ _ => simp only [V] at hx; exact ⟨_, _, _, hx⟩
    | zs _ _ => simp only [V] at hx; obtain ⟨a, h⟩ := hx; exact ⟨_, _, _, h⟩
    | imm _ _ => simp only [V] at hx; obtain ⟨a, c, h, _⟩ := hx; exact ⟨_, _, _, h⟩
    | own e b ver lo n f =>
      obtain ⟨t, rws, z, hb, _⟩ := rowsOf_own (f := f) hr
      simp only [V] at hx
      obtain ⟨_, h⟩ := hx.2.2.2.2 (by rw [ver_some hb]; rfl) e (by rw [sig_some hb]; rfl)
      rcases h with ⟨_, ⟨a0, h⟩, _⟩ | ⟨_, _, a, c, h, _⟩ | ⟨cb, sz, c, _, h, _⟩ <;> exact ⟨_, _, _, h⟩
    | vsl b ver off e n =>
      obtain ⟨t, cs, hb, _⟩ := rowsOf_vsl hr
      simp only [V] at hx
      obtain ⟨cb, sz, c, _, h, _⟩ := hx.2.2.2.2 (by rw [ver_some hb]; rfl) 0 (by rw [sig_some hb]; rfl)
      exact ⟨_, _, _, h⟩
    | str s => exact absurd rfl (hns s)
    | _ => simp [eszB] at hes
  obtain ⟨a, n, c, rfl⟩ := hsl
  have hn : n = rows.length := by
    have := congrArg (fun s : Sem Nat => s.run P w) hlen
    simpa [Builtin.lenOf] using this
  subst hn
  simp only [Nat.mul_one] at hf
  have hlm : ns.length = rows.length := by simpa using hul
  have htk : (ns.map (Value.int .u8)).take rows.length = ns.map (Value.int .u8) := by rw [List.take_of_length_le (by simp [hlm])]
  rw [htk] at hf
  refine Sound.same R (cv := .string ⟨(ns.map fun n => UInt8.ofNat n.toNat).toArray⟩) ?_ (by simp only [V])
  rw [run_convert_bytes_string w src dst et a _ c hs1 hs2 hd]
  cases a with
  | none =>
    simp only [Builtin.firstCells, Sem.run_pure, Result.ok.injEq, and_true] at hf
    have : ns = [] := by
      have := congrArg Array.size hf
      simp at this
      exact List.length_eq_zero_iff.1 this.symm
    subst this
    simp only [Conv.bytesToString, Sem.run_pure, List.map_nil]; rfl
  | some a =>
    simp only [Builtin.firstCells, Nat.mul_one] at hf
    rw [run_bytesToString w a _ c ns hf, fold_push]
    simp [ByteArray.empty, ByteArray.emptyWithCapacity]
    rfl

theorem VR.flatLen {H : Nat → Option (Array Value)} {e : Nat} : ∀ (rows : List (List AV)) (vs : List Value), VR H e rows vs → rows.flatten.length = rows.length * e
  | [], vs, h => by simp
  | r :: rows, vs, h => by
    simp only [VR] at h
    obtain ⟨h1, h2, h3, h4⟩ := h
    have h5 := VR.flatLen rows _ h4
    simp only [List.length_cons, List.flatten_cons, List.length_append]
    rw [h1, h5, Nat.succ_mul, Nat.add_comm]

theorem arrp_sound (R : Rel A B0 w0 g S w) {arr et : TypeId} {n : Nat} (ha : P.underlying arr = some (.array n et)) {x : AV} {xv : Value} (hx : V g S S.length x xv) :
    Sound A P B0 w0 g S w (Instr.arrayAt arr xv) (opArrp n [x] S) := by
  simp only [opArrp]
  split
  rotate_left
  · exact Sound.none
  rename_i e rows S1 hp
  split
  rotate_left
  · exact Sound.none
  rename_i hc
  obtain ⟨hn, h0⟩ := hc
  obtain ⟨g', R', hle, hlen, hv⟩ := pure1_sound R hx hp
  simp only [VP] at hv
  obtain ⟨a, c, rfl, _, _, _, _, hv⟩ := hv
  rcases hv with hv | ⟨cb, off, cur, rfl, hh, hvr⟩
  · subst hv; simp at hn; omega
  intro v' S' e'
  cases e'
  have h1 := VR.flatLen _ _ hvr
  obtain ⟨h2, h3⟩ := VR.flat _ _ hvr
  refine ⟨.pointer (some ⟨cb, off, none⟩), w, g', ?_, R', ?_, hle, hlen⟩
  · have : ¬ (rows.length < n) := by omega
    simp [Instr.arrayAt, run_underlying ha, Result.andThen, this]
  · simp only [V]
    exact ⟨cb, off, cur, by simp, hh, by rw [h1]; exact h2, by rw [h1]; exact h3⟩

end Go.Wm

set_option linter.unusedVariables false
set_option linter.unusedSimpArgs false
namespace Go.Wm
open Go.RowKit

variable {A : Alike} {P : Program} {B0 : Nat} {w0 w w' : World} {g g' : Sg} {S S' : Sto}

def kindOk (P : Program) (t : TypeId) (kd : Nat) : Bool :=
  match P.underlying t with
  | some (.int _) => kd == 0
  | some .bool => kd == 1
  | some .string => kd == 2
  | some (.pointer _) => kd == 3
  | some (.func ..) => kd == 4
  | some (.interface ..) => kd == 5
  | some (.map ..) => kd == 6
  | some (.slice _) => kd == 7
  | _ => false

def isConst : Operand → Bool
  | .const _ => true
  | _ => false

/-- the machine's binary operation, its guard ahead of it -/
def mbin (op : BinOp) (t : TypeId) (ox oy : Operand) (x y : Value) : Sem Value := do eqGuard op t ox oy x y; binOp op t x y

theorem V_int {k : Nat} {kd : IntKind} {n : Int} : V g S k (.int kd n) (.int kd n) := by simp only [V]
theorem V_bool {k : Nat} {b : Bool} : V g S k (.bool b) (.bool b) := by simp only [V]

theorem bin_int {op : BinOp} {kd : Nat} {t : TypeId} {ox oy : Operand} {k k' : IntKind} {a b : Int} {v : AV} (h : binE op kd (.int k a) (.int k' b) = some v) (w : World) :
    ∃ cv, (mbin op t ox oy (.int k a) (.int k' b)).run P w = .ok cv w ∧ V g S S.length v cv := by
  simp only [mbin, eqGuard_at_int]
  cases op <;> simp only [binE, shI, binI] at h
  all_goals first
    | (split at h
       · rename_i hk
         subst hk
         first
           | (cases h
              refine ⟨_, ?_, V_int⟩
              simp [binOp, Op.intArith, Op.intBits, Op.intCmp, Result.andThen]
              done)
           | (cases h
              refine ⟨_, ?_, V_bool⟩
              simp [binOp, Op.intArith, Op.intBits, Op.intCmp, Result.andThen]
              done)
           | (split at h
              · cases h
              · rename_i hb
                cases h
                refine ⟨_, ?_, V_int⟩
                simp [binOp, Op.intDiv, Result.andThen, hb])
           | (cases h; done)
       · cases h)
    | (split at h
       · cases h
       · rename_i hb
         cases h
         refine ⟨_, ?_, V_int⟩
         simp [binOp, Op.shift, Result.andThen, hb])

/-- compared by the model's equality -/
theorem mbin_eq {op : BinOp} {t : TypeId} {ox oy : Operand} {x y : Value} {b : Bool} (hg : (eqGuard op t ox oy x y).run P w = .ok () w) (hq : (Op.equal t x y).run P w = .ok b w)
    (hb : op = .eql ∨ op = .neq) (h1 : binOp .eql t x y = (do pure (.bool (← Op.equal t x y)))) (h2 : binOp .neq t x y = (do pure (.bool (!(← Op.equal t x y))))) :
    (mbin op t ox oy x y).run P w = .ok (.bool (if op = .eql then b else !b)) w := by
  rcases hb with rfl | rfl <;> simp [mbin, hg, h1, h2, hq, Result.andThen]

theorem bin_bool {op : BinOp} {t : TypeId} {ox oy : Operand} {a b : Bool} {v : AV} {kd : Nat} (hk : kindOk P t kd = true) (h : binE op kd (.bool a) (.bool b) = some v) (w : World) :
    ∃ cv, (mbin op t ox oy (.bool a) (.bool b)).run P w = .ok cv w ∧ V g S S.length v cv := by
  simp only [binE] at h
  split at h
  rotate_left
  · cases h
  rename_i hkd
  subst hkd
  have hu : P.underlying t = some .bool := by
    unfold kindOk at hk
    split at hk <;> first | assumption | (simp at hk; done)
  have hq : (Op.equal t (.bool a) (.bool b)).run P w = .ok (a == b) w := by
    exact run_equal_bool w t a b hu
  cases op <;> simp only at h <;> first | (cases h; done) | skip
  · cases h
    refine ⟨_, ?_, V_bool⟩
    rw [mbin_eq (b := a == b) (by simp only [eqGuard_at_bool, Sem.run_pure]) hq (.inl rfl) rfl rfl]
    simp
  · cases h
    refine ⟨_, ?_, V_bool⟩
    rw [mbin_eq (b := a == b) (by simp only [eqGuard_at_bool, Sem.run_pure]) hq (.inr rfl) rfl rfl]
    simp [bne]

theorem bin_str {op : BinOp} {kd : Nat} {t : TypeId} {ox oy : Operand} {a b : List UInt8} {v : AV} (h : binE op kd (.str a) (.str b) = some v) (w : World) :
    ∃ cv, (mbin op t ox oy (.string ⟨a.toArray⟩) (.string ⟨b.toArray⟩)).run P w = .ok cv w ∧ V g S S.length v cv := by
  simp only [mbin, eqGuard_at_string]
  cases op <;> simp only [binE] at h <;> first | (cases h; done) | skip
  all_goals
    cases h
    refine ⟨_, ?_, V_bool⟩
    simp [binOp, Op.stringOp, Result.andThen, Lib.toList_data, bne]

theorem bin_nil {op : BinOp} {kd : Nat} {t : TypeId} {ox oy : Operand} {x y : AV} {xv yv : Value} {b : Bool} (hk : kindOk P t kd = true) (hc : kd = 5 → isConst oy = true) (hl : liveB S x = true)
    (hx : V g S S.length x xv) (hy : V g S S.length y yv) (h : eqNil kd x y = some b) (hop : op = .eql ∨ op = .neq) (w : World) :
    (mbin op t ox oy xv yv).run P w = .ok (.bool (if op = .eql then b else !b)) w := by
  have fin : ∀ (x y : Value), xv = x → yv = y → (eqGuard op t ox oy x y).run P w = .ok () w → binOp .eql t x y = (do pure (.bool (← Op.equal t x y))) → binOp .neq t x y = (do pure (.bool (!(← Op.equal t x y)))) →
      (∀ d, (Op.equalIn (d + 1) t x y).run P w = .ok b w) → (mbin op t ox oy xv yv).run P w = .ok (.bool (if op = .eql then b else !b)) w := by
    intro x y e1 e2 hg h1 h2 hq
    subst e1 e2
    exact mbin_eq hg (hq 9999) hop h1 h2
  unfold kindOk at hk
  unfold eqNil at h
  split at h
  all_goals first | (cases h; done) | skip
  all_goals
    cases h
    split at hk
    all_goals first | (simp at hk; done) | (cases hk; done) | skip
    rename_i hu
    simp only [V] at hx hy
    subst hy
    try simp only [liveB, Bool.and_eq_true, beq_iff_eq] at hl
  · subst hx
    exact fin _ _ rfl rfl (by simp only [eqGuard_at_pointer, Sem.run_pure]) rfl rfl fun d => by simp [Op.equalIn, run_underlying hu, Result.andThen]
  · obtain ⟨cb, sz, _, rfl⟩ := hx.2.2.2 hl.1 0 hl.2
    exact fin _ _ rfl rfl (by simp only [eqGuard_at_pointer, Sem.run_pure]) rfl rfl fun d => by simp [Op.equalIn, run_underlying hu, Result.andThen]
  · rename_i b' ver' i' k' _ _
    have : ∃ e, S.sig b' = some (1, e) := by
      have h2 := hl.2
      split at h2
      · rename_i e he
        exact ⟨e, he⟩
      · cases h2
    obtain ⟨e, he⟩ := this
    obtain ⟨cb, sz, _, rfl⟩ := hx.2.2.2 hl.1 e he
    exact fin _ _ rfl rfl (by simp only [eqGuard_at_pointer, Sem.run_pure]) rfl rfl fun d => by simp [Op.equalIn, run_underlying hu, Result.andThen]
  · obtain ⟨cb, off, arr, rfl, _⟩ := hx
    exact fin _ _ rfl rfl (by simp only [eqGuard_at_pointer, Sem.run_pure]) rfl rfl fun d => by simp [Op.equalIn, run_underlying hu, Result.andThen]
  · subst hx
    exact fin _ _ rfl rfl (by simp only [eqGuard_at_nilFunc, Sem.run_pure]) rfl rfl fun d => by simp [Op.equalIn, run_underlying hu, Result.andThen]
  · obtain ⟨a, c, rfl, _⟩ := hx
    exact fin _ _ rfl rfl (by simp only [eqGuard_at_func, Sem.run_pure]) rfl rfl fun d => by simp [Op.equalIn, run_underlying hu, Result.andThen]
  · obtain ⟨cb, sz, _, rfl⟩ := hx.2.2.2 hl.1 0 hl.2
    exact fin _ _ rfl rfl (by simp only [eqGuard_at_func, Sem.run_pure]) rfl rfl fun d => by simp [Op.equalIn, run_underlying hu, Result.andThen]
  · subst hx
    refine fin _ _ rfl rfl ?_ rfl rfl fun d => by simp [Op.equalIn, run_underlying hu, Result.andThen]
    have := hc rfl
    cases oy with
    | const c => simp only [eqGuard_nil_constR, Sem.run_pure]
    | _ => simp [isConst] at this
  · obtain ⟨u, rfl, _⟩ := hx
    exact fin _ _ rfl rfl (by simp only [eqGuard_at_iface, Sem.run_pure]) rfl rfl fun d => by simp [Op.equalIn, run_underlying hu, Result.andThen]
  · subst hx
    exact fin _ _ rfl rfl (by simp only [eqGuard_at_map, Sem.run_pure]) rfl rfl fun d => by simp [Op.equalIn, run_underlying hu, Result.andThen]
  · obtain ⟨cb, sz, _, rfl⟩ := hx.2.2.2 hl.1 0 hl.2
    exact fin _ _ rfl rfl (by simp only [eqGuard_at_map, Sem.run_pure]) rfl rfl fun d => by simp [Op.equalIn, run_underlying hu, Result.andThen]
  · subst hx
    exact fin _ _ rfl rfl (by simp only [eqGuard_at_slice, Sem.run_pure]) rfl rfl fun d => by simp [Op.equalIn, run_underlying hu, Result.andThen]
  · obtain ⟨a, c, rfl, _, _, _, _, hx⟩ := hx
    rcases hx with hx | ⟨cb, off, arr, rfl, _⟩
    · cases hx
    exact fin _ _ rfl rfl (by simp only [eqGuard_at_slice, Sem.run_pure]) rfl rfl fun d => by simp [Op.equalIn, run_underlying hu, Result.andThen]

theorem bin_sound (R : Rel A B0 w0 g S w) {op : BinOp} {kd : Nat} {t : TypeId} {ox oy : Operand} (hk : kindOk P t kd = true) (hc : kd = 5 → isConst oy = true) {x y : AV} {xv yv : Value}
    (hx : V g S S.length x xv) (hy : V g S S.length y yv) : Sound A P B0 w0 g S w (do eqGuard op t ox oy xv yv; binOp op t xv yv) (opBin op kd [x, y] S) := by
  simp only [opBin]
  split
  rotate_left
  · exact Sound.none
  rename_i hl
  split
  rotate_left
  · exact Sound.none
  rename_i v hv
  have nilCase : nilRes op (eqNil kd x y) = some v → Sound A P B0 w0 g S w (do eqGuard op t ox oy xv yv; binOp op t xv yv) (some (.ret v, S)) := by
    intro h
    unfold nilRes at h
    split at h
    · rename_i b hb
      cases h
      have := bin_nil (op := .eql) (ox := ox) hk hc hl hx hy hb (.inl rfl) w
      exact Sound.same R this (by simp [V])
    · rename_i b hb
      cases h
      have := bin_nil (op := .neq) (ox := ox) hk hc hl hx hy hb (.inr rfl) w
      exact Sound.same R this (by simp [V])
    · cases h
  have hv0 := hv
  unfold binE at hv
  split at hv
  · simp only [V] at hx hy
    subst hx hy
    obtain ⟨cv, h1, h2⟩ := bin_int (P := P) (g := g) (S := S) (t := t) (ox := ox) (oy := oy) (kd := kd) hv0 w
    exact Sound.same R h1 h2
  · simp only [V] at hx hy
    subst hx hy
    obtain ⟨cv, h1, h2⟩ := bin_bool (P := P) (g := g) (S := S) (t := t) (ox := ox) (oy := oy) (kd := kd) hk hv0 w
    exact Sound.same R h1 h2
  · simp only [V] at hx hy
    subst hx hy
    obtain ⟨cv, h1, h2⟩ := bin_str (P := P) (g := g) (S := S) (t := t) (ox := ox) (oy := oy) (kd := kd) hv0 w
    exact Sound.same R h1 h2
  · exact nilCase hv

/-- a type of one cell, by its kind -/
def cellOk (P : Program) (t : TypeId) (kd : Nat) : Bool := kindOk P t kd && aggB P t == some false && kd < 3

theorem run_part_cell {t : TypeId} (ha : aggB P t = some false) {cs : Array Value} {off : Nat} {v : Value} (h : cs[off]? = some v) : (part t cs off).run P w = .ok v w := by
  simp [part, run_isAgg ha, Result.andThen, h]

theorem run_cell_eq {t : TypeId} {kd d : Nat} (hk : cellOk P t kd = true) {k : Nat} {x y : AV} {xv yv : Value} {b : Bool} (hx : V g S k x xv) (hy : V g S k y yv) (h : eqCell kd x y = some b) :
    (Op.equalIn (d + 1) t xv yv).run P w = .ok b w := by
  simp only [cellOk, Bool.and_eq_true, kindOk, decide_eq_true_eq] at hk
  obtain ⟨⟨hk, _⟩, _⟩ := hk
  unfold eqCell at h
  split at h
  · split at h
    rotate_left
    · cases h
    rename_i hkk
    subst hkk
    cases h
    simp only [V] at hx hy
    subst hx hy
    split at hk <;> first | (simp at hk; done) | (cases hk; done) | skip
    rename_i hu
    exact run_equalIn_int w d t _ _ _ _ hu
  · cases h
    simp only [V] at hx hy
    subst hx hy
    split at hk <;> first | (simp at hk; done) | (cases hk; done) | skip
    rename_i hu
    exact run_equalIn_bool w d t _ _ hu
  · cases h
    simp only [V] at hx hy
    subst hx hy
    split at hk <;> first | (simp at hk; done) | (cases hk; done) | skip
    rename_i hu
    rw [run_equalIn_string w d t _ _ hu, Lib.toList_data, Lib.toList_data]
  · cases h

def fieldsOk (P : Program) : Nat → List Field → List Nat → Bool
  | _, [], [] => true
  | i, f :: fs, k :: ks => f.name != "_" && f.offset == i && cellOk P f.type k && fieldsOk P (i + 1) fs ks
  | _, _, _ => false

theorem run_eqFields {d k : Nat} {xs ys : Array Value} : ∀ (fs : List Field) (i : Nat) (ks : List Nat) (as bs : List AV) (b : Bool), fieldsOk P i fs ks = true → VT g S k as (xs.toList.drop i) → VT g S k bs (ys.toList.drop i) →
    eqCells ks as bs = some b → (Op.eqFields (d + 1) xs ys fs).run P w = .ok b w
  | [], i, ks, as, bs, b, hf, ha, hb, h => by
    cases ks with
    | nil =>
      cases as <;> cases bs <;> simp [eqCells] at h
      subst h
      simp [Op.eqFields]
    | cons _ _ => simp [fieldsOk] at hf
  | f :: fs, i, [], as, bs, b, hf, ha, hb, h => by simp [fieldsOk] at hf
  | f :: fs, i, kd :: ks, as, bs, b, hf, ha, hb, h => by
    cases as with
    | nil => simp [eqCells] at h
    | cons x as =>
    cases bs with
    | nil => simp [eqCells] at h
    | cons y bs =>
    simp only [eqCells] at h
    split at h
    rotate_left
    · cases h
    rename_i b1 b2 h1 h2
    cases h
    simp only [fieldsOk, Bool.and_eq_true, bne_iff_ne, ne_eq, beq_iff_eq] at hf
    obtain ⟨⟨⟨hn, rfl⟩, hc⟩, hrest⟩ := hf
    simp only [VT] at ha hb
    obtain ⟨u, us, ea, hu, hus⟩ := ha
    obtain ⟨v, vs, eb, hv, hvs⟩ := hb
    have hag : aggB P f.type = some false := by
      simp only [cellOk, Bool.and_eq_true, beq_iff_eq] at hc
      exact hc.1.2
    have e1 : xs[f.offset]? = some u := by
      have := congrArg (fun l => l[0]?) ea
      simpa using this
    have e2 : ys[f.offset]? = some v := by
      have := congrArg (fun l => l[0]?) eb
      simpa using this
    have ih := run_eqFields (d := d) (xs := xs) (ys := ys) fs (f.offset + 1) ks as bs b2 hrest (by
      have := congrArg List.tail ea
      rw [List.tail_drop] at this
      rw [this]
      exact hus) (by
      have := congrArg List.tail eb
      rw [List.tail_drop] at this
      rw [this]
      exact hvs) h2
    simp only [Op.eqFields, ne_eq, hn, not_false_eq_true, if_true, Sem.run_bind, run_part_cell hag e1, run_part_cell hag e2, Result.andThen_ok, run_cell_eq hc hu hv h1]
    cases b1 <;> simp [ih]

theorem run_eqItems {d k n : Nat} {e : TypeId} {kd : Nat} (hc : cellOk P e kd = true) (h1s : P.cellsOf e = 1) {xs ys : Array Value} : ∀ (m i : Nat) (as bs : List AV) (b : Bool), VT g S k as (xs.toList.drop i) → VT g S k bs (ys.toList.drop i) →
    eqCells (List.replicate m kd) as bs = some b → (Op.eqItems (d + 1) e (P.cellsOf e) xs ys (List.range' i m)).run P w = .ok b w
  | 0, i, as, bs, b, ha, hb, h => by
    cases as <;> cases bs <;> simp [eqCells] at h
    subst h
    simp [Op.eqItems]
  | m + 1, i, as, bs, b, ha, hb, h => by
    cases as with
    | nil => simp [List.replicate_succ, eqCells] at h
    | cons x as =>
    cases bs with
    | nil => simp [List.replicate_succ, eqCells] at h
    | cons y bs =>
    simp only [List.replicate_succ, eqCells] at h
    split at h
    rotate_left
    · cases h
    rename_i b1 b2 h1 h2
    cases h
    simp only [VT] at ha hb
    obtain ⟨u, us, ea, hu, hus⟩ := ha
    obtain ⟨v, vs, eb, hv, hvs⟩ := hb
    have hag : aggB P e = some false := by
      simp only [cellOk, Bool.and_eq_true, beq_iff_eq] at hc
      exact hc.1.2
    have e1 : xs[i]? = some u := by
      have := congrArg (fun l => l[0]?) ea
      simpa using this
    have e2 : ys[i]? = some v := by
      have := congrArg (fun l => l[0]?) eb
      simpa using this
    have ih := run_eqItems (d := d) (n := n) hc h1s (xs := xs) (ys := ys) m (i + 1) as bs b2 (by
      have := congrArg List.tail ea
      rw [List.tail_drop] at this
      rw [this]
      exact hus) (by
      have := congrArg List.tail eb
      rw [List.tail_drop] at this
      rw [this]
      exact hvs) h2
    rw [h1s] at ih ⊢
    simp only [List.range'_succ, Op.eqItems, Nat.mul_one, Sem.run_bind, run_part_cell hag e1, run_part_cell hag e2, Result.andThen_ok, run_cell_eq hc hu hv h1]
    cases b1 <;> simp [ih]

def eqsOk (P : Program) (t : TypeId) (kds : List Nat) : Bool :=
  P.eqGuardType P.depth t == false && match P.underlying t with
  | some (.struct fs) => P.stoodInHeld t == false && fieldsOk P 0 fs.toList kds
  | some (.array n e) => match kds with
    | k :: _ => kds == List.replicate n k && cellOk P e k && szB P e == some 1 && P.cellsOf e == 1
    | [] => false
  | _ => false

theorem eqs_sound (R : Rel A B0 w0 g S w) {op : BinOp} {t : TypeId} {kds : List Nat} {ox oy : Operand} (hok : eqsOk P t kds = true) (hop : op = .eql ∨ op = .neq) {x y : AV} {xv yv : Value}
    (hx : V g S S.length x xv) (hy : V g S S.length y yv) : Sound A P B0 w0 g S w (do eqGuard op t ox oy xv yv; binOp op t xv yv) (opEqs (op == .neq) kds [x, y] S) := by
  cases x with
  | agg xs => ?_
  | _ => exact Sound.none
  cases y with
  | agg ys => ?_
  | _ => exact Sound.none
  simp only [opEqs]
  split
  rotate_left
  · exact Sound.none
  rename_i b hb
  simp only [V] at hx hy
  obtain ⟨us, rfl, hus, _⟩ := hx
  obtain ⟨vs, rfl, hvs, _⟩ := hy
  simp only [eqsOk, Bool.and_eq_true, beq_iff_eq] at hok
  obtain ⟨hg, hok⟩ := hok
  have hq : (Op.equalIn 10000 t (.agg us.toArray) (.agg vs.toArray)).run P w = .ok b w := by
    split at hok
    · rename_i fs hu
      simp only [Bool.and_eq_true, beq_iff_eq] at hok
      have hfo : P.fieldsOf t = fs := by simp [Program.fieldsOf, hu]
      have := run_equalIn_struct (P := P) w 9999 t us.toArray vs.toArray (by rw [hfo]; exact hu) hok.1
      rw [this, hfo]
      exact run_eqFields (d := 9998) fs.toList 0 kds xs ys b hok.2 (by simpa using hus) (by simpa using hvs) hb
    · rename_i n e hu
      split at hok
      · rename_i k ks
        simp only [Bool.and_eq_true, beq_iff_eq] at hok
        obtain ⟨⟨⟨h1, h2⟩, h3⟩, h4⟩ := hok
        have hi : ∃ i, P.info? e = some i := by
          simp only [szB] at h3
          cases hh : P.info? e with
          | none => rw [hh] at h3; cases h3
          | some i => exact ⟨i, rfl⟩
        obtain ⟨i, hi⟩ := hi
        rw [run_equalIn_array w 9999 us.toArray vs.toArray hu hi, List.range_eq_range']
        exact run_eqItems (d := 9998) (n := n) h2 h4 n 0 xs ys b (by simpa using hus) (by simpa using hvs) (by rw [← h1]; exact hb)
      · cases hok
    · cases hok
  have hgd := run_eqGuard_agg (P := P) w op t ox oy us.toArray vs.toArray hg
  refine Sound.same R (cv := .bool (if op == .neq then !b else b)) ?_ V_bool
  rcases hop with rfl | rfl
  · rw [Sem.run_bind, hgd, Result.andThen_ok, run_eql_struct, hq]
    rfl
  · rw [Sem.run_bind, hgd, Result.andThen_ok, run_neq_struct, hq]
    rfl

end Go.Wm

set_option linter.unusedVariables false
set_option linter.unusedSimpArgs false
namespace Go.Wm
open Go.RowKit

variable {A : Alike} {P : Program} {B0 : Nat} {w0 w w' : World} {g g' : Sg} {S S' : Sto}

theorem no_him (R : Rel A B0 w0 g S w) : g.h w.heap.size = none := by
  cases hh : g.h w.heap.size with
  | none => rfl
  | some a =>
    obtain ⟨t', fz, h⟩ := R.him _ _ hh
    have := (Array.getElem?_eq_some_iff.1 h).1
    omega

theorem heap_put {w : World} {r : Nat} {o o' : Obj} (hb : w.heap[r]? = some o) : (w.heap.setIfInBounds r o')[r]? = some o' ∧ ∀ r', r' ≠ r → (w.heap.setIfInBounds r o')[r']? = w.heap[r']? := by
  have hlt : r < w.heap.size := (Array.getElem?_eq_some_iff.1 hb).1
  exact ⟨by simp [hlt], fun r' hne => by simp [Ne.symm hne]⟩

def World.put (w : World) (r : Nat) (o : Obj) : World := { w with heap := w.heap.setIfInBounds r o }

theorem Rel.setObj (R : Rel A B0 w0 g S w) {b cb s : Nat} {x : Blk} {o o' : Obj} (hb : b < S.length) (hv : x.ver = S.ver b) (hs : x.sig = S.sig b) (hsn : S.sig b ≠ none)
    (hm : g.m b = some (cb, s)) (hh : g.h cb = none) (hB : B0 ≤ cb) (ho : w.heap[cb]? = some o) (hx : BR A g (S.set b x) (World.put w cb o') B0 b x) :
    Rel A B0 w0 g (S.set b x) (World.put w cb o') ∧ ∀ k, Le k g S g (S.set b x) := by
  have hle : ∀ k, Le k g S g (S.set b x) := fun k => Le.turn hb (by omega) (.inl hs) k
  refine ⟨R.write hb (by omega) (.inl hs) (cb := cb) ?_ (.inr ⟨hsn, ⟨_, hm⟩, hh, hB⟩) ?_ rfl rfl rfl ?_ hx, hle⟩
  · intro _ c' s' hcs
    rw [hm] at hcs
    cases hcs
    rfl
  · intro i hi
    exact (heap_put ho).2 i hi
  · simp [World.put]

theorem Rel.allocObj (R : Rel A B0 w0 g S w) {b : Nat} {x : Blk} {o : Obj} (hb : b < S.length) (hv : x.ver = S.ver b + 1)
    (hx : BR A (g.put b (some (w.heap.size, 0))) (S.set b x) (w.alloc o) B0 b x) :
    Rel A B0 w0 (g.put b (some (w.heap.size, 0))) (S.set b x) (w.alloc o) ∧ ∀ k, Le k g S (g.put b (some (w.heap.size, 0))) (S.set b x) :=
  ⟨R.new hb (by omega) _ (alloc_push w _) (fun cb s h => by cases h; exact Nat.le_refl _) hx, fun k => Le.bump hb (by omega) _ k⟩

theorem mkmap_sound (R : Rel A B0 w0 g S w) {b t : Nat} : Sound A P B0 w0 g S w (Instr.makeMap t none) (opMkmap b S) := by
  unfold opMkmap
  split
  rotate_left
  · exact Sound.none
  rename_i hb
  intro v S' e
  cases e
  obtain ⟨R', hle⟩ := Rel.allocObj R (b := b) (x := .map (S.ver b + 1) []) (o := .map #[] 0) hb rfl
    ⟨w.heap.size, #[], 0, Sg.put_same _ _, R.room, (no_him R : _), heap_alloc_new w _, by simp, by simp [VPL]⟩
  refine ⟨.map (some w.heap.size), _, _, run_makeMap_plain w t, R', ?_, hle, by simp⟩
  simp only [V]
  refine ⟨rfl, by simpa using hb, by rw [ver_set hb]; simp [Blk.ver], fun _ _ _ => ⟨_, _, Sg.put_same _ _, rfl⟩⟩

theorem pureM_sound (R : Rel A B0 w0 g S w) {x y : AV} {v : Value} {S1 : Sto} (hv : V g S S.length x v) (h : pureM S x = some (y, S1)) :
    ∃ g', Rel A B0 w0 g' S1 w ∧ (∀ k, Le k g S g' S1) ∧ S1.length = S.length ∧ VP g'.h y v := by
  unfold pureM at h
  split at h
  · rename_i cs
    split at h
    · rename_i ys S2 hp
      cases h
      simp only [V] at hv
      obtain ⟨vs, rfl, h1, h2⟩ := hv
      obtain ⟨g', R', hle, hl, hvp⟩ := pureL_sound cs R h1 hp
      refine ⟨g', R', hle, hl, ?_⟩
      simp only [VP]
      exact ⟨vs, rfl, hvp, h2⟩
    · cases h
  · cases h
  · exact pure1_sound R hv h

theorem findNow_spec : ∀ (es : List (Int × AV)) (mes : List MapEntry) (k : Int) (i : Nat), mes.map (·.key) = es.map (fun p => Value.int .i64 p.1) →
    (es.lookup k = none ∧ Instr.findNow (.int .i64) (.int .i64 k) mes i = some none) ∨
    ∃ j x me, es.lookup k = some x ∧ es[j]? = some (k, x) ∧ mes[j]? = some me ∧ me.key = .int .i64 k ∧ Instr.findNow (.int .i64) (.int .i64 k) mes i = some (some (i + j, me.val)) ∧ ∀ j' < j, (es[j']?).map (·.1) ≠ some k
  | [], mes, k, i, h => by
    cases mes with
    | nil => exact .inl ⟨rfl, rfl⟩
    | cons _ _ => simp at h
  | (j0, x0) :: es, mes, k, i, h => by
    cases mes with
    | nil => simp at h
    | cons me mes =>
      simp only [List.map_cons, List.cons.injEq] at h
      obtain ⟨h1, h2⟩ := h
      by_cases hk : k = j0
      · subst hk
        refine .inr ⟨0, x0, me, by simp [List.lookup], by simp, by simp, h1, ?_, fun j' hj' => by omega⟩
        simp [Instr.findNow, Instr.sameNow, h1]
      · have hb : (k == j0) = false := by simpa using hk
        rcases findNow_spec es mes k (i + 1) h2 with ⟨h3, h4⟩ | ⟨j, x, me', h3, h4, h5, h6, h7, h8⟩
        · refine .inl ⟨by simp [List.lookup, hb, h3], ?_⟩
          simp only [Instr.findNow, Instr.sameNow, h1, if_true, hb, h4]
        · refine .inr ⟨j + 1, x, me', by simp [List.lookup, hb, h3], by simpa using h4, by simpa using h5, h6, ?_, ?_⟩
          · simp only [Instr.findNow, Instr.sameNow, h1, if_true, hb, h7]
            simp [Nat.add_assoc, Nat.add_comm 1 j]
          · intro j' hj'
            cases j' with
            | zero => simp; exact fun e => hk e.symm
            | succ j' => simpa using h8 j' (by omega)

theorem mapPut_new : ∀ (es : List (Int × AV)) (k : Int) (x : AV), es.lookup k = none → mapPut es k x = es ++ [(k, x)]
  | [], k, x, h => rfl
  | (j, y) :: es, k, x, h => by
    simp only [List.lookup] at h
    split at h
    · cases h
    · rename_i hb
      have hne : j ≠ k := by
        intro e
        subst e
        simp at hb
      simp [mapPut, hne, mapPut_new es k x h]

theorem mapPut_old : ∀ (es : List (Int × AV)) (k : Int) (x y : AV) (j : Nat), es[j]? = some (k, y) → (∀ j' < j, (es[j']?).map (·.1) ≠ some k) → mapPut es k x = es.set j (k, x)
  | [], k, x, y, j, h, _ => by simp at h
  | (i, z) :: es, k, x, y, 0, h, _ => by
    simp at h
    simp [mapPut, h.1]
  | (i, z) :: es, k, x, y, j + 1, h, h' => by
    have hne : i ≠ k := by
      have := h' 0 (by omega)
      simpa using this
    simp only [mapPut, hne, if_false, List.set_cons_succ]
    rw [mapPut_old es k x y j (by simpa using h) (fun j' hj' => by
      have := h' (j' + 1) (by omega)
      simpa using this)]

/-- a map's type with int keys -/
def mapOk (P : Program) (t et : TypeId) : Bool :=
  match P.underlying t with
  | some (.map k e) => (match P.underlying k with | some (.int .i64) => true | _ => false) && e == et
  | _ => false
theorem mapOk.out {t et : TypeId} (h : mapOk P t et = true) : ∃ k, P.underlying t = some (.map k et) ∧ P.underlying k = some (.int .i64) := by
  unfold mapOk at h
  split at h
  · rename_i k e hu
    simp only [Bool.and_eq_true, beq_iff_eq] at h
    obtain ⟨h1, rfl⟩ := h
    split at h1
    · rename_i hk
      exact ⟨k, hu, hk⟩
    · cases h1
  · cases h

theorem VPL.setL {H : Nat → Option (Array Value)} : ∀ (xs : List AV) (vs : List Value) (j : Nat) (x : AV) (v : Value), VPL H xs vs → VP H x v → VPL H (xs.set j x) (vs.set j v)
  | [], vs, j, x, v, h, hx => by simp [VPL] at h; simp [h, VPL]
  | y :: xs, vs, 0, x, v, h, hx => by
    simp only [VPL] at h
    obtain ⟨u, us, rfl, h1, h2⟩ := h
    simp only [List.set_cons_zero, VPL]
    exact ⟨v, us, rfl, hx, h2⟩
  | y :: xs, vs, j + 1, x, v, h, hx => by
    simp only [VPL] at h
    obtain ⟨u, us, rfl, h1, h2⟩ := h
    simp only [List.set_cons_succ, VPL]
    exact ⟨u, us.set j v, rfl, h1, VPL.setL xs us j x v h2 hx⟩

theorem modify_list {α : Type} : ∀ (l : List α) (j : Nat) (f : α → α) (x : α), l[j]? = some x → l.modify j f = l.set j (f x)
  | [], j, f, x, h => by simp at h
  | a :: l, 0, f, x, h => by simp at h; simp [List.modify_cons, h]
  | a :: l, j + 1, f, x, h => by
    simp only [List.modify_succ_cons, List.set_cons_succ]
    rw [modify_list l j f x (by simpa using h)]

/-- an operation without a value -/
def unit (s : Sem Unit) : Sem Value := do s; pure (.tuple #[])

theorem mapset_sound (R : Rel A B0 w0 g S w) {t et : TypeId} (hok : mapOk P t et = true) {m k x : AV} {mv kv xv : Value} (hm : V g S S.length m mv) (hk : V g S S.length k kv) (hx : V g S S.length x xv) :
    Sound A P B0 w0 g S w (unit (Instr.mapUpdate t mv kv xv)) (opMapset [m, k, x] S) := by
  obtain ⟨kt, hu, hku⟩ := mapOk.out hok
  cases m with
  | map b ver => ?_
  | _ => exact Sound.none
  cases k with
  | int ki kk => ?_
  | _ => exact Sound.none
  cases ki with
  | i64 => ?_
  | _ => exact Sound.none
  simp only [opMapset]
  split
  rotate_left
  · exact Sound.none
  rename_i y S1 hp
  split
  rotate_left
  · exact Sound.none
  rename_i v es hb
  split
  rotate_left
  · exact Sound.none
  rename_i hv
  subst hv
  obtain ⟨g1, R1, l1, n1, vp⟩ := pureM_sound R hx hp
  have hm1 := V.mono (l1 _) _ _ hm
  simp only [V] at hm1 hk
  subst hk
  obtain ⟨_, _, _, hmm⟩ := hm1
  obtain ⟨cb, sz, hgm, rfl⟩ := hmm (by rw [ver_some hb]; rfl) 0 (by rw [sig_some hb]; rfl)
  obtain ⟨cb', mes, clock, h1, h2, h3, h4, h5, h6⟩ := R1.blk _ _ hb
  rw [hgm] at h1
  cases h1
  have hlt : b < S1.length := (List.getElem?_eq_some_iff.1 hb).1
  have hfind := findNow_spec es mes.toList kk 0 h5
  have hrunF : ∀ r, Instr.findNow (.int .i64) (.int .i64 kk) mes.toList 0 = some r → (Instr.findKey kt (.int .i64 kk) mes.toList).run P w = .ok r w := by
    intro r hr
    simp [Instr.findKey, run_underlying hku, Result.andThen, hr]
  have hchk : (Instr.checkKey false 10000 kt (.int .i64 kk)).run P w = .ok () w := by
    unfold Instr.checkKey
    simp [run_underlying hku, Result.andThen]
  have hget : (getObj cb).run P w = .ok (.map mes clock) w := by simp [getObj, Sem.run, h4]
  have fin : ∀ (mes2 : Array MapEntry) (clock2 : Nat), (Instr.mapUpdate t (.map (some cb)) (.int .i64 kk) xv).run P w = .ok () (World.put w cb (.map mes2 clock2)) →
      mes2.toList.map (·.key) = (mapPut es kk y).map (fun p => .int .i64 p.1) → VPL g1.h ((mapPut es kk y).map (·.2)) (mes2.toList.map (·.val)) →
      Sound A P B0 w0 g S w (unit (Instr.mapUpdate t (.map (some cb)) (.int .i64 kk) xv)) (some (.ret .any, S1.set b (.map v (mapPut es kk y)))) := by
    intro mes2 clock2 hrun hk2 hv2
    have hput := heap_put (o' := .map mes2 clock2) h4
    obtain ⟨R2, l2⟩ := Rel.setObj R1 (x := .map v (mapPut es kk y)) (o' := .map mes2 clock2) hlt (by rw [ver_some hb]; rfl) (by rw [sig_some hb]; rfl) (by rw [sig_some hb]; simp [Blk.sig]) hgm h3 h2 h4
      ⟨cb, mes2, clock2, hgm, h2, h3, hput.1, hk2, hv2⟩
    intro v' S' e
    cases e
    refine ⟨.tuple #[], _, g1, ?_, R2, by simp [V], fun k => (l1 k).trans (l2 k), by simp [n1]⟩
    simp [unit, hrun, Result.andThen]
  rcases hfind with ⟨hl, hf⟩ | ⟨j, x0, me, hl, hes, hme, hkey, hf, hmin⟩
  · refine fin (mes.push { key := .int .i64 kk, val := xv, born := clock }) (clock + 1) ?_ ?_ ?_
    · simp only [Instr.mapUpdate, Sem.run_bind, run_underlying hu, Result.andThen_ok, hget, hchk, hrunF _ hf]
      simp [setObj, Sem.run, h4, World.put]
    · rw [mapPut_new es kk y hl]
      simp [h5]
    · rw [mapPut_new es kk y hl]
      simp only [Array.toList_push, List.map_append, List.map_cons, List.map_nil]
      exact VPL.append _ _ _ _ h6 (by simp only [VPL]; exact ⟨xv, [], rfl, vp, rfl⟩)
  · simp only [Nat.zero_add] at hf
    have hj : j < mes.size := by
      have := (List.getElem?_eq_some_iff.1 hme).1
      simpa using this
    have hmj : mes[j]? = some me := by simpa using hme
    refine fin (mes.modify j fun e => { e with key := .int .i64 kk, val := xv }) clock ?_ ?_ ?_
    · simp only [Instr.mapUpdate, Sem.run_bind, run_underlying hu, Result.andThen_ok, hget, hchk, hrunF _ hf, hmj, Option.map_some, Option.getD_some, hkey]
      simp [Instr.keyThatStays, Instr.sameBits, setObj, Sem.run, h4, World.put]
    · rw [mapPut_old es kk y x0 j hes hmin]
      have e1 : (mes.modify j fun e => { e with key := .int .i64 kk, val := xv }).toList = mes.toList.set j { me with key := .int .i64 kk, val := xv } := by
        rw [Array.toList_modify, modify_list _ j _ me hme]
      rw [e1, List.map_set, List.map_set, h5]
    · rw [mapPut_old es kk y x0 j hes hmin]
      have e1 : (mes.modify j fun e => { e with key := .int .i64 kk, val := xv }).toList = mes.toList.set j { me with key := .int .i64 kk, val := xv } := by
        rw [Array.toList_modify, modify_list _ j _ me hme]
      rw [e1, List.map_set, List.map_set]
      exact VPL.setL _ _ _ _ _ h6 vp

/-- a type's zero value, as a value -/
def zvalOk (P : Program) (t : TypeId) (zero : AV) : Bool :=
  match P.info? t with
  | some i => match i.zero with
    | some z => constOk zero z || (match zero, z with
      | .agg cs, .agg vs => constsOk cs vs.toList
      | _, _ => false)
    | none => false
  | none => false
theorem zvalOk.out {t : TypeId} {zero : AV} (h : zvalOk P t zero = true) : ∃ z, (∀ w, (zeroValue t).run P w = .ok z w) ∧ V g S S.length zero z := by
  unfold zvalOk at h
  split at h
  · rename_i i hi
    split at h
    · rename_i z hz
      refine ⟨z, fun w => run_zeroValue hi hz w, ?_⟩
      simp only [Bool.or_eq_true] at h
      rcases h with h | h
      · exact constOk.V h
      · split at h
        · rename_i cs vs
          obtain ⟨h1, h2⟩ := constsOk.VT (g := g) (S := S) (k := S.length) h
          simp only [V]
          exact ⟨vs.toList, by simp, h1, h2⟩
        · cases h
    · cases h
  · cases h

theorem VPL.at {H : Nat → Option (Array Value)} : ∀ (xs : List AV) (vs : List Value) (j : Nat) (x : AV) (v : Value), VPL H xs vs → xs[j]? = some x → vs[j]? = some v → VP H x v
  | [], vs, j, x, v, h, hx, hv => by simp at hx
  | y :: xs, vs, 0, x, v, h, hx, hv => by
    simp only [VPL] at h
    obtain ⟨u, us, rfl, h1, h2⟩ := h
    simp at hx hv
    subst hx hv
    exact h1
  | y :: xs, vs, j + 1, x, v, h, hx, hv => by
    simp only [VPL] at h
    obtain ⟨u, us, rfl, h1, h2⟩ := h
    exact VPL.at xs us j x v h2 (by simpa using hx) (by simpa using hv)

theorem look_sound (R : Rel A B0 w0 g S w) {t et : TypeId} {zero : AV} {ok : Bool} (hok : mapOk P t et = true) (hz : zvalOk P et zero = true) {m k : AV} {mv kv : Value} (hm : V g S S.length m mv) (hk : V g S S.length k kv) :
    Sound A P B0 w0 g S w (Instr.lookup t mv kv ok) (opLook zero ok [m, k] S) := by
  obtain ⟨kt, hu, hku⟩ := mapOk.out hok
  obtain ⟨z, hzr, hzv⟩ := zvalOk.out (g := g) (S := S) hz
  cases k with
  | int ki kk => ?_
  | _ => exact Sound.none
  cases ki with
  | i64 => ?_
  | _ => exact Sound.none
  simp only [V] at hk
  subst hk
  have hchk : ∀ b, (Instr.checkKey b 10000 kt (.int .i64 kk)).run P w = .ok () w := by
    intro b
    unfold Instr.checkKey
    simp [run_underlying hku, Result.andThen]
  have tupV : ∀ (x : AV) (xv : Value) (b : Bool), V g S S.length x xv → V g S S.length (if ok then .tup [x, .bool b] else x) (if ok then .tuple #[xv, .bool b] else xv) := by
    intro x xv b hx
    cases ok
    · exact hx
    · simp only [if_true, V]
      exact ⟨[xv, .bool b], rfl, by simp only [VT]; exact ⟨_, _, rfl, hx, _, _, rfl, V_bool, rfl⟩⟩
  have main : ∀ (mes : Array MapEntry) (es : List (Int × AV)), (∀ (f : Array MapEntry → Sem Value) r, (f mes).run P w = r → (do
      let es ← match mv with
        | .map none => pure #[]
        | .map (some r) => do
          let .map es _ ← getObj r | stuck "Lookup: map expected"
          pure es
        | _ => stuck "Lookup: map expected"
      f es).run P w = r) → mes.toList.map (·.key) = es.map (fun p => .int .i64 p.1) → VPL g.h (es.map (·.2)) (mes.toList.map (·.val)) →
      Sound A P B0 w0 g S w (Instr.lookup t mv (.int .i64 kk) ok) (match es.lookup kk with
      | some x => some (.ret (if ok then .tup [x, .bool true] else x), S)
      | none => some (.ret (if ok then .tup [zero, .bool false] else zero), S)) := by
    intro mes es hf h5 h6
    have hrunF : ∀ r, Instr.findNow (.int .i64) (.int .i64 kk) mes.toList 0 = some r → (Instr.findKey kt (.int .i64 kk) mes.toList).run P w = .ok r w := by
      intro r hr
      simp [Instr.findKey, run_underlying hku, Result.andThen, hr]
    rcases findNow_spec es mes.toList kk 0 h5 with ⟨hl, hfn⟩ | ⟨j, x0, me, hl, hes, hme, hkey, hfn, hmin⟩
    · simp only [hl]
      refine Sound.same R ?_ (tupV zero z false hzv)
      simp only [Instr.lookup, Sem.run_bind, run_underlying hu, Result.andThen_ok]
      refine hf _ _ ?_
      simp only [Sem.run_bind, hchk, Result.andThen_ok, hrunF _ hfn, hzr, Sem.run_pure]
    · simp only [hl]
      have hx : V g S S.length x0 me.val := VP.toV _ _ (VPL.at _ _ j x0 me.val h6 (by simp [hes]) (by
        have hme' : mes[j]? = some me := by simpa using hme
        simp [hme']))
      refine Sound.same R ?_ (tupV x0 me.val true hx)
      simp only [Instr.lookup, Sem.run_bind, run_underlying hu, Result.andThen_ok]
      refine hf _ _ ?_
      simp only [Sem.run_bind, hchk, Result.andThen_ok, hrunF _ hfn, Sem.run_pure]
  simp only [opLook]
  cases m with
  | map b ver => ?_
  | nilm => ?_
  | _ => exact Sound.none
  · simp only
    split
    rotate_left
    · exact Sound.none
    rename_i v es hb
    split
    rotate_left
    · exact Sound.none
    rename_i hv
    subst hv
    simp only [V] at hm
    obtain ⟨_, _, _, hmm⟩ := hm
    obtain ⟨cb, sz, hgm, rfl⟩ := hmm (by rw [ver_some hb]; rfl) 0 (by rw [sig_some hb]; rfl)
    obtain ⟨cb', mes, clock, h1, h2, h3, h4, h5, h6⟩ := R.blk _ _ hb
    rw [hgm] at h1
    cases h1
    refine main mes es ?_ h5 h6
    intro f r hr
    have hget : (getObj cb).run P w = .ok (.map mes clock) w := by simp [getObj, Sem.run, h4]
    simp [hget, hr]
  · simp only [V] at hm
    subst hm
    refine main #[] [] ?_ (by simp) (by simp [VPL])
    intro f r hr
    simp [hr]

theorem srange_sound (R : Rel A B0 w0 g S w) {b t : Nat} (ht : P.underlying t = some .string) {x : AV} {xv : Value} (hx : V g S S.length x xv) :
    Sound A P B0 w0 g S w (Instr.range t xv) (opSrange b [x] S) := by
  cases x with
  | str s => ?_
  | _ => exact Sound.none
  simp only [opSrange]
  split
  rotate_left
  · exact Sound.none
  rename_i hb
  simp only [V] at hx
  subst hx
  intro v S' e
  cases e
  obtain ⟨R', hle⟩ := Rel.allocObj R (b := b) (x := .iter (S.ver b + 1) s 0) (o := .stringIter ⟨s.toArray⟩ 0) hb rfl
    ⟨w.heap.size, Sg.put_same _ _, R.room, (no_him R : _), heap_alloc_new w _⟩
  refine ⟨.pointer (some ⟨w.heap.size, 0, none⟩), _, _, ?_, R', ?_, hle, by simp⟩
  · simp [Instr.range, run_underlying ht, Result.andThen]
  · simp only [V]
    refine ⟨rfl, by simpa using hb, by rw [ver_set hb]; simp [Blk.ver], fun _ _ _ => ⟨_, _, Sg.put_same _ _, rfl⟩⟩


theorem next_sound (R : Rel A B0 w0 g S w) {t : Nat} {x : AV} {xv : Value} (hx : V g S S.length x xv) :
    Sound A P B0 w0 g S w (Instr.next xv true t) (opNext [x] S) := by
  cases x with
  | itr b ver => ?_
  | _ => exact Sound.none
  simp only [opNext]
  split
  rotate_left
  · exact Sound.none
  rename_i v s pos hb
  split
  rotate_left
  · exact Sound.none
  rename_i hv
  subst hv
  simp only [V] at hx
  obtain ⟨_, _, _, hmm⟩ := hx
  obtain ⟨cb, sz, hgm, rfl⟩ := hmm (by rw [ver_some hb]; rfl) 0 (by rw [sig_some hb]; rfl)
  obtain ⟨cb', h1, h2, h3, h4⟩ := R.blk _ _ hb
  rw [hgm] at h1
  cases h1
  have hlt : b < S.length := (List.getElem?_eq_some_iff.1 hb).1
  have hget : (getObj cb).run P w = .ok (.stringIter ⟨s.toArray⟩ pos) w := by simp [getObj, Sem.run, h4]
  split
  · rename_i c hc
    split
    rotate_left
    · exact Sound.none
    rename_i hasc
    have hpos : pos < s.length := (List.getElem?_eq_some_iff.1 hc).1
    have hps : pos < (⟨s.toArray⟩ : ByteArray).size := by show pos < s.toArray.size; simpa using hpos
    have hget2 : (⟨s.toArray⟩ : ByteArray)[pos]'hps = c := by
      show s.toArray[pos] = c
      have := (List.getElem?_eq_some_iff.1 hc).2
      simpa using this
    have hdec := decode_ascii ⟨s.toArray⟩ pos hps (by rw [hget2]; exact hasc)
    rw [hget2] at hdec
    have hput := heap_put (o' := .stringIter ⟨s.toArray⟩ (pos + 1)) h4
    obtain ⟨R2, l2⟩ := Rel.setObj R (x := .iter v s (pos + 1)) (o' := .stringIter ⟨s.toArray⟩ (pos + 1)) hlt (by rw [ver_some hb]; rfl) (by rw [sig_some hb]; rfl) (by rw [sig_some hb]; simp [Blk.sig]) hgm h3 h2 h4
      ⟨cb, hgm, h2, h3, hput.1⟩
    intro v' S' e
    cases e
    refine ⟨.tuple #[.bool true, goInt pos, .int .i32 c.toNat], _, g, ?_, R2, ?_, l2, by simp⟩
    · simp only [Instr.next, Sem.run_bind, hget, Result.andThen_ok, hps, if_true, hdec]
      simp [setObj, Sem.run, h4, World.put]
    · simp only [V]
      exact ⟨_, rfl, by simp only [VT]; exact ⟨_, _, rfl, V_bool, _, _, rfl, V_int, _, _, rfl, V_int, rfl⟩⟩
  · rename_i hc
    have hps : ¬ (pos < (⟨s.toArray⟩ : ByteArray).size) := by
      show ¬ (pos < s.toArray.size)
      have := List.getElem?_eq_none_iff.1 hc
      simpa using this
    refine Sound.same R (cv := .tuple #[.bool false]) ?_ ?_
    · simp only [Instr.next, Sem.run_bind, hget, Result.andThen_ok, hps, if_false, Sem.run_pure]
    · simp only [V]
      exact ⟨_, rfl, by simp only [VT]; exact ⟨_, _, rfl, V_bool, rfl⟩⟩

/-- a type that is no interface -/
def noIface (P : Program) (t : TypeId) : Bool :=
  match P.underlying t with
  | some (.interface ..) => false
  | some _ => true
  | none => false

theorem tass_sound (R : Rel A B0 w0 g S w) {xt t : TypeId} {zero : AV} {ok : Bool} (hn : noIface P t = true) (hz : ok = true → zvalOk P t zero = true) {x : AV} {xv : Value} (hx : V g S S.length x xv) :
    Sound A P B0 w0 g S w (Instr.typeAssert xv xt t ok) (opTass t zero ok [x] S) := by
  have hu : ∃ d, P.underlying t = some d ∧ ∀ ms, d ≠ .interface ms := by
    unfold noIface at hn
    split at hn
    · cases hn
    · rename_i d hd hne
      exact ⟨d, hne, fun ms e => hd ms e⟩
    · cases hn
  obtain ⟨d, hu, hd⟩ := hu
  have fails : ok = true → ∃ z, V g S S.length zero z ∧ ∀ w : World, (zeroValue t).run P w = .ok z w := fun h => by
    obtain ⟨z, h1, h2⟩ := zvalOk.out (g := g) (S := S) (hz h)
    exact ⟨z, h2, h1⟩
  cases x with
  | ifc u y =>
    simp only [opTass]
    simp only [V] at hx
    obtain ⟨yv, rfl, hy⟩ := hx
    split
    · rename_i h
      subst h
      cases ok
      · refine Sound.same R (cv := yv) ?_ hy
        simp only [Instr.typeAssert, Sem.run_bind, run_underlying hu, Result.andThen_ok]
        cases d <;> simp_all
      · refine Sound.same R (cv := .tuple #[yv, .bool true]) ?_ ?_
        · simp only [Instr.typeAssert, Sem.run_bind, run_underlying hu, Result.andThen_ok]
          cases d <;> simp_all
        · simp only [if_true, V]
          exact ⟨_, rfl, by simp only [VT]; exact ⟨_, _, rfl, hy, _, _, rfl, V_bool, rfl⟩⟩
    · rename_i h
      split
      rotate_left
      · exact Sound.none
      rename_i hok
      subst hok
      obtain ⟨z, hzv, hzr⟩ := fails rfl
      refine Sound.same R (cv := .tuple #[z, .bool false]) ?_ ?_
      · simp only [Instr.typeAssert, Sem.run_bind, run_underlying hu, Result.andThen_ok]
        have h' : ¬ (u = t) := fun e => h e.symm
        cases d <;> simp_all
      · simp only [V]
        exact ⟨_, rfl, by simp only [VT]; exact ⟨_, _, rfl, hzv, _, _, rfl, V_bool, rfl⟩⟩
  | nili =>
    simp only [opTass]
    simp only [V] at hx
    subst hx
    split
    rotate_left
    · exact Sound.none
    rename_i hok
    subst hok
    obtain ⟨z, hzv, hzr⟩ := fails rfl
    refine Sound.same R (cv := .tuple #[z, .bool false]) ?_ ?_
    · simp only [Instr.typeAssert, Sem.run_bind, run_underlying hu, Result.andThen_ok]
      cases d <;> simp_all
    · simp only [V]
      exact ⟨_, rfl, by simp only [VT]; exact ⟨_, _, rfl, hzv, _, _, rfl, V_bool, rfl⟩⟩
  | _ => exact Sound.none

theorem mkfn_sound (R : Rel A B0 w0 g S w) {f nf : Nat} {xs : List AV} {vs : List Value} (hx : VT g S S.length xs vs) :
    Sound A P B0 w0 g S w (Instr.makeFunc (.func f) (vs.take nf).toArray (vs.drop nf).toArray) (some (.ret (.fn f (xs.take nf) (xs.drop nf)), S)) := by
  refine Sound.same R (cv := .func (.func f) (vs.take nf).toArray (vs.drop nf).toArray) rfl ?_
  simp only [V]
  exact ⟨_, _, rfl, VT.take _ _ _ hx, VT.drop _ _ _ hx⟩

end Go.Wm

set_option linter.unusedVariables false
set_option linter.unusedSimpArgs false
namespace Go.Wm
open Go.RowKit

variable {A : Alike} {P : Program} {B0 : Nat} {w0 w w' : World} {g g' : Sg} {S S' : Sto}

/-- an operation's outcome is the machine's -/
def SoundN (A : Alike) (P : Program) (B0 : Nat) (w0 : World) (g : Sg) (S : Sto) (w : World) (s : Sem Next) (r : R) : Prop :=
  ∀ v S', r = some (.ret v, S') → ∃ cv w' g', (s.run P w = .ok (.value cv) w' ∨ (s.run P w = .ok .skip w' ∧ cv = undef)) ∧ Rel A B0 w0 g' S' w' ∧ V g' S' S'.length v cv ∧ (∀ k, Le k g S g' S') ∧ S'.length = S.length

theorem SoundN.none {s : Sem Next} : SoundN A P B0 w0 g S w s none := fun _ _ e => by cases e
theorem Sound.v {s : Sem Value} {r : R} (h : Sound A P B0 w0 g S w s r) : SoundN A P B0 w0 g S w (do pure (.value (← s))) r := by
  intro v S' e
  obtain ⟨cv, w', g', h1, h2⟩ := h v S' e
  exact ⟨cv, w', g', .inl (by simp [h1, Result.andThen]), h2⟩
theorem Sound.u {s : Sem Unit} {r : R} (h : Sound A P B0 w0 g S w (unit s) r) : SoundN A P B0 w0 g S w (do s; pure .skip) r := by
  intro v S' e
  obtain ⟨cv, w', g', h1, h2⟩ := h v S' e
  simp only [unit, Sem.run_bind, Sem.run_pure] at h1
  cases hs : s.run P w with
  | ok a w1 =>
    rw [hs] at h1
    simp only [Result.andThen_ok, Result.ok.injEq] at h1
    obtain ⟨rfl, rfl⟩ := h1
    exact ⟨.tuple #[], w1, g', .inr ⟨by simp [hs, Result.andThen], rfl⟩, h2⟩
  | halt x w1 => rw [hs] at h1; simp [Result.andThen] at h1

theorem VT.inv0 {k : Nat} {xs : List AV} (h : VT g S k xs []) : xs = [] := by
  cases xs with
  | nil => rfl
  | cons x xs => simp only [VT] at h; obtain ⟨v, vs, e, _⟩ := h; cases e
theorem VT.inv {k : Nat} {xs : List AV} {v : Value} {vs : List Value} (h : VT g S k xs (v :: vs)) : ∃ x ys, xs = x :: ys ∧ V g S k x v ∧ VT g S k ys vs := by
  cases xs with
  | nil => simp [VT] at h
  | cons x xs =>
    simp only [VT] at h
    obtain ⟨u, us, e, h1, h2⟩ := h
    cases e
    exact ⟨x, xs, rfl, h1, h2⟩
theorem VT.inv1 {k : Nat} {xs : List AV} {a : Value} (h : VT g S k xs [a]) : ∃ x, xs = [x] ∧ V g S k x a := by
  obtain ⟨x, ys, rfl, h1, h2⟩ := h.inv
  rw [h2.inv0]
  exact ⟨x, rfl, h1⟩
theorem VT.inv2 {k : Nat} {xs : List AV} {a b : Value} (h : VT g S k xs [a, b]) : ∃ x y, xs = [x, y] ∧ V g S k x a ∧ V g S k y b := by
  obtain ⟨x, ys, rfl, h1, h2⟩ := h.inv
  obtain ⟨y, rfl, h3⟩ := h2.inv1
  exact ⟨x, y, rfl, h1, h3⟩
theorem VT.inv3 {k : Nat} {xs : List AV} {a b c : Value} (h : VT g S k xs [a, b, c]) : ∃ x y z, xs = [x, y, z] ∧ V g S k x a ∧ V g S k y b ∧ V g S k z c := by
  obtain ⟨x, ys, rfl, h1, h2⟩ := h.inv
  obtain ⟨y, z, rfl, h3, h4⟩ := h2.inv2
  exact ⟨x, y, z, rfl, h1, h3, h4⟩

/-- the parts of a type have sizes -/
def partSz (P : Program) (t : TypeId) : Bool :=
  match P.underlying t with
  | some (.struct fs) => fs.all fun f => (szB P f.type).isSome
  | some (.array _ e) => (szB P e).isSome
  | _ => false

def isStr (P : Program) (t : TypeId) : Bool := match P.underlying t with | some .string => true | _ => false
theorem isStr.out {t : TypeId} (h : isStr P t = true) : P.underlying t = some .string := by
  unfold isStr at h
  split at h
  · assumption
  · cases h
def sliceOk (P : Program) (t et e : Nat) : Bool := match P.underlying t with | some (.slice u) => u == et && szB P u == some e | _ => false
theorem sliceOk.out {t et e : Nat} (h : sliceOk P t et e = true) : P.underlying t = some (.slice et) ∧ szB P et = some e := by
  unfold sliceOk at h
  split at h
  · rename_i u hu
    simp only [Bool.and_eq_true, beq_iff_eq] at h
    obtain ⟨rfl, h⟩ := h
    exact ⟨hu, h⟩
  · cases h
def arrOk (P : Program) (t n e : Nat) : Bool := match P.underlying t with | some (.array m u) => m == n && szB P u == some e | _ => false
theorem arrOk.out {t n e : Nat} (h : arrOk P t n e = true) : ∃ u, P.underlying t = some (.array n u) ∧ szB P u = some e := by
  unfold arrOk at h
  split at h
  · rename_i m u hu
    simp only [Bool.and_eq_true, beq_iff_eq] at h
    obtain ⟨rfl, h⟩ := h
    exact ⟨u, hu, h⟩
  · cases h
def arrLd (P : Program) (t : Nat) (n : Option Nat) : Bool := match P.underlying t with | some (.array _ u) => loadOk P u n | _ => false

/-- builtins -/
def okBuiltin (P : Program) (b : Builtin) (tys : List TypeId) (as : List Operand) (i : Iop) : Option (List Operand) :=
  match b, tys, as, i with
  | .len, [t], [x], .len => match P.underlying t with | some (.slice _) => some [x] | _ => none
  | .len, [t], [x], .lens => if isStr P t then some [x] else none
  | .min, _, [x, y], .min2 => some [x, y]
  | .max, _, [x, y], .max2 => some [x, y]
  | .append, [t, u], [x, y], .app _ et e bytes => if appOk P t u et e bytes then some [x, y] else none
  | .copy, [t, _], [x, y], .copy e => if sliceOf P t e then some [x, y] else none
  | .clear, [t], [x], .clear zero => match P.underlying t with | some (.slice et) => if rowOk P t et (P.cellsOf et) (P.bytesOf et) zero then some [x] else none | _ => none
  | .complex, _, [x, y], .ccpx => some [x, y]
  | _, _, _, _ => none

def binOk (P : Program) (op : BinOp) (t : TypeId) (y : Operand) (i : Iop) : Bool :=
  match i with
  | .bin op' kd => op == op' && kindOk P t kd && (kd != 5 || isConst y)
  | .eqs neg kds => (op == .eql && !neg || op == .neq && neg) && eqsOk P t kds
  | _ => false
def convOk (P : Program) (s d : TypeId) (i : Iop) : Bool :=
  match i with
  | .conv k => (P.underlying s).isSome && (match P.underlying d with | some (.int k') => k' == k | _ => false)
  | .cflt => (P.underlying s).isSome && (match P.underlying d with | some (.float .f64) => true | _ => false)
  | .tostr => bytesTy P s && isStr P d
  | _ => false
def sliOk (P : Program) (t : TypeId) (lo hi mx : Option Operand) (i : Iop) : Bool :=
  match i with
  | .slc et e hl hh hm => sliceOk P t et e && lo.isSome == hl && hi.isSome == hh && mx.isSome == hm && (!hm || hh)
  | .slcs hl hh => isStr P t && lo.isSome == hl && hi.isSome == hh && mx.isNone
  | .slca e n hl hh hm => arrOk P t n e && 0 < e && n ≤ maxLen && lo.isSome == hl && hi.isSome == hh && mx.isSome == hm && (!hm || hh)
  | _ => false

/-- an operation that is no call, and its operands -/
def okVal (P : Program) (op : Op) (i : Iop) : Option (List Operand) :=
  match op with
  | .move x | .assign x => match i with | .mv => some [x] | _ => none
  | .pick c a b => match i with | .pick => some [c, a, b] | _ => none
  | .alloc t => match i with | .alloc _ t' zero => if t == t' && zeroOk P t zero then some [] else none | _ => none
  | .box t x => match i with | .box _ t' => if t == t' then some [x] else none | _ => none
  | .build t ps => match i with | .build zero parts => if zeroOk P t zero && partsOk P t (ps.toList.map (·.1)) parts && partSz P t then some (ps.toList.map (·.2)) else none | _ => none
  | .buildSlice t n ps => match i with | .bslice _ et e zero n' is => if rowOk P t et e (P.bytesOf et) zero && n == n' && n * e ≤ 2 ^ 24 && is == ps.toList.map (·.1) then some (ps.toList.map (·.2)) else none | _ => none
  | .load t a => match i with | .load n => if loadOk P t n then some [a] else none | _ => none
  | .store t a v => match i with | .store n => if szB P t == some n then some [a, v] else none | _ => none
  | .nilCheck x => match i with | .nilchk => some [x] | _ => none
  | .binOp op t x y _ => if binOk P op t y i then some [x, y] else none
  | .unOp .not _ x => match i with | .bnot => some [x] | _ => none
  | .convert s d x => if convOk P s d i then some [x] else none
  | .sliceToArrayPointer arr x => match i with | .arrp n => (match P.underlying arr with | some (.array m _) => if m == n then some [x] else none | _ => none) | _ => none
  | .makeInterface t x => match i with | .mkifc t' => if t == t' && noIface P t then some [x] else none | _ => none
  | .makeFunc (.func f) first cap => match i with | .mkfn f' nf => if f == f' && first.size == nf then some (first.toList ++ cap.toList) else none | _ => none
  | .makeMap _ none => match i with | .mkmap _ => some [] | _ => none
  | .makeSlice t l c => match i with | .mkslice _ et e bytes zero => if rowOk P t et e bytes zero then some [l, c] else none | _ => none
  | .slice t x lo hi mx => if sliOk P t lo hi mx i then some ([x] ++ lo.toList ++ hi.toList ++ mx.toList) else none
  | .fieldAddr s x k => match i with | .fadr off => if fadrOk P s k off then some [x] else none | _ => none
  | .field s x k => match i with | .fld off n => (match fieldB P s k with | some (o, ft) => if o == off && loadOk P ft n then some [x] else none | none => none) | _ => none
  | .indexAddr t x ix => match i with
    | .iadr e => (match P.underlying t with | some (.slice u) => if szB P u == some e then some [x, ix] else none | _ => none)
    | .iadra e len => if arrOk P t len e then some [x, ix] else none
    | _ => none
  | .index t x ix => match i with
    | .idx len e n => if arrOk P t len e && arrLd P t n then some [x, ix] else none
    | .idxs => if isStr P t then some [x, ix] else none
    | _ => none
  | .lookup t m k ok => match i with | .look zero ok' => (match P.underlying t with | some (.map _ et) => if mapOk P t et && zvalOk P et zero && ok == ok' then some [m, k] else none | _ => none) | _ => none
  | .mapUpdate t m k x | .insert t m k x => match i with | .mapset => (match P.underlying t with | some (.map _ et) => if mapOk P t et then some [m, k, x] else none | _ => none) | _ => none
  | .range t x => match i with | .srange _ => if isStr P t then some [x] else none | _ => none
  | .next x true => match i with | .next => some [x] | _ => none
  | .typeAssert x xt t ok => match i with | .tass t' zero ok' => if t == t' && noIface P t && (!ok || zvalOk P t zero) && ok == ok' then some [x] else none | _ => none
  | .extract x k => match i with | .extr k' => if k == k' then some [x] else none | _ => none
  | .call c => match c.callee with | .builtin b => okBuiltin P b c.argTypes.toList c.args.toList i | _ => none
  | _ => none


section
variable {cx : Cx} {base : Nat} {env : Env} {ρ : Operand → Value}

theorem okBuiltin_sound (R : Rel A B0 w0 g S w) {b : Builtin} {tys : Array TypeId} {as : Array Operand} {i : Iop} {os : List Operand} {ty : TypeId} {cs : Array Bool} (h : okBuiltin P b tys.toList as.toList i = some os)
    {xs : List AV} (hx : VT g S S.length xs (os.map ρ)) : SoundN A P B0 w0 g S w (builtin b tys ty cs (as.map ρ)) (evalOp cx base env i xs S) := by
  obtain ⟨tys⟩ := tys
  obtain ⟨as⟩ := as
  have hm : Array.map ρ ⟨as⟩ = ⟨as.map ρ⟩ := by simp
  rw [hm]
  clear hm
  unfold okBuiltin at h
  simp only at h
  split at h
  · rename_i t x
    split at h
    · rename_i et hu
      cases h
      obtain ⟨a, rfl, ha⟩ := hx.inv1
      exact Sound.v (len_sound R hu ha)
    · cases h
  · rename_i t x
    split at h
    · rename_i hs
      cases h
      obtain ⟨a, rfl, ha⟩ := hx.inv1
      exact Sound.v (lens_sound R (isStr.out hs) ha)
    · cases h
  · cases h
    obtain ⟨a, b, rfl, ha, hb⟩ := hx.inv2
    exact Sound.v (min2_sound R ha hb)
  · cases h
    obtain ⟨a, b, rfl, ha, hb⟩ := hx.inv2
    exact Sound.v (max2_sound R ha hb)
  · split at h
    · rename_i hok
      cases h
      obtain ⟨a, b, rfl, ha, hb⟩ := hx.inv2
      exact Sound.v (app_sound R hok ha hb)
    · cases h
  · split at h
    · rename_i hok
      cases h
      obtain ⟨a, b, rfl, ha, hb⟩ := hx.inv2
      exact Sound.v (copy_sound R hok ha hb)
    · cases h
  · split at h
    · split at h
      · rename_i hok
        cases h
        obtain ⟨a, rfl, ha⟩ := hx.inv1
        exact Sound.v (clear_sound R hok ha)
      · cases h
    · cases h
  · cases h
    obtain ⟨a, b, rfl, ha, hb⟩ := hx.inv2
    exact Sound.v (ccpx_sound R ha hb)
  · cases h

theorem binOk_sound (R : Rel A B0 w0 g S w) {op : BinOp} {t : TypeId} {x y : Operand} {i : Iop} (h : binOk P op t y i = true)
    {xs : List AV} (hx : VT g S S.length xs [ρ x, ρ y]) : Sound A P B0 w0 g S w (do eqGuard op t x y (ρ x) (ρ y); binOp op t (ρ x) (ρ y)) (evalOp cx base env i xs S) := by
  obtain ⟨a, b, rfl, ha, hb⟩ := hx.inv2
  unfold binOk at h
  split at h
  · rename_i op' kd
    simp only [Bool.and_eq_true, beq_iff_eq] at h
    obtain ⟨⟨rfl, hk⟩, hc⟩ := h
    exact bin_sound R hk (fun e => by subst e; simpa using hc) ha hb
  · rename_i neg kds
    simp only [Bool.and_eq_true, Bool.or_eq_true, beq_iff_eq, Bool.not_eq_true'] at h
    obtain ⟨hn, he⟩ := h
    rcases hn with ⟨rfl, rfl⟩ | ⟨rfl, rfl⟩
    · exact eqs_sound R he (.inl rfl) ha hb
    · exact eqs_sound R he (.inr rfl) ha hb
  · cases h

theorem convOk_sound (R : Rel A B0 w0 g S w) {s d : TypeId} {x : Operand} {i : Iop} (h : convOk P s d i = true)
    {xs : List AV} (hx : VT g S S.length xs [ρ x]) : Sound A P B0 w0 g S w (convert s d (ρ x)) (evalOp cx base env i xs S) := by
  obtain ⟨a, rfl, ha⟩ := hx.inv1
  unfold convOk at h
  split at h
  · simp only [Bool.and_eq_true] at h
    obtain ⟨h1, h2⟩ := h
    obtain ⟨ks, hs⟩ := Option.isSome_iff_exists.1 h1
    split at h2
    · rename_i k' hd
      simp only [beq_iff_eq] at h2
      subst h2
      exact convI_sound R hs hd ha
    · cases h2
  · simp only [Bool.and_eq_true] at h
    obtain ⟨h1, h2⟩ := h
    obtain ⟨ks, hs⟩ := Option.isSome_iff_exists.1 h1
    split at h2
    · rename_i hd
      exact cflt_sound R hs hd ha
    · cases h2
  · simp only [Bool.and_eq_true] at h
    exact tostr_sound R h.1 (isStr.out h.2) ha
  · cases h

theorem sliOk_sound (R : Rel A B0 w0 g S w) {t : TypeId} {x : Operand} {lo hi mx : Option Operand} {i : Iop} (h : sliOk P t lo hi mx i = true)
    {xs : List AV} (hx : VT g S S.length xs ([ρ x] ++ (lo.map ρ).toList ++ (hi.map ρ).toList ++ (mx.map ρ).toList)) :
    Sound A P B0 w0 g S w (Instr.sliceAt t (ρ x) (lo.map ρ) (hi.map ρ) (mx.map ρ)) (evalOp cx base env i xs S) := by
  have hany : ∀ v, V g S S.length .any v := fun v => by simp [V]
  unfold sliOk at h
  split at h
  · rename_i et e hl hh hm
    simp only [Bool.and_eq_true, beq_iff_eq] at h
    obtain ⟨⟨⟨⟨h1, rfl⟩, rfl⟩, rfl⟩, h5⟩ := h
    obtain ⟨hu, he⟩ := sliceOk.out h1
    have hmh : mx.isSome = true → hi.isSome = true := fun e => by simpa [e] using h5
    cases lo <;> cases hi <;> cases mx <;> simp only [Option.map_none, Option.map_some, Option.toList_none, Option.toList_some, List.append_nil, List.singleton_append, List.cons_append, List.nil_append] at hx
    · obtain ⟨a, rfl, ha⟩ := hx.inv1
      exact slc_sound (hl := false) (hh := false) (hm := false) R hu he (by simp) ha (hany (.tuple #[])) (hany (.tuple #[])) (hany (.tuple #[]))
    · simp at hmh
    · obtain ⟨a, b, rfl, ha, hb⟩ := hx.inv2
      exact slc_sound (hl := false) (hh := true) (hm := false) R hu he (by simp) ha (hany (.tuple #[])) hb (hany (.tuple #[]))
    · obtain ⟨a, b, c, rfl, ha, hb, hc⟩ := hx.inv3
      exact slc_sound (hl := false) (hh := true) (hm := true) R hu he (by simp) ha (hany (.tuple #[])) hb hc
    · obtain ⟨a, b, rfl, ha, hb⟩ := hx.inv2
      exact slc_sound (hl := true) (hh := false) (hm := false) R hu he (by simp) ha hb (hany (.tuple #[])) (hany (.tuple #[]))
    · simp at hmh
    · obtain ⟨a, b, c, rfl, ha, hb, hc⟩ := hx.inv3
      exact slc_sound (hl := true) (hh := true) (hm := false) R hu he (by simp) ha hb hc (hany (.tuple #[]))
    · obtain ⟨a, ys, rfl, ha, hy⟩ := hx.inv
      obtain ⟨b, c, d, rfl, hb, hc, hd⟩ := hy.inv3
      exact slc_sound (hl := true) (hh := true) (hm := true) R hu he (by simp) ha hb hc hd
  · rename_i hl hh
    simp only [Bool.and_eq_true, beq_iff_eq, Option.isNone_iff_eq_none] at h
    obtain ⟨⟨⟨h1, rfl⟩, rfl⟩, rfl⟩ := h
    have hu := isStr.out h1
    cases lo <;> cases hi <;> simp only [Option.map_none, Option.map_some, Option.toList_none, Option.toList_some, List.append_nil, List.singleton_append, List.cons_append, List.nil_append] at hx
    · obtain ⟨a, rfl, ha⟩ := hx.inv1
      exact slcs_sound (hl := false) (hh := false) R hu ha (hany (.tuple #[])) (hany (.tuple #[]))
    · obtain ⟨a, b, rfl, ha, hb⟩ := hx.inv2
      exact slcs_sound (hl := false) (hh := true) R hu ha (hany (.tuple #[])) hb
    · obtain ⟨a, b, rfl, ha, hb⟩ := hx.inv2
      exact slcs_sound (hl := true) (hh := false) R hu ha hb (hany (.tuple #[]))
    · obtain ⟨a, b, c, rfl, ha, hb, hc⟩ := hx.inv3
      exact slcs_sound (hl := true) (hh := true) R hu ha hb hc
  · rename_i e n hl hh hm
    simp only [Bool.and_eq_true, beq_iff_eq, decide_eq_true_eq] at h
    obtain ⟨⟨⟨⟨⟨⟨h1, h0⟩, hn⟩, rfl⟩, rfl⟩, rfl⟩, h5⟩ := h
    obtain ⟨et, hu, he⟩ := arrOk.out h1
    have hmh : mx.isSome = true → hi.isSome = true := fun e => by simpa [e] using h5
    cases lo <;> cases hi <;> cases mx <;> simp only [Option.map_none, Option.map_some, Option.toList_none, Option.toList_some, List.append_nil, List.singleton_append, List.cons_append, List.nil_append] at hx
    · obtain ⟨a, rfl, ha⟩ := hx.inv1
      exact slca_sound (hl := false) (hh := false) (hm := false) R hu he h0 hn (by simp) ha (hany (.tuple #[])) (hany (.tuple #[])) (hany (.tuple #[]))
    · simp at hmh
    · obtain ⟨a, b, rfl, ha, hb⟩ := hx.inv2
      exact slca_sound (hl := false) (hh := true) (hm := false) R hu he h0 hn (by simp) ha (hany (.tuple #[])) hb (hany (.tuple #[]))
    · obtain ⟨a, b, c, rfl, ha, hb, hc⟩ := hx.inv3
      exact slca_sound (hl := false) (hh := true) (hm := true) R hu he h0 hn (by simp) ha (hany (.tuple #[])) hb hc
    · obtain ⟨a, b, rfl, ha, hb⟩ := hx.inv2
      exact slca_sound (hl := true) (hh := false) (hm := false) R hu he h0 hn (by simp) ha hb (hany (.tuple #[])) (hany (.tuple #[]))
    · simp at hmh
    · obtain ⟨a, b, c, rfl, ha, hb, hc⟩ := hx.inv3
      exact slca_sound (hl := true) (hh := true) (hm := false) R hu he h0 hn (by simp) ha hb hc (hany (.tuple #[]))
    · obtain ⟨a, ys, rfl, ha, hy⟩ := hx.inv
      obtain ⟨b, c, d, rfl, hb, hc, hd⟩ := hy.inv3
      exact slca_sound (hl := true) (hh := true) (hm := true) R hu he h0 hn (by simp) ha hb hc hd
  · cases h

theorem okVal_sound (R : Rel A B0 w0 g S w) {o : Oper} {i : Iop} {os : List Operand} (h : okVal P o.op i = some os)
    {xs : List AV} (hx : VT g S S.length xs (os.map ρ)) : SoundN A P B0 w0 g S w (execOp ρ o) (evalOp cx base env i xs S) := by
  obtain ⟨dst, op, ty, pos, after, guard⟩ := o
  have ret : ∀ (v : AV) (cv : Value), V g S S.length v cv → SoundN A P B0 w0 g S w (pure (.value cv)) (some (.ret v, S)) := by
    intro v cv hv v' S' e
    cases e
    exact ⟨cv, w, g, .inl rfl, R, hv, fun k => Le.refl _ _ _, rfl⟩
  cases op with
  | move x =>
    simp only [okVal] at h
    split at h <;> cases h
    obtain ⟨a, rfl, ha⟩ := hx.inv1
    exact ret a _ ha
  | assign x =>
    simp only [okVal] at h
    split at h <;> cases h
    obtain ⟨a, rfl, ha⟩ := hx.inv1
    exact ret a _ ha
  | pick c a b =>
    simp only [okVal] at h
    split at h <;> cases h
    obtain ⟨x, y, z, rfl, hx, hy, hz⟩ := hx.inv3
    intro v S' e
    obtain ⟨cv, w', g', h1, h2⟩ := pick_sound (P := P) R hx hy hz v S' e
    refine ⟨cv, w', g', .inl ?_, h2⟩
    simp only [Sem.run_bind, Sem.run_pure] at h1
    simp only [execOp, Sem.run_bind, Sem.run_pure]
    cases hb : (asBool (ρ c)).run P w with
    | ok t w1 =>
      rw [hb] at h1
      simp only [Result.andThen_ok, Result.ok.injEq] at h1
      obtain ⟨rfl, rfl⟩ := h1
      simp [Result.andThen]
    | halt q w1 => rw [hb] at h1; simp [Result.andThen] at h1
  | alloc t =>
    simp only [okVal] at h
    split at h
    · split at h
      · rename_i hc
        cases h
        simp only [Bool.and_eq_true, beq_iff_eq] at hc
        obtain ⟨rfl, hz⟩ := hc
        rw [hx.inv0]
        exact Sound.v (alloc_sound R hz)
      · cases h
    · cases h
  | box t x =>
    simp only [okVal] at h
    split at h
    · split at h
      · rename_i hc
        cases h
        simp only [beq_iff_eq] at hc
        subst hc
        obtain ⟨a, rfl, ha⟩ := hx.inv1
        exact Sound.v (box_sound R ha)
      · cases h
    · cases h
  | build t ps =>
    simp only [okVal] at h
    split at h
    · split at h
      · rename_i zero parts hc
        cases h
        simp only [Bool.and_eq_true] at hc
        obtain ⟨⟨h1, h2⟩, h3⟩ := hc
        have hl : (ps.toList.map (·.1)).length = xs.length := by
          have := VT.length _ _ hx
          simp at this
          simp [this]
        have hz : ps.map (fun x => (x.1, ρ x.2)) = (((ps.toList.map (·.1)).zip ((ps.toList.map (·.2)).map ρ))).toArray := by
          apply Array.ext'
          simp [List.zip_map', List.map_map, Function.comp_def]
        have := build_sound R h1 h2 (fun fs hu => by
          unfold partSz at h3
          rw [hu] at h3
          exact h3) (fun n e hu => by
          unfold partSz at h3
          rw [hu] at h3
          exact h3) hl hx
        rw [← hz] at this
        exact Sound.v this
      · cases h
    · cases h
  | buildSlice t n ps =>
    simp only [okVal] at h
    split at h
    · split at h
      · rename_i s et e zero n' is hc
        cases h
        simp only [Bool.and_eq_true, beq_iff_eq, decide_eq_true_eq] at hc
        obtain ⟨⟨⟨h1, rfl⟩, h3⟩, rfl⟩ := hc
        have hl : (ps.toList.map (·.1)).length = xs.length := by
          have := VT.length _ _ hx
          simp at this
          simp [this]
        have hz : ps.map (fun x => (x.1, ρ x.2)) = (((ps.toList.map (·.1)).zip ((ps.toList.map (·.2)).map ρ))).toArray := by
          apply Array.ext'
          simp [List.zip_map', List.map_map, Function.comp_def]
        have := bslice_sound R (b := base + s) h1 h3 hl hx
        rw [← hz] at this
        exact Sound.v this
      · cases h
    · cases h
  | load t a =>
    simp only [okVal] at h
    split at h
    · split at h
      · rename_i hc
        cases h
        obtain ⟨a, rfl, ha⟩ := hx.inv1
        exact Sound.v (load_sound R hc ha)
      · cases h
    · cases h
  | store t a v =>
    simp only [okVal] at h
    split at h
    · split at h
      · rename_i hc
        cases h
        simp only [beq_iff_eq] at hc
        obtain ⟨a, b, rfl, ha, hb⟩ := hx.inv2
        intro v' S' e
        obtain ⟨w', g', h1, h2, rfl, h4, h5⟩ := store_sound R hc ha hb v' S' e
        exact ⟨undef, w', g', .inr ⟨by simp [execOp, h1, Result.andThen], rfl⟩, h2, by simp [V], h4, h5⟩
      · cases h
    · cases h
  | nilCheck x =>
    simp only [okVal] at h
    split at h
    · cases h
      obtain ⟨a, rfl, ha⟩ := hx.inv1
      intro v S' e
      have e' : opNilchk [a] S = some (.ret v, S') := e
      obtain ⟨rfl, rfl⟩ := nilchk_sound R ha v S' e'
      have hp : ∀ ad, ρ x = .pointer (some ad) → (execOp ρ ⟨dst, .nilCheck x, ty, pos, after, guard⟩).run P w = .ok (.value (ρ x)) w := by
        intro ad hr
        simp [execOp, hr]
      have hf : ∀ f a c, ρ x = .func (.func f) a c → (execOp ρ ⟨dst, .nilCheck x, ty, pos, after, guard⟩).run P w = .ok (.value (ρ x)) w := by
        intro f a c hr
        simp [execOp, hr]
      refine ⟨ρ x, w, g, .inl ?_, R, ha, fun k => Le.refl _ _ _, rfl⟩
      simp only [opNilchk] at e'
      split at e'
      rotate_left
      · cases e'
      rename_i hl
      split at e'
      · simp only [liveB, Bool.and_eq_true, beq_iff_eq] at hl
        simp only [V] at ha
        obtain ⟨cb, sz, _, hr⟩ := ha.2.2.2 hl.1 0 hl.2
        exact hp _ hr
      · rename_i b' ver' i' k'
        simp only [liveB, Bool.and_eq_true, beq_iff_eq] at hl
        have : ∃ e, Sto.sig S' b' = some (1, e) := by
          have h2 := hl.2
          split at h2
          · rename_i e he
            exact ⟨e, he⟩
          · cases h2
        obtain ⟨e2, he⟩ := this
        simp only [V] at ha
        obtain ⟨cb, sz, _, hr⟩ := ha.2.2.2 hl.1 e2 he
        exact hp _ hr
      · simp only [V] at ha
        obtain ⟨cb, off, arr, hr, _⟩ := ha
        exact hp _ hr
      · simp only [V] at ha
        obtain ⟨a, c, hr, _⟩ := ha
        exact hf _ _ _ hr
      · cases e'
    · cases h
  | binOp op t x y yt =>
    simp only [okVal] at h
    split at h
    · rename_i hc
      cases h
      exact Sound.v (binOk_sound R hc hx)
    · cases h
  | unOp op t x =>
    cases op <;> simp only [okVal] at h <;> first | (cases h; done) | skip
    split at h <;> cases h
    obtain ⟨a, rfl, ha⟩ := hx.inv1
    exact Sound.v (bnot_sound R ha)
  | convert s d x =>
    simp only [okVal] at h
    split at h
    · rename_i hc
      cases h
      exact Sound.v (convOk_sound R hc hx)
    · cases h
  | sliceToArrayPointer arr x =>
    simp only [okVal] at h
    split at h
    · split at h
      · rename_i m et hu
        split at h
        · rename_i hc
          cases h
          simp only [beq_iff_eq] at hc
          subst hc
          obtain ⟨a, rfl, ha⟩ := hx.inv1
          exact Sound.v (arrp_sound R hu ha)
        · cases h
      · cases h
    · cases h
  | makeInterface t x =>
    simp only [okVal] at h
    split at h
    · split at h
      · rename_i hc
        cases h
        simp only [Bool.and_eq_true, beq_iff_eq] at hc
        obtain ⟨rfl, hn⟩ := hc
        obtain ⟨a, rfl, ha⟩ := hx.inv1
        cases hu : P.underlying t with
        | none => simp [noIface, hu] at hn
        | some d => exact Sound.v (mkifc_sound R hu (by cases d <;> simp_all [noIface]) ha)
      · cases h
    · cases h
  | makeFunc fn first cap =>
    cases fn <;> simp only [okVal] at h <;> first | (cases h; done) | skip
    split at h
    · split at h
      · rename_i f _ f' nf hc
        cases h
        simp only [Bool.and_eq_true, beq_iff_eq] at hc
        obtain ⟨rfl, rfl⟩ := hc
        have e1 : (((first.toList ++ cap.toList).map ρ).take first.size).toArray = first.map ρ := by
          apply Array.ext'
          simp
        have e2 : (((first.toList ++ cap.toList).map ρ).drop first.size).toArray = cap.map ρ := by
          apply Array.ext'
          simp
        have := mkfn_sound (P := P) R (f := f) (nf := first.size) hx
        rw [e1, e2] at this
        exact Sound.v this
      · cases h
    · cases h
  | makeMap t r =>
    cases r <;> simp only [okVal] at h <;> first | (cases h; done) | skip
    split at h <;> cases h
    rw [hx.inv0]
    exact Sound.v (mkmap_sound R)
  | makeSlice t l c =>
    simp only [okVal] at h
    split at h
    · split at h
      · rename_i hc
        cases h
        obtain ⟨a, b, rfl, ha, hb⟩ := hx.inv2
        exact Sound.v (mkslice_sound R hc ha hb)
      · cases h
    · cases h
  | slice t x lo hi mx =>
    simp only [okVal] at h
    split at h
    · rename_i hc
      cases h
      refine Sound.v (sliOk_sound R hc ?_)
      have : List.map ρ ([x] ++ lo.toList ++ hi.toList ++ mx.toList) = [ρ x] ++ (lo.map ρ).toList ++ (hi.map ρ).toList ++ (mx.map ρ).toList := by
        cases lo <;> cases hi <;> cases mx <;> rfl
      rw [← this]
      exact hx
    · cases h
  | fieldAddr s x k =>
    simp only [okVal] at h
    split at h
    · split at h
      · rename_i hc
        cases h
        obtain ⟨a, rfl, ha⟩ := hx.inv1
        exact Sound.v (fadr_sound R hc ha)
      · cases h
    · cases h
  | field s x k =>
    simp only [okVal] at h
    split at h
    · split at h
      · rename_i off n _ fo ft hf
        split at h
        · rename_i hc
          cases h
          simp only [Bool.and_eq_true, beq_iff_eq] at hc
          obtain ⟨rfl, hl⟩ := hc
          obtain ⟨a, rfl, ha⟩ := hx.inv1
          have := fld_sound (off := fo) R hl ha
          refine Sound.v ?_
          unfold fieldB at hf
          split at hf
          · rename_i fs hu
            cases hk : fs[k]? with
            | none => rw [hk] at hf; cases hf
            | some f =>
              rw [hk] at hf
              cases hf
              intro v S' e
              obtain ⟨cv, w', g', h1, h2⟩ := this v S' e
              exact ⟨cv, w', g', by rw [← h1]; simp [Instr.field, run_underlying hu, Result.andThen, hk], h2⟩
          · cases hf
        · cases h
      · cases h
    · cases h
  | indexAddr t x ix =>
    simp only [okVal] at h
    split at h
    · split at h
      · rename_i u hu
        split at h
        · rename_i hc
          cases h
          simp only [beq_iff_eq] at hc
          obtain ⟨a, b, rfl, ha, hb⟩ := hx.inv2
          exact Sound.v (iadr_sound R hu hc ha hb)
        · cases h
      · cases h
    · split at h
      · rename_i hc
        cases h
        obtain ⟨u, hu, he⟩ := arrOk.out hc
        obtain ⟨a, b, rfl, ha, hb⟩ := hx.inv2
        exact Sound.v (iadra_sound R hu he ha hb)
      · cases h
    · cases h
  | index t x ix =>
    simp only [okVal] at h
    split at h
    · split at h
      · rename_i hc
        cases h
        simp only [Bool.and_eq_true] at hc
        obtain ⟨u, hu, he⟩ := arrOk.out hc.1
        have hl := hc.2
        unfold arrLd at hl
        rw [hu] at hl
        obtain ⟨a, b, rfl, ha, hb⟩ := hx.inv2
        exact Sound.v (idx_sound R hu he hl ha hb)
      · cases h
    · split at h
      · rename_i hc
        cases h
        obtain ⟨a, b, rfl, ha, hb⟩ := hx.inv2
        exact Sound.v (idxs_sound R (isStr.out hc) ha hb)
      · cases h
    · cases h
  | lookup t m k ok =>
    simp only [okVal] at h
    split at h
    · split at h
      · split at h
        · rename_i hc
          cases h
          simp only [Bool.and_eq_true, beq_iff_eq] at hc
          obtain ⟨⟨h1, h2⟩, rfl⟩ := hc
          obtain ⟨a, b, rfl, ha, hb⟩ := hx.inv2
          exact Sound.v (look_sound R h1 h2 ha hb)
        · cases h
      · cases h
    · cases h
  | mapUpdate t m k x =>
    simp only [okVal] at h
    split at h
    · split at h
      · split at h
        · rename_i hc
          cases h
          obtain ⟨a, b, c, rfl, ha, hb, hcc⟩ := hx.inv3
          exact Sound.u (mapset_sound R hc ha hb hcc)
        · cases h
      · cases h
    · cases h
  | insert t m k x =>
    simp only [okVal] at h
    split at h
    · split at h
      · split at h
        · rename_i hc
          cases h
          obtain ⟨a, b, c, rfl, ha, hb, hcc⟩ := hx.inv3
          exact Sound.u (mapset_sound R hc ha hb hcc)
        · cases h
      · cases h
    · cases h
  | range t x =>
    simp only [okVal] at h
    split at h
    · split at h
      · rename_i hc
        cases h
        obtain ⟨a, rfl, ha⟩ := hx.inv1
        exact Sound.v (srange_sound R (isStr.out hc) ha)
      · cases h
    · cases h
  | next x b =>
    cases b <;> simp only [okVal] at h <;> first | (cases h; done) | skip
    split at h <;> cases h
    obtain ⟨a, rfl, ha⟩ := hx.inv1
    exact Sound.v (next_sound R ha)
  | typeAssert x xt t ok =>
    simp only [okVal] at h
    split at h
    · split at h
      · rename_i hc
        cases h
        simp only [Bool.and_eq_true, beq_iff_eq, Bool.or_eq_true, Bool.not_eq_true'] at hc
        obtain ⟨⟨⟨rfl, hn⟩, hz⟩, rfl⟩ := hc
        obtain ⟨a, rfl, ha⟩ := hx.inv1
        exact Sound.v (tass_sound R hn (fun e => by subst e; simpa using hz) ha)
      · cases h
    · cases h
  | extract x k =>
    simp only [okVal] at h
    split at h
    · split at h
      · rename_i hc
        cases h
        simp only [beq_iff_eq] at hc
        subst hc
        obtain ⟨a, rfl, ha⟩ := hx.inv1
        exact Sound.v (extr_sound R ha)
      · cases h
    · cases h
  | call c =>
    obtain ⟨callee, args, argTypes⟩ := c
    cases callee <;> simp only [okVal] at h <;> first | (cases h; done) | skip
    rename_i b
    have e : execOp ρ ⟨dst, .call ⟨.builtin b, args, argTypes⟩, ty, pos, after, guard⟩ = builtin b argTypes ty (args.map fun | .const _ => true | _ => false) (args.map ρ) := rfl
    rw [e]
    exact okBuiltin_sound R h hx
  | _ => simp only [okVal] at h; cases h
end

end Go.Wm

set_option linter.unusedVariables false
set_option linter.unusedSimpArgs false
namespace Go.Wm
open Go.RowKit

variable {P : Program} {b : Frame} {tm : Array Value} {k : List Item} {cs : List Frame} {w : World}

/-- a frame that runs -/
def fat (b : Frame) (tm : Array Value) (todo : List Item) : Frame := { b with tmps := tm, todo := todo, mode := .run }

/-- what an operand is -/
def ev (tm : Array Value) : Operand → Value
  | .tmp t => tm.getD t undef
  | .const v => v
  | .global g => .pointer (some ⟨g, 0, none⟩)
  | .func f => .func (.func f) #[] #[]
theorem fat_eval (todo : List Item) : (fat b tm todo).eval = ev tm := by
  funext x
  cases x <;> rfl

def putT (tm : Array Value) (d : Option Tmp) (v : Value) : Array Value :=
  match d with
  | some t => tm.setIfInBounds t v
  | none => tm
theorem fat_finish (ops : Array Oper) (i : Nat) (rest : List Nat) (v : Value) :
    (fat b tm (.inRegion ops (i :: rest) :: k)).finish v = fat b (putT tm ((ops[i]?).bind (·.dst)) v) (.inRegion ops rest :: k) := by
  cases h : (ops[i]?).bind (·.dst) <;> simp [Frame.finish, fat, putT, h]

theorem st_skip : step P (lone (fat b tm (.code .skip :: k)) cs w) = .next (lone (fat b tm k) cs w) :=
  step_lone_go (by simp [stepG, stepG.exec, fat])
theorem st_label {l : Nat} : step P (lone (fat b tm (.code (.label l) :: k)) cs w) = .next (lone (fat b tm k) cs w) :=
  step_lone_go (by simp [stepG, stepG.exec, fat])
theorem st_inBlock {id : Nat} : step P (lone (fat b tm (.inBlock id :: k)) cs w) = .next (lone (fat b tm k) cs w) :=
  step_lone_go (by simp [stepG, stepG.exec, fat])
theorem st_inScope {c : Code} : step P (lone (fat b tm (.inScope c :: k)) cs w) = .next (lone (fat b tm k) cs w) :=
  step_lone_go (by simp [stepG, stepG.exec, fat])
theorem st_seq {x y : Code} : step P (lone (fat b tm (.code (.seq x y) :: k)) cs w) = .next (lone (fat b tm (.code x :: .code y :: k)) cs w) :=
  step_lone_go (by simp [stepG, stepG.exec, fat])
theorem st_cond {c : Operand} {x y : Code} {t : Bool} (h : ev tm c = .bool t) :
    step P (lone (fat b tm (.code (.cond c x y) :: k)) cs w) = .next (lone (fat b tm (.code (if t then x else y) :: k)) cs w) :=
  step_lone_go (by
    have := congrFun (fat_eval (b := b) (tm := tm) (.code (.cond c x y) :: k)) c
    simp only [fat] at this
    simp [stepG, stepG.exec, fat, this, h])
theorem st_block {id : Nat} {c : Code} : step P (lone (fat b tm (.code (.block id c) :: k)) cs w) = .next (lone (fat b tm (.code c :: .inBlock id :: k)) cs w) :=
  step_lone_go (by simp [stepG, stepG.exec, fat])
theorem st_loop {c : Code} : step P (lone (fat b tm (.code (.loop c) :: k)) cs w) = .next (lone (fat b tm (.code c :: .inLoop c :: k)) cs w) :=
  step_lone_go (by simp [stepG, stepG.exec, fat])
theorem st_inLoop {c : Code} : step P (lone (fat b tm (.inLoop c :: k)) cs w) = .next (lone (fat b tm (.code c :: .inLoop c :: k)) cs w) :=
  step_lone_go (by simp [stepG, stepG.exec, fat])
theorem st_scope {c : Code} : step P (lone (fat b tm (.code (.scope c) :: k)) cs w) = .next (lone (fat b tm (.code c :: .inScope c :: k)) cs w) :=
  step_lone_go (by simp [stepG, stepG.exec, fat])
theorem st_exit {id : Nat} {k' : List Item} (h : exitTo id k = some k') : step P (lone (fat b tm (.code (.exit id) :: k)) cs w) = .next (lone (fat b tm k') cs w) :=
  step_lone_go (by simp [stepG, stepG.exec, fat, h])
theorem st_goto {l : Nat} {k' : List Item} (h : gotoIn l k = some k') : step P (lone (fat b tm (.code (.goto l) :: k)) cs w) = .next (lone (fat b tm k') cs w) :=
  step_lone_go (by simp [stepG, stepG.exec, fat, h])
theorem st_ret (hb : b.roundOf = none) : step P (lone (fat b tm (.code .ret :: k)) cs w) = .next (lone { fat b tm (.code .ret :: k) with mode := .returning } cs w) :=
  step_lone_go (by simp [stepG, stepG.exec, fat, hb])
theorem st_end (hb : b.roundOf = none) : step P (lone (fat b tm []) cs w) = .next (lone { fat b tm [] with mode := .returning } cs w) :=
  step_lone_go (by simp [stepG, stepG.exec, fat, hb])

variable {ops : Array Oper}
theorem st_region {id : Nat} : step P (lone (fat b tm (.code (.region id ops false) :: k)) cs w) = .next (lone (fat b tm (.inRegion ops (List.range ops.size) :: k)) cs w) :=
  step_lone_go (by simp [stepG, stepG.exec, fat])
theorem st_region_draw {id : Nat} : step P (lone (fat b tm (.code (.region id ops true) :: k)) cs w) =
      .next (lone (fat b tm (.inRegion ops (Region.schedule (P.follows .mixedOrders) ops (w.tape w.drawn (.order b.fn id))) :: k)) cs { w with drawn := w.drawn + 1 }) :=
  step_lone_go (by simp [stepG, stepG.exec, fat, choose, Sem.run, Question.forced, Question.cut])
theorem st_region_end : step P (lone (fat b tm (.inRegion ops [] :: k)) cs w) = .next (lone (fat b tm k) cs w) :=
  step_lone_go (by simp [stepG, stepG.exec, fat])
theorem st_op_skip {i : Nat} {rest : List Nat} (h : ((ops[i]?).map (Region.wanted · (yielded ops tm))).getD false = false) :
    step P (lone (fat b tm (.inRegion ops (i :: rest) :: k)) cs w) = .next (lone (fat b (putT tm ((ops[i]?).bind (·.dst)) undef) (.inRegion ops rest :: k)) cs w) := by
  rw [← fat_finish]
  exact step_lone_go (by
    have h' := h
    simp only [fat] at *
    simp [stepG, stepG.exec, h'])

/-- an operation that is no defer, or no round's -/
theorem stG_op {i : Nat} {rest : List Nat} {o : Oper} (ho : ops[i]? = some o) (hw : Region.wanted o (yielded ops tm) = true) (hd : b.roundOf = none ∨ ∀ c, o.op ≠ .defer c) :
    stepG P true { frame := fat b tm (.inRegion ops (i :: rest) :: k), callers := cs, status := .running, dying := none } w =
      stepG.apply P true (fat b tm (.inRegion ops (i :: rest) :: k)) cs none (execOp (ev tm) o) w := by
  have he := fat_eval (b := b) (tm := tm) (.inRegion ops (i :: rest) :: k)
  simp only [fat] at he
  rcases hd with hd | hd
  · rw [hd] at he
    simp [stepG, stepG.exec, stepG.oper, Frame.oper?, fat, ho, hw, he, hd]
  · obtain ⟨dst, op, ty, pos, after, guard⟩ := o
    cases hr : b.roundOf with
    | none =>
      rw [hr] at he
      simp [stepG, stepG.exec, stepG.oper, Frame.oper?, fat, ho, hw, he, hr]
    | some l =>
      rw [hr] at he
      simp only [stepG, stepG.exec, stepG.oper, Frame.oper?, fat, ho, hw, he, hr, Option.map_some, Option.getD_some, if_true]
      split
      · exact absurd rfl (hd _)
      · rfl

/-- an operation that gives a value, or none -/
theorem st_op {i : Nat} {rest : List Nat} {o : Oper} {v : Value} {w' : World} (ho : ops[i]? = some o) (hw : Region.wanted o (yielded ops tm) = true) (hd : b.roundOf = none ∨ ∀ c, o.op ≠ .defer c)
    (h : (execOp (ev tm) o).run P w = .ok (.value v) w' ∨ ((execOp (ev tm) o).run P w = .ok .skip w' ∧ v = undef)) :
    step P (lone (fat b tm (.inRegion ops (i :: rest) :: k)) cs w) = .next (lone (fat b (putT tm o.dst v) (.inRegion ops rest :: k)) cs w') := by
  have hf := fat_finish (b := b) (tm := tm) (k := k) ops i rest v
  rw [ho] at hf
  simp only [Option.bind_some] at hf
  rw [← hf]
  refine step_lone_go ?_
  rw [stG_op ho hw hd]
  rcases h with h | ⟨h, rfl⟩
  · simp [stepG.apply, h]
  · simp [stepG.apply, h]

/-- an operation that panics -/
theorem st_op_panic {i : Nat} {rest : List Nat} {o : Oper} {v : Value} {w' : World} (ho : ops[i]? = some o) (hw : Region.wanted o (yielded ops tm) = true) (hd : b.roundOf = none ∨ ∀ c, o.op ≠ .defer c)
    (h : (execOp (ev tm) o).run P w = .halt (.panic v) w') :
    step P (lone (fat b tm (.inRegion ops (i :: rest) :: k)) cs w) = .next (lone ((fat b tm (.inRegion ops (i :: rest) :: k)).raise [{ v, recovered := false }]) cs w') := by
  refine step_lone_go ?_
  rw [stG_op ho hw hd]
  simp [stepG.apply, h]

/-- an operation that enters a function -/
theorem st_op_enter {i : Nat} {rest : List Nat} {o : Oper} {f : FuncId} {args : Array Value} {w' : World} (ho : ops[i]? = some o) (hw : Region.wanted o (yielded ops tm) = true) (hd : b.roundOf = none ∨ ∀ c, o.op ≠ .defer c)
    (h : (execOp (ev tm) o).run P w = .ok (.enter f args) w') :
    step P (lone (fat b tm (.inRegion ops (i :: rest) :: k)) cs w) = .next (lone (Frame.enter P f args .normal) (fat b tm (.inRegion ops (i :: rest) :: k) :: cs) w') := by
  refine step_lone_go ?_
  rw [stG_op ho hw hd]
  simp [stepG.apply, h, fat]

/-- an operation that enters a round -/
theorem st_op_round {i : Nat} {rest : List Nat} {o : Oper} {l : Nat} {f : FuncId} {tmps : Array Value} {as bo : Code} {w' : World} (ho : ops[i]? = some o) (hw : Region.wanted o (yielded ops tm) = true) (hd : b.roundOf = none ∨ ∀ c, o.op ≠ .defer c)
    (h : (execOp (ev tm) o).run P w = .ok (.round l f tmps as bo) w') :
    step P (lone (fat b tm (.inRegion ops (i :: rest) :: k)) cs w) = .next (lone (Frame.round l f tmps as bo .normal) (fat b tm (.inRegion ops (i :: rest) :: k) :: cs) w') := by
  refine step_lone_go ?_
  rw [stG_op ho hw hd]
  simp [stepG.apply, h, fat]

end Go.Wm

set_option linter.unusedVariables false
set_option linter.unusedSimpArgs false
namespace Go.Wm
open Go.RowKit

variable {A : Alike} {P : Program} {B0 : Nat} {w0 w w' : World} {g g' : Sg} {S S' : Sto} {k : Nat} {env : Env} {tm : Array Value}

def opdOk (n : Nat) : Opd → Operand → Bool
  | .t i, .tmp j => i == j && i < n
  | .c x, .const v => constOk x v
  | .c (.fn f [] []), .func f' => f == f'
  | _, _ => false
def opdsOk (n : Nat) : List Opd → List Operand → Bool
  | [], [] => true
  | x :: xs, o :: os => opdOk n x o && opdsOk n xs os
  | _, _ => false

theorem opd_sound (E : ER g S k env tm) {n : Nat} (hn : n ≤ 900000) {x : Opd} {o : Operand} (h : opdOk n x o = true) : V g S k (x.get env) (ev tm o) := by
  unfold opdOk at h
  split at h
  · simp only [Bool.and_eq_true, beq_iff_eq, decide_eq_true_eq] at h
    obtain ⟨rfl, h⟩ := h
    exact E _ (by omega)
  · exact constOk.V h
  · simp only [beq_iff_eq] at h
    subst h
    simp only [Opd.get, V, ev]
    exact ⟨[], [], rfl, by simp [VT], by simp [VT]⟩
  · cases h
theorem opds_sound (E : ER g S k env tm) {n : Nat} (hn : n ≤ 900000) : ∀ {xs : List Opd} {os : List Operand}, opdsOk n xs os = true → VT g S k (xs.map (·.get env)) (os.map (ev tm))
  | [], [], _ => by simp [VT]
  | [], _ :: _, h => by simp [opdsOk] at h
  | _ :: _, [], h => by simp [opdsOk] at h
  | x :: xs, o :: os, h => by
    simp only [opdsOk, Bool.and_eq_true] at h
    simp only [List.map_cons, VT]
    exact ⟨_, _, rfl, opd_sound E hn h.1, opds_sound E hn h.2⟩

theorem Env.get_cons (t u : Nat) (x : AV) (env : Env) : Env.get ((t, x) :: env) u = if u = t then x else env.get u := by
  unfold Env.get
  simp only [List.lookup]
  by_cases h : u = t
  · subst h; simp
  · have : (u == t) = false := by simpa using h
    simp [this, h]

theorem ER.put (E : ER g S k env tm) {t : Nat} (ht : t < tm.size) {v : AV} {cv : Value} (hv : V g S k v cv) : ER g S k ((t, v) :: env) (tm.setIfInBounds t cv) := by
  intro u hu
  rw [Env.get_cons]
  split
  · rename_i h
    subst h
    simpa [Array.getD, ht] using hv
  · rename_i h
    have := E u hu
    have h' : t ≠ u := fun e => h e.symm
    have e : (tm.setIfInBounds t cv).getD u undef = tm.getD u undef := by
      rw [Array.getD_eq_getD_getElem?, Array.getD_eq_getD_getElem?, Array.getElem?_setIfInBounds_ne h']
    rw [e]
    exact this

/-- slots of the evaluator's own -/
theorem ER.own (E : ER g S k env tm) {t : Nat} (ht : 900000 ≤ t) {v : AV} : ER g S k ((t, v) :: env) tm := by
  intro u hu
  rw [Env.get_cons, if_neg (by omega)]
  exact E u hu

def dstOk (n : Nat) : Option Nat → Bool
  | some t => t < n
  | none => true
theorem ER.putT (E : ER g S k env tm) {d : Option Nat} (hd : dstOk tm.size d = true) {v : AV} {cv : Value} (hv : V g S k v cv) : ER g S k (env.put d v) (putT tm d cv) := by
  cases d with
  | none => exact E
  | some t => exact E.put (by simpa [dstOk] using hd) hv
theorem size_putT (d : Option Nat) (cv : Value) : (Wm.putT tm d cv).size = tm.size := by cases d <;> simp [Wm.putT]

theorem Env.get_keep (env : Env) : ∀ (ks : List Nat) (u : Nat), Env.get (env.keep ks) u = if u ∈ ks then env.get u else .any
  | [], u => by simp [Env.keep, Env.get]
  | t :: ks, u => by
    have ih := Env.get_keep env ks u
    have : env.keep (t :: ks) = (t, env.get t) :: env.keep ks := rfl
    rw [this, Env.get_cons, ih]
    by_cases h : u = t
    · subst h; simp
    · simp [h]
theorem ER.keep (E : ER g S k env tm) (ks : List Nat) : ER g S k (env.keep ks) tm := by
  intro u hu
  rw [Env.get_keep]
  split
  · exact E u hu
  · simp [V]

/-- a guard: the slot of the operation that it asks -/
def guardOk (n : Nat) (ops : Array Oper) : Option (Nat × Bool) → Option (Nat × Bool) → Bool
  | none, none => true
  | some (t, b), some (j, b') => b == b' && (match (ops[j]?).bind (·.dst) with | some d => d == t && t < n | none => false)
  | _, _ => false

theorem guard_bool (E : ER g S k env tm) {ops : Array Oper} {t j : Nat} {b c : Bool} (h : (ops[j]?).bind (·.dst) = some t) (ht : t < tm.size) (ht' : t < 900000) (hv : env.get t = .bool c) :
    yielded ops tm j = some c := by
  have := E t ht'
  rw [hv] at this
  simp only [V] at this
  unfold yielded
  rw [h]
  have h2 : tm[t]? = some (.bool c) := by
    rw [← this]
    simp [Array.getD, ht]
  simp [h2]
theorem guard_tup (E : ER g S k env tm) {ops : Array Oper} {t j : Nat} {vs : List AV} (h : (ops[j]?).bind (·.dst) = some t) (ht : t < tm.size) (ht' : t < 900000) (hv : env.get t = .tup vs) :
    yielded ops tm j = none := by
  have := E t ht'
  rw [hv] at this
  simp only [V] at this
  obtain ⟨us, hu, _⟩ := this
  unfold yielded
  rw [h]
  have h2 : tm[t]? = some (.tuple us.toArray) := by
    rw [← hu]
    simp [Array.getD, ht]
  simp [h2]

end Go.Wm

set_option linter.unusedVariables false
set_option linter.unusedSimpArgs false
namespace Go.Wm
open Go.Region

/-- an order that begins behind `done`, and keeps the edges that bind -/
def Order (m : Region.Mode) (ops : Array Oper) : List Nat → List Nat → Prop
  | _, [] => True
  | done, i :: rest => i ∉ done ∧ (∃ o, ops[i]? = some o ∧ ∀ e ∈ o.after, binds m e = true → e.on ∈ done) ∧ Order m ops (i :: done) rest

/-- the array of what is listed says the same as the list -/
def Listed (n : Nat) (l : Array Bool) (done : List Nat) : Prop := l.size = n ∧ ∀ i, i < n → (l.getD i true = true ↔ i ∈ done)

theorem Listed.set {n : Nat} {l : Array Bool} {done : List Nat} (h : Listed n l done) {i : Nat} (hi : i < n) : Listed n (l.setIfInBounds i true) (i :: done) := by
  refine ⟨by simp [h.1], fun j hj => ?_⟩
  have := h.2 j hj
  by_cases e : i = j
  · subst e
    simp [Array.getD, h.1, hi]
  · have e' : (l.setIfInBounds i true).getD j true = l.getD j true := by
      rw [Array.getD_eq_getD_getElem?, Array.getD_eq_getD_getElem?, Array.getElem?_setIfInBounds_ne e]
    rw [e', this]
    constructor
    · exact fun h => List.mem_cons_of_mem _ h
    · intro h
      rcases List.mem_cons.1 h with h | h
      · exact absurd h.symm e
      · exact h

/-- operations that are ready -/
def ready (m : Region.Mode) (ops : Array Oper) (l : Array Bool) : List Nat :=
  (List.range ops.size).filter fun i => !l.getD i true && ((ops[i]?).map (·.after.all fun e => !binds m e || l.getD e.on false)).getD false

theorem go_order {m : Region.Mode} {ops : Array Oper} : ∀ (fuel t : Nat) (l : Array Bool) (acc done : List Nat), Listed ops.size l done →
    ∃ σ, linearise.go m ops fuel t l acc = acc.reverse ++ σ ∧ Order m ops done σ ∧ (∀ i ∈ σ, i < ops.size) ∧
      (σ.length < fuel → ∃ l' done', Listed ops.size l' done' ∧ ready m ops l' = [] ∧ ∀ i, i ∈ done' ↔ i ∈ σ ∨ i ∈ done)
  | 0, t, l, acc, done, h => ⟨[], by simp [linearise.go], trivial, by simp, by simp⟩
  | fuel + 1, t, l, acc, done, h => by
    have hgo : linearise.go m ops (fuel + 1) t l acc = (match (ready m ops l)[t % (ready m ops l).length]? with
      | some i => linearise.go m ops fuel (t / (ready m ops l).length) (l.setIfInBounds i true) (i :: acc)
      | none => acc.reverse) := rfl
    rw [hgo]
    cases hr : (ready m ops l)[t % (ready m ops l).length]? with
    | none =>
      refine ⟨[], by simp, trivial, by simp, fun _ => ⟨l, done, h, ?_, by simp⟩⟩
      cases he : ready m ops l with
      | nil => rfl
      | cons a as =>
        rw [he] at hr
        have := List.getElem?_eq_none_iff.1 hr
        have h2 := Nat.mod_lt t (show 0 < (a :: as).length by simp)
        omega
    | some i =>
      have hm := List.mem_of_getElem? hr
      simp only [ready, List.mem_filter, List.mem_range, Bool.and_eq_true, Bool.not_eq_true'] at hm
      obtain ⟨hi, hl, ho⟩ := hm
      obtain ⟨σ, h1, h2, h3, h4⟩ := go_order fuel (t / (ready m ops l).length) (l.setIfInBounds i true) (i :: acc) (i :: done) (h.set hi)
      refine ⟨i :: σ, by simp [h1], ⟨?_, ?_, h2⟩, ?_, ?_⟩
      · intro hd
        have := (h.2 i hi).2 hd
        rw [this] at hl
        cases hl
      · cases hop : ops[i]? with
        | none => rw [hop] at ho; cases ho
        | some o =>
          refine ⟨o, rfl, fun e he hb => ?_⟩
          rw [hop] at ho
          simp only [Option.map_some, Option.getD_some, Array.all_eq_true_iff_forall_mem] at ho
          have := ho e he
          simp only [hb, Bool.not_true, Bool.false_or] at this
          have hlt : e.on < ops.size := by
            rcases Nat.lt_or_ge e.on l.size with hlt | hge
            · rw [h.1] at hlt; exact hlt
            · simp [Array.getD, Nat.not_lt.2 hge] at this
          refine (h.2 e.on hlt).1 ?_
          have hlt' : e.on < l.size := by rw [h.1]; exact hlt
          simp only [Array.getD, hlt', dif_pos] at this ⊢
          exact this
      · intro j hj
        rcases List.mem_cons.1 hj with rfl | hj
        · exact hi
        · exact h3 j hj
      · intro hlen
        obtain ⟨l', done', h5, h6, h7⟩ := h4 (by simpa using hlen)
        refine ⟨l', done', h5, h6, fun j => ?_⟩
        rw [h7]
        simp only [List.mem_cons]
        constructor
        · rintro (h | h | h)
          · exact .inl (.inr h)
          · exact .inl (.inl h)
          · exact .inr h
        · rintro ((h | h) | h)
          · exact .inr (.inl h)
          · exact .inl h
          · exact .inr (.inr h)

/-- an order of all the operations, as a witness that there is one -/
def wit (m : Region.Mode) (ops : Array Oper) : List Nat → List Nat → Bool
  | seen, [] => (List.range ops.size).all fun i => seen.contains i
  | seen, i :: L => (match ops[i]? with
    | some o => o.after.all fun e => !binds m e || seen.contains e.on
    | none => false) && wit m ops (i :: seen) L

theorem wit_full {m : Region.Mode} {ops : Array Oper} {l : Array Bool} {done : List Nat} (hl : Listed ops.size l done) (hr : ready m ops l = []) :
    ∀ (L seen : List Nat), wit m ops seen L = true → (∀ i ∈ seen, i ∈ done ∧ i < ops.size) → ∀ i, i < ops.size → i ∈ done
  | [], seen, h, hs => fun i hi => by
    simp only [wit, List.all_eq_true, List.mem_range, List.contains_iff_mem] at h
    exact (hs i (h i hi)).1
  | x :: L, seen, h, hs => by
    simp only [wit, Bool.and_eq_true] at h
    obtain ⟨h1, h2⟩ := h
    refine wit_full hl hr L (x :: seen) h2 fun i hi => ?_
    rcases List.mem_cons.1 hi with rfl | hi
    · split at h1
      · rename_i o ho
        have hlt : i < ops.size := (Array.getElem?_eq_some_iff.1 ho).1
        refine ⟨Classical.byContradiction fun hn => ?_, hlt⟩
        have hmem : i ∈ ready m ops l := by
          simp only [ready, List.mem_filter, List.mem_range, Bool.and_eq_true, Bool.not_eq_true']
          refine ⟨hlt, ?_, ?_⟩
          · cases hb : l.getD i true with
            | false => rfl
            | true => exact absurd ((hl.2 i hlt).1 hb) hn
          · simp only [ho, Option.map_some, Option.getD_some, Array.all_eq_true_iff_forall_mem] at h1 ⊢
            intro e he
            have := h1 e he
            simp only [Bool.or_eq_true, Bool.not_eq_true', List.contains_iff_mem] at this ⊢
            rcases this with h | h
            · exact .inl h
            · right
              obtain ⟨hd, hle⟩ := hs _ h
              have h3 := (hl.2 e.on hle).2 hd
              have hlt' : e.on < l.size := by rw [hl.1]; exact hle
              simp only [Array.getD, hlt', dif_pos] at h3 ⊢
              exact h3
        rw [hr] at hmem
        cases hmem
      · cases h1
    · exact hs i hi

theorem linearise_order {m : Region.Mode} {ops : Array Oper} {L : List Nat} (h : wit m ops [] L = true) (t : Nat) :
    ∃ σ, linearise m ops t = σ ∧ Order m ops [] σ ∧ (∀ i ∈ σ, i < ops.size) ∧ (σ.length < ops.size → ∀ i, i < ops.size → i ∈ σ) := by
  have hl : Listed ops.size (Array.replicate ops.size false) [] := ⟨by simp, fun i hi => by simp [Array.getD, hi]⟩
  obtain ⟨σ, h1, h2, h3, h4⟩ := go_order ops.size t (Array.replicate ops.size false) [] [] hl
  refine ⟨σ, by simpa [linearise] using h1, h2, h3, fun hlen i hi => ?_⟩
  obtain ⟨l', done', h5, h6, h7⟩ := h4 hlen
  have := wit_full h5 h6 L [] h (by simp) i hi
  rw [h7] at this
  simpa using this

theorem nodup_le : ∀ (n : Nat) (l : List Nat), l.Nodup → (∀ i ∈ l, i < n) → l.length ≤ n
  | 0, l, _, h => by
    cases l with
    | nil => simp
    | cons a l => exact absurd (h a (by simp)) (by omega)
  | n + 1, l, hn, h => by
    by_cases hm : n ∈ l
    · have h1 := nodup_le n (l.erase n) (hn.erase n) (fun i hi => by
        have h2 := h i (List.mem_of_mem_erase hi)
        have h3 : i ≠ n := by
          rintro rfl
          exact (List.Nodup.not_mem_erase hn) hi
        omega)
      rw [List.length_erase_of_mem hm] at h1
      omega
    · have := nodup_le n l hn (fun i hi => by
        have h2 := h i hi
        have h3 : i ≠ n := by rintro rfl; exact hm hi
        omega)
      omega

theorem Order.nodup {m : Region.Mode} {ops : Array Oper} : ∀ {σ done : List Nat}, Order m ops done σ → σ.Nodup ∧ ∀ i ∈ σ, i ∉ done
  | [], done, h => by simp
  | i :: rest, done, h => by
    obtain ⟨h1, h2⟩ := Order.nodup h.2.2
    refine ⟨List.nodup_cons.2 ⟨fun hi => h2 i hi (by simp), h1⟩, fun j hj => ?_⟩
    rcases List.mem_cons.1 hj with rfl | hj
    · exact h.1
    · exact fun hd => h2 j hj (List.mem_cons_of_mem _ hd)

/-- every order is one of all the operations -/
theorem linearise_all {m : Region.Mode} {ops : Array Oper} {L : List Nat} (h : wit m ops [] L = true) (t : Nat) :
    Order m ops [] (linearise m ops t) ∧ (∀ i, i ∈ linearise m ops t ↔ i < ops.size) := by
  obtain ⟨σ, h1, h2, h3, h4⟩ := linearise_order h t
  rw [h1]
  refine ⟨h2, fun i => ⟨h3 i, fun hi => ?_⟩⟩
  by_cases hlen : σ.length < ops.size
  · exact h4 hlen i hi
  · refine Classical.byContradiction fun hn => ?_
    have := nodup_le ops.size (i :: σ) (List.nodup_cons.2 ⟨hn, h2.nodup.1⟩) (fun j hj => by
      rcases List.mem_cons.1 hj with rfl | hj
      · exact hi
      · exact h3 j hj)
    simp only [List.length_cons] at this
    omega

end Go.Wm

set_option linter.unusedVariables false
set_option linter.unusedSimpArgs false
namespace Go.Wm

def Comm (E F : Sto → R) : Prop := ∀ S a S1 b S2, E S = some (.ret a, S1) → F S1 = some (.ret b, S2) →
  ∃ S3, F S = some (.ret b, S3) ∧ E S3 = some (.ret a, S2)

/-- effects one behind the other: with what each gives, and from which store to which -/
def runE (E : Nat → Sto → R) (v : Nat → AV) : List Nat → Sto → Sto → Prop
  | [], S, S' => S = S'
  | i :: l, S, S' => ∃ S1, E i S = some (.ret (v i), S1) ∧ runE E v l S1 S'

/-- an effect that commutes with those ahead of it goes to the front -/
theorem runE_front {E : Nat → Sto → R} {v : Nat → AV} {i : Nat} : ∀ (pre post : List Nat) (S S' : Sto), (∀ j ∈ pre, Comm (E j) (E i)) → runE E v (pre ++ i :: post) S S' → runE E v (i :: (pre ++ post)) S S'
  | [], post, S, S', hc, h => h
  | j :: pre, post, S, S', hc, h => by
    obtain ⟨S1, h1, h2⟩ := h
    obtain ⟨S2, h3, h4⟩ := runE_front pre post S1 S' (fun x hx => hc x (List.mem_cons_of_mem _ hx)) h2
    obtain ⟨S3, h5, h6⟩ := hc j (by simp) S (v j) S1 (v i) S2 h1 h3
    exact ⟨S3, h5, S2, h6, h4⟩

/-- an edge that binds in every order -/
def predOf (ops : Array Oper) (p i : Nat) : Prop := ∃ o, ops[i]? = some o ∧ ∃ e ∈ o.after, Region.binds .any e = true ∧ e.on = p

theorem binds_any {m : Region.Mode} {e : Edge} (h : Region.binds .any e = true) : Region.binds m e = true := by
  obtain ⟨on, gr⟩ := e
  cases gr <;> simp_all [Region.binds]

/-- an order that keeps what is to be ahead -/
def OrderP (pred : Nat → Nat → Prop) : List Nat → List Nat → Prop
  | _, [] => True
  | done, i :: rest => i ∉ done ∧ (∀ p, pred p i → p ∈ done) ∧ OrderP pred (i :: done) rest
theorem OrderP.nodup {pred : Nat → Nat → Prop} : ∀ {σ done : List Nat}, OrderP pred done σ → σ.Nodup ∧ ∀ i ∈ σ, i ∉ done
  | [], done, h => by simp
  | i :: rest, done, h => by
    obtain ⟨h1, h2⟩ := OrderP.nodup h.2.2
    refine ⟨List.nodup_cons.2 ⟨fun hi => h2 i hi (by simp), h1⟩, fun j hj => ?_⟩
    rcases List.mem_cons.1 hj with rfl | hj
    · exact h.1
    · exact fun hd => h2 j hj (List.mem_cons_of_mem _ hd)
theorem Order.toP {m : Region.Mode} {ops : Array Oper} : ∀ {σ done : List Nat}, Order m ops done σ → OrderP (predOf ops) done σ
  | [], done, h => trivial
  | i :: rest, done, h => by
    obtain ⟨h1, ⟨o, ho1, ho2⟩, h3⟩ := h
    refine ⟨h1, ?_, Order.toP h3⟩
    rintro p ⟨o', ho', e, he, hb, rfl⟩
    rw [ho1] at ho'
    cases ho'
    exact ho2 e he (binds_any hb)

/-- what is ahead of what is done is done -/
def Closed (pred : Nat → Nat → Prop) (done : List Nat) : Prop := ∀ i ∈ done, ∀ p, pred p i → p ∈ done
theorem Closed.cons {pred : Nat → Nat → Prop} {done : List Nat} {i : Nat} (h : Closed pred done) (hi : ∀ p, pred p i → p ∈ done) : Closed pred (i :: done) := by
  intro j hj p hp
  rcases List.mem_cons.1 hj with rfl | hj
  · exact List.mem_cons_of_mem _ (hi p hp)
  · exact List.mem_cons_of_mem _ (h j hj p hp)

/-- An: behind one another; rk: places -/
structure Anc (pred An : Nat → Nat → Prop) (rk : Nat → Nat) : Prop where
  a : ∀ j i, An j i → ∃ p, pred p i ∧ (j = p ∨ An j p)
  lt : ∀ p i, pred p i → rk p < rk i

theorem Anc.done {pred An : Nat → Nat → Prop} {rk : Nat → Nat} (h : Anc pred An rk) {done : List Nat} (hcl : Closed pred done) : ∀ (n i j : Nat), rk i = n → (∀ p, pred p i → p ∈ done) → An j i → j ∈ done := by
  intro n
  induction n using Nat.strongRecOn with
  | ind n ih =>
    intro i j hn hp hA
    obtain ⟨p, h1, h2⟩ := h.a j i hA
    rcases h2 with rfl | h2
    · exact hp _ h1
    · exact ih (rk p) (hn ▸ h.lt p i h1) p j rfl (hcl p (hp p h1)) h2
theorem Anc.rk_lt {pred An : Nat → Nat → Prop} {rk : Nat → Nat} (h : Anc pred An rk) : ∀ (n i j : Nat), rk i = n → An j i → rk j < rk i := by
  intro n
  induction n using Nat.strongRecOn with
  | ind n ih =>
    intro i j hn hA
    obtain ⟨p, h1, h2⟩ := h.a j i hA
    have h3 := h.lt p i h1
    rcases h2 with rfl | h2
    · exact h3
    · have := ih (rk p) (hn ▸ h3) p j rfl h2
      omega

theorem runE_order {E : Nat → Sto → R} {v : Nat → AV} {pred An : Nat → Nat → Prop} {rk : Nat → Nat} (hA : Anc pred An rk) {U : Nat → Prop}
    (hU : ∀ j i, U j → U i → rk j < rk i → ¬ An j i → Comm (E j) (E i)) :
    ∀ (σ done l : List Nat) (S S' : Sto), OrderP pred done σ → Closed pred done → l.Pairwise (fun a b => rk a < rk b) → (∀ i, i ∈ l ↔ i ∈ σ) → (∀ i ∈ l, i ∉ done) → (∀ i ∈ l, U i) → runE E v l S S' → runE E v σ S S'
  | [], done, l, S, S', ho, hcl, hs, hm, hd, hu, h => by
    have : l = [] := by
      cases l with
      | nil => rfl
      | cons a l => exact absurd ((hm a).1 (by simp)) (by simp)
    subst this
    exact h
  | i :: σ, done, l, S, S', ho, hcl, hs, hm, hd, hu, h => by
    obtain ⟨h1, hpi, h3⟩ := ho
    have hi : i ∈ l := (hm i).2 (by simp)
    obtain ⟨pre, post, rfl⟩ := List.append_of_mem hi
    have hpw := List.pairwise_append.1 hs
    have hpre : ∀ j ∈ pre, rk j < rk i := fun j hj => hpw.2.2 j hj i (by simp)
    obtain ⟨S1, h4, h5⟩ := runE_front pre post S S' (fun j hj => hU j i (hu j (by simp [hj])) (hu i (by simp)) (hpre j hj) fun ha => hd j (by simp [hj]) (hA.done hcl _ i j rfl hpi ha)) h
    have hnd := OrderP.nodup h3
    have hpost : ∀ j ∈ post, rk i < rk j := fun j hj => (List.pairwise_cons.1 hpw.2.1).1 j hj
    refine ⟨S1, h4, runE_order hA hU σ (i :: done) (pre ++ post) S1 S' h3 (hcl.cons hpi) ?_ ?_ ?_ ?_ h5⟩
    · exact List.pairwise_append.2 ⟨hpw.1, (List.pairwise_cons.1 hpw.2.1).2, fun a ha b hb => hpw.2.2 a ha b (List.mem_cons_of_mem _ hb)⟩
    · intro j
      have hj := hm j
      simp only [List.mem_append, List.mem_cons] at hj ⊢
      constructor
      · intro hq
        rcases hj.1 (by rcases hq with hq | hq <;> simp [hq]) with e | hq'
        · rcases hq with hq | hq
          · have := hpre _ hq; subst e; omega
          · have := hpost _ hq; subst e; omega
        · exact hq'
      · intro hq
        have hne : j ≠ i := by
          intro e
          subst e
          exact hnd.2 _ hq (by simp)
        rcases hj.2 (.inr hq) with hq | hq | hq
        · exact .inl hq
        · exact absurd hq hne
        · exact .inr hq
    · intro j hj hjd
      rcases List.mem_cons.1 hjd with e | hjd
      · rcases List.mem_append.1 hj with hq | hq
        · have := hpre _ hq; subst e; omega
        · have := hpost _ hq; subst e; omega
      · refine hd j ?_ hjd
        rcases List.mem_append.1 hj with hq | hq <;> simp [hq]
    · intro j hj
      refine hu j ?_
      rcases List.mem_append.1 hj with hq | hq <;> simp [hq]

end Go.Wm
