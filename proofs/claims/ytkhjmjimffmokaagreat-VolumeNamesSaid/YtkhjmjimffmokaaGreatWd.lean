/-
The abstract machine is sound, part 3.
-/
import Derived.WalkSmall
import Derived.Test.YtkhjmjimffmokaaGreatWc

set_option linter.unusedVariables false
set_option linter.unusedSimpArgs false
namespace Go.Wm

/-- two stores are alike at some blocks -/
def SameAt (l : List Nat) (S S' : Sto) : Prop := ∀ b ∈ l, S[b]? = S'[b]?

theorem SameAt.mono {l m : List Nat} {S S' : Sto} (h : SameAt m S S') (hl : ∀ b ∈ l, b ∈ m) : SameAt l S S' := fun b hb => h b (hl b hb)
theorem SameAt.ver {l : List Nat} {S S' : Sto} (h : SameAt l S S') {b : Nat} (hb : b ∈ l) : S.ver b = S'.ver b := by
  simp only [Sto.ver, h b hb]
theorem SameAt.sig {l : List Nat} {S S' : Sto} (h : SameAt l S S') {b : Nat} (hb : b ∈ l) : S.sig b = S'.sig b := by
  simp only [Sto.sig, h b hb]
theorem SameAt.lt {l : List Nat} {S S' : Sto} (h : SameAt l S S') {b : Nat} (hb : b ∈ l) : (b < S.length) = (b < S'.length) := by
  have := h b hb
  apply propext
  constructor
  · intro hlt
    rcases Nat.lt_or_ge b S'.length with h2 | h2
    · exact h2
    · rw [List.getElem?_eq_none_iff.2 h2] at this
      have := List.getElem?_eq_none_iff.1 this
      omega
  · intro hlt
    rcases Nat.lt_or_ge b S.length with h2 | h2
    · exact h2
    · rw [List.getElem?_eq_none_iff.2 h2] at this
      have := List.getElem?_eq_none_iff.1 this.symm
      omega
theorem SameAt.set {l : List Nat} {S S' : Sto} (h : SameAt l S S') (b : Nat) (x : Blk) : SameAt l (S.set b x) (S'.set b x) := by
  intro c hc
  have h1 := h.lt hc
  have h2 := h c hc
  simp only [List.getElem?_set]
  split
  · rename_i e
    subst e
    by_cases hlt : b < S.length
    · have : b < S'.length := by rw [← h1]; exact hlt
      simp [hlt, this]
    · have : ¬ b < S'.length := by rw [← h1]; exact hlt
      simp [hlt, this]
  · exact h2
theorem set_off {l : List Nat} {S : Sto} {b : Nat} {x : Blk} (hb : b ∈ l) : ∀ c, c ∉ l → (S.set b x)[c]? = S[c]? := by
  intro c hc
  rw [List.getElem?_set_ne]
  rintro rfl
  exact hc hb

/-- what it gives hangs on some blocks, and it writes no others -/
def Lo {α : Type} (l : List Nat) (f : Sto → Option (α × Sto)) : Prop := ∀ S S' a S1, SameAt l S S' → f S = some (a, S1) →
  (∀ b, b ∉ l → S1[b]? = S[b]?) ∧ ∃ S1', f S' = some (a, S1') ∧ SameAt l S1 S1' ∧ ∀ b, b ∉ l → S1'[b]? = S'[b]?
/-- what it gives hangs on some blocks, and it writes none -/
def Rd {α : Type} (l : List Nat) (f : Sto → Option (α × Sto)) : Prop := ∀ S S' a S1, SameAt l S S' → f S = some (a, S1) → S1 = S ∧ f S' = some (a, S')

theorem Rd.lo {α : Type} {l : List Nat} {f : Sto → Option (α × Sto)} (h : Rd l f) : Lo l f := by
  intro S S' a S1 hs e
  obtain ⟨rfl, h2⟩ := h S S' a S1 hs e
  exact ⟨fun _ _ => rfl, S', h2, hs, fun _ _ => rfl⟩
theorem Rd.mono {α : Type} {l m : List Nat} {f : Sto → Option (α × Sto)} (h : Rd l f) (hl : ∀ b ∈ l, b ∈ m) : Rd m f :=
  fun S S' a S1 hs e => h S S' a S1 (hs.mono hl) e
theorem Lo.mono {α : Type} {l m : List Nat} {f : Sto → Option (α × Sto)} (h : Lo l f) (hl : ∀ b ∈ l, b ∈ m) : Lo m f := by
  intro S S' a S1 hs e
  obtain ⟨h1, S1', h2, h3, h4⟩ := h S S' a S1 (hs.mono hl) e
  refine ⟨fun b hb => h1 b fun hb' => hb (hl b hb'), S1', h2, fun b hb => ?_, fun b hb => h4 b fun hb' => hb (hl b hb')⟩
  by_cases hb' : b ∈ l
  · exact h3 b hb'
  · rw [h1 b hb', h4 b hb', hs b hb]

theorem Lo.comm {l m : List Nat} {E F : Sto → R} (hE : Lo l E) (hF : Lo m F) (hd : ∀ b ∈ l, b ∉ m) : Comm E F := by
  intro S a S1 b S2 e1 e2
  have hd' : ∀ b ∈ m, b ∉ l := fun b hm hl => hd b hl hm
  have h1 := (hE S S _ S1 (fun _ _ => rfl) e1).1
  obtain ⟨h2, S3, h3, h4, h5⟩ := hF S1 S _ S2 (fun b hb => h1 b (hd' b hb)) e2
  obtain ⟨_, S4, h6, h7, h8⟩ := hE S S3 _ S1 (fun b hb => (h5 b (hd b hb)).symm) e1
  refine ⟨S3, h3, ?_⟩
  have : S4 = S2 := by
    apply List.ext_getElem?
    intro c
    by_cases hc : c ∈ l
    · rw [← h7 c hc, h2 c (hd c hc)]
    · rw [h8 c hc]
      by_cases hc' : c ∈ m
      · exact (h4 c hc').symm
      · rw [h5 c hc', h2 c hc', h1 c hc]
  rw [← this]
  exact h6
theorem Rd.comm {l m : List Nat} {E F : Sto → R} (hE : Rd l E) (hF : Rd m F) : Comm E F := by
  intro S a S1 b S2 e1 e2
  obtain ⟨rfl, _⟩ := hE S S _ S1 (fun _ _ => rfl) e1
  obtain ⟨rfl, _⟩ := hF _ _ _ S2 (fun _ _ => rfl) e2
  exact ⟨_, e2, e1⟩
theorem Rd.comm0 {E F : Sto → R} (hE : Rd [] E) : Comm E F := by
  intro S a S1 b S2 e1 e2
  obtain ⟨rfl, _⟩ := hE S S _ S1 (fun _ _ => rfl) e1
  exact ⟨S2, e2, (hE _ S2 _ _ (by simp [SameAt]) e1).2⟩
theorem Rd.comm0' {E F : Sto → R} (hF : Rd [] F) : Comm E F := by
  intro S a S1 b S2 e1 e2
  obtain ⟨rfl, h⟩ := hF S1 S _ S2 (by simp [SameAt]) e2
  exact ⟨S, h, e1⟩

/-! ### what is read -/
section
variable {S S' : Sto}
theorem liveB_same {x : AV} (h : SameAt (refs x) S S') : liveB S x = liveB S' x := by
  cases x <;> first | rfl | (simp only [liveB]; rw [h.ver (by simp [refs]), h.sig (by simp [refs])])
theorem rowsOf_same {x : AV} (h : SameAt (refs x) S S') : rowsOf S x = rowsOf S' x := by
  cases x <;> first | rfl | (rename_i b _ _ _ _; simp only [rowsOf]; rw [h b (by simp [refs])])
theorem rowsOf'_same {x : AV} (h : SameAt (refs x) S S') : rowsOf' S x = rowsOf' S' x := by
  cases x <;> first | rfl | (simp only [rowsOf']; exact rowsOf_same h) | (rename_i b _ _ _ _; simp only [rowsOf']; rw [h b (by simp [refs])]) | (rename_i b _ _ _; simp only [rowsOf']; rw [h b (by simp [refs])])
theorem rdCells_same {x : AV} (h : SameAt (refs x) S S') : rdCells S x = rdCells S' x := by
  cases x <;> first | rfl | (rename_i b _ _; simp only [rdCells]; rw [h b (by simp [refs])]) | (rename_i b _ _ _; simp only [rdCells]; rw [h b (by simp [refs])])
theorem roomOf_same {x : AV} (h : SameAt (refs x) S S') : roomOf S x = roomOf S' x := by
  cases x with
  | own e b ver lo n f =>
    cases f
    · rfl
    · simp only [roomOf]; rw [h b (by simp [refs])]
  | _ => rfl
end

theorem Rd.none {α : Type} {l : List Nat} : Rd l (fun _ => (none : Option (α × Sto))) := fun _ _ _ _ _ e => by cases e
theorem Rd.ret {α : Type} {l : List Nat} {a : α} : Rd l (fun S => some (a, S)) := fun S S' _ _ _ e => by cases e; exact ⟨rfl, rfl⟩

section
variable {xs : List AV}
theorem opMv_rd : Rd [] (opMv xs) := by
  intro S S' a S1 _ e
  unfold opMv at e ⊢
  split at e <;> first | (cases e; done) | (cases e; simp)
theorem opPick_rd : Rd [] (opPick xs) := by
  intro S S' a S1 _ e
  unfold opPick at e ⊢
  split at e <;> first | (cases e; done) | (cases e; simp)
theorem opBuild_rd {zero : List AV} {parts : List (Nat × Nat)} : Rd [] (opBuild zero parts xs) := by
  intro S S' a S1 _ e
  unfold opBuild at e ⊢
  split at e <;> first | (cases e; done) | (cases e; simp)
theorem opEqs_rd {neg : Bool} {kds : List Nat} : Rd [] (opEqs neg kds xs) := by
  intro S S' a S1 _ e
  unfold opEqs at e ⊢
  (repeat' split at e) <;> first | (cases e; done) | (cases e; simp_all)
theorem opBnot_rd : Rd [] (opBnot xs) := by
  intro S S' a S1 _ e
  unfold opBnot at e ⊢
  split at e <;> first | (cases e; done) | (cases e; simp)
theorem opConv_rd {k : IntKind} : Rd [] (opConv k xs) := by
  intro S S' a S1 _ e
  unfold opConv at e ⊢
  split at e <;> first | (cases e; done) | (cases e; simp)
theorem opCflt_rd : Rd [] (opCflt xs) := by
  intro S S' a S1 _ e
  unfold opCflt at e ⊢
  split at e <;> first | (cases e; done) | (cases e; simp)
theorem opCcpx_rd : Rd [] (opCcpx xs) := by
  intro S S' a S1 _ e
  unfold opCcpx at e ⊢
  split at e <;> first | (cases e; done) | (cases e; simp)
theorem opMkifc_rd {t : Nat} : Rd [] (opMkifc t xs) := by
  intro S S' a S1 _ e
  unfold opMkifc at e ⊢
  split at e <;> first | (cases e; done) | (cases e; simp)
theorem opFld_rd {off : Nat} {n : Option Nat} : Rd [] (opFld off n xs) := by
  intro S S' a S1 _ e
  unfold opFld at e ⊢
  (repeat' split at e) <;> first | (cases e; done) | (cases e; simp_all)
theorem opIdx_rd {len e : Nat} {n : Option Nat} : Rd [] (opIdx len e n xs) := by
  intro S S' a S1 h e
  unfold opIdx at e ⊢
  (repeat' split at e)
  · rename_i hc
    obtain ⟨h1, h2⟩ := opFld_rd S S' a S1 h e
    simp only [hc, and_self, if_true]
    exact ⟨h1, h2⟩
  · cases e
  · cases e
theorem opIdxs_rd : Rd [] (opIdxs xs) := by
  intro S S' a S1 _ e
  unfold opIdxs at e ⊢
  (repeat' split at e) <;> first | (cases e; done) | (cases e; simp_all)
theorem opTass_rd {t : Nat} {zero : AV} {ok : Bool} : Rd [] (opTass t zero ok xs) := by
  intro S S' a S1 _ e
  unfold opTass at e ⊢
  (repeat' split at e) <;> first | (cases e; done) | (cases e; simp_all)
theorem opExtr_rd {i : Nat} : Rd [] (opExtr i xs) := by
  intro S S' a S1 _ e
  unfold opExtr at e ⊢
  (repeat' split at e) <;> first | (cases e; done) | (cases e; simp_all)
theorem opLens_rd : Rd [] (opLens xs) := by
  intro S S' a S1 _ e
  unfold opLens at e ⊢
  split at e <;> first | (cases e; done) | (cases e; simp)
theorem opMin2_rd : Rd [] (opMin2 xs) := by
  intro S S' a S1 _ e
  unfold opMin2 at e ⊢
  split at e <;> first | (cases e; done) | (cases e; simp)
theorem opMax2_rd : Rd [] (opMax2 xs) := by
  intro S S' a S1 _ e
  unfold opMax2 at e ⊢
  split at e <;> first | (cases e; done) | (cases e; simp)
theorem opSlcs_rd {hl hh : Bool} : Rd [] (opSlcs hl hh xs) := by
  intro S S' a S1 _ e
  unfold opSlcs at e ⊢
  (repeat' split at e) <;> first | (cases e; done) | (cases e; simp_all)

/-! ### readers -/
theorem opNilchk_rd : Rd (xs.flatMap refs) (opNilchk xs) := by
  intro S S' a S1 h e
  unfold opNilchk at e ⊢
  split at e
  · rename_i x
    rw [← liveB_same (h.mono (by simp))]
    (repeat' split at e) <;> first | (cases e; done) | (cases e; simp_all)
  · cases e
theorem opBin_rd {op : BinOp} {kd : Nat} : Rd (xs.flatMap refs) (opBin op kd xs) := by
  intro S S' a S1 h e
  unfold opBin at e ⊢
  split at e
  · rename_i x y
    rw [← liveB_same (x := x) (h.mono (by intro b hb; simp [hb]))]
    (repeat' split at e) <;> first | (cases e; done) | (cases e; simp_all)
  · cases e
theorem opLen_rd : Rd (xs.flatMap refs) (opLen xs) := by
  intro S S' a S1 h e
  unfold opLen at e ⊢
  split at e
  · rename_i x
    rw [← liveB_same (h.mono (by simp))]
    (repeat' split at e) <;> first | (cases e; done) | (cases e; simp_all)
  · cases e
theorem opFadr_rd {off : Nat} : Rd (xs.flatMap refs) (opFadr off xs) := by
  intro S S' a S1 h e
  unfold opFadr at e ⊢
  split at e
  · rename_i x
    rw [← liveB_same (h.mono (by simp))]
    (repeat' split at e) <;> first | (cases e; done) | (cases e; simp_all)
  · cases e
theorem opIadra_rd {k len : Nat} : Rd (xs.flatMap refs) (opIadra k len xs) := by
  intro S S' a S1 h e
  unfold opIadra at e ⊢
  split at e
  · rename_i x k2 i
    rw [← liveB_same (x := x) (h.mono (by intro b hb; simp [hb]))]
    (repeat' split at e) <;> first | (cases e; done) | (cases e; simp_all)
  · cases e
theorem opIadr_rd {k : Nat} : Rd (xs.flatMap refs) (opIadr k xs) := by
  intro S S' a S1 h e
  unfold opIadr at e ⊢
  split at e
  · rename_i x k2 i
    have hl : liveB S x = liveB S' x := liveB_same (x := x) (h.mono (by intro b hb; simp [hb]))
    (repeat' split at e) <;> first | (cases e; done) | (cases e; simp_all)
  · cases e
theorem opSlc_rd {t e0 : Nat} {hl hh hm : Bool} : Rd (xs.flatMap refs) (opSlc t e0 hl hh hm xs) := by
  intro S S' a S1 h e
  unfold opSlc at e ⊢
  split at e
  · rename_i x bs
    rw [← liveB_same (x := x) (h.mono (by intro b hb; simp [hb])), ← roomOf_same (x := x) (h.mono (by intro b hb; simp [hb]))]
    (repeat' split at e) <;> first | (cases e; done) | (cases e; simp_all)
  · cases e
theorem opSlca_rd {e0 n : Nat} {hl hh hm : Bool} : Rd (xs.flatMap refs) (opSlca e0 n hl hh hm xs) := by
  intro S S' a S1 h e
  unfold opSlca at e ⊢
  split at e
  · rename_i b ver off bs
    rw [← liveB_same (x := .ptr b ver off) (h.mono (by intro b hb; simp [hb]))]
    (repeat' split at e) <;> first | (cases e; done) | (cases e; simp_all)
  · cases e
theorem opLoad_rd {n : Option Nat} : Rd (xs.flatMap refs) (opLoad n xs) := by
  intro S S' a S1 h e
  unfold opLoad at e ⊢
  split at e
  · rename_i p
    rw [← rdCells_same (h.mono (by simp))]
    (repeat' split at e) <;> first | (cases e; done) | (cases e; simp_all)
  · cases e
theorem opLook_rd {zero : AV} {ok : Bool} : Rd (xs.flatMap refs) (opLook zero ok xs) := by
  intro S S' a S1 h e
  unfold opLook at e ⊢
  split at e
  · rename_i m k
    cases m with
    | map b ver =>
      have := h b (by simp [refs])
      simp only at e ⊢
      rw [← this]
      (repeat' split at e) <;> first | (cases e; done) | (cases e; simp_all)
    | nilm =>
      simp only at e ⊢
      (repeat' split at e) <;> first | (cases e; done) | (cases e; simp_all)
    | _ => simp at e
  · cases e
theorem opTostr_rd : Rd (xs.flatMap refs) (opTostr xs) := by
  intro S S' a S1 h e
  unfold opTostr at e ⊢
  split at e
  · cases e
  · rename_i x hx
    rw [← rowsOf'_same (h.mono (by simp))]
    (repeat' split at e) <;> first | (cases e; done) | (cases e; simp_all)
  · cases e
end
end Go.Wm

set_option linter.unusedVariables false
set_option linter.unusedSimpArgs false
namespace Go.Wm

theorem Lo.bind {α β : Type} {l : List Nat} {f : Sto → Option (α × Sto)} {k : α → Sto → Option (β × Sto)} (hf : Lo l f) (hk : ∀ a, Lo l (k a)) :
    Lo l (fun S => match f S with | some (a, S1) => k a S1 | none => none) := by
  intro S S' b S2 h e
  simp only at e ⊢
  cases hfS : f S with
  | none => rw [hfS] at e; cases e
  | some p =>
    obtain ⟨a, S1⟩ := p
    rw [hfS] at e
    obtain ⟨h1, S1', h2, h3, h4⟩ := hf S S' a S1 h hfS
    obtain ⟨h5, S2', h6, h7, h8⟩ := hk a S1 S1' b S2 h3 e
    refine ⟨fun c hc => (h5 c hc).trans (h1 c hc), S2', by rw [h2]; exact h6, h7, fun c hc => (h8 c hc).trans (h4 c hc)⟩
theorem Lo.of_eq {α : Type} {l : List Nat} {f g : Sto → Option (α × Sto)} (h : Lo l f) (e : ∀ S, g S = f S) : Lo l g := by
  have : g = f := funext e
  rw [this]
  exact h
theorem Lo.ret {α : Type} {l : List Nat} {a : α} : Lo l (fun S => some (a, S)) := Rd.ret.lo
theorem Lo.none {α : Type} {l : List Nat} : Lo l (fun _ => (none : Option (α × Sto))) := Rd.none.lo
theorem lo_set {α : Type} {l : List Nat} {S S' : Sto} (h : SameAt l S S') {b : Nat} {x : Blk} (hb : b ∈ l) {a : α} {r : Option (α × Sto)} (e : r = some (a, S'.set b x)) :
    (∀ c, c ∉ l → (S.set b x)[c]? = S[c]?) ∧ ∃ S1', r = some (a, S1') ∧ SameAt l (S.set b x) S1' ∧ ∀ c, c ∉ l → S1'[c]? = S'[c]? :=
  ⟨set_off hb, _, e, h.set b x, set_off hb⟩

theorem pure1_lo {x : AV} : Lo (refs x) (fun S => pure1 S x) := by
  intro S S' a S1 h e
  cases x with
  | own e0 b ver lo n f =>
    simp only [pure1] at e ⊢
    rw [← rowsOf_same h, ← h b (by simp [refs])]
    split at e
    · rename_i h1 h2
      cases e
      exact lo_set h (by simp [refs]) (by simp [h1, h2])
    · cases e
  | nils t e0 =>
    simp only [pure1] at e ⊢
    split at e
    · cases e
      rename_i h0
      exact ⟨fun _ _ => rfl, S', by simp [h0], h, fun _ _ => rfl⟩
    · cases e
  | zs t e0 =>
    simp only [pure1] at e ⊢
    split at e
    · cases e
      rename_i h0
      exact ⟨fun _ _ => rfl, S', by simp [h0], h, fun _ _ => rfl⟩
    · cases e
  | fn f a c => cases a <;> cases c <;> simp only [pure1] at e <;> first | (cases e; done) | (cases e; exact ⟨fun _ _ => rfl, S', by simp [pure1], h, fun _ _ => rfl⟩)
  | _ => simp only [pure1] at e <;> first | (cases e; done) | (cases e; exact ⟨fun _ _ => rfl, S', by simp [pure1], h, fun _ _ => rfl⟩)

theorem pureL_lo : ∀ (xs : List AV), Lo (xs.flatMap refs) (fun S => pureL S xs)
  | [] => Lo.ret
  | x :: xs => by
    have h1 : Lo ((x :: xs).flatMap refs) (fun S => pure1 S x) := pure1_lo.mono (by intro b hb; simp [hb])
    have h2 : Lo ((x :: xs).flatMap refs) (fun S => pureL S xs) := (pureL_lo xs).mono (by intro b hb; rw [List.flatMap_cons]; exact List.mem_append_right _ hb)
    refine (Lo.bind h1 fun y => Lo.bind h2 fun ys => Lo.ret (a := y :: ys)).of_eq fun S => ?_
    simp only [pureL]
    rcases pure1 S x with _ | ⟨y, S1⟩
    · rfl
    · simp only
      rcases pureL S1 xs with _ | ⟨ys, S2⟩ <;> rfl

theorem flat_refs {x : AV} {cs : List AV} (h : x.flat = some cs) : ∀ b ∈ cs.flatMap refs, b ∈ refsV x := by
  intro b hb
  cases x <;> simp only [AV.flat, reduceCtorEq] at h <;> cases h <;> simp_all [refsV, refs]

theorem fillR_lo (e : Nat) : ∀ (xs : List AV) (rows : List (List AV)) (is : List Nat), Lo (xs.flatMap refsV) (fun S => fillR e rows S is xs)
  | [], rows, [] => Lo.ret
  | [], rows, _ :: _ => by
    intro S S' a S1 h e1
    simp [fillR] at e1
  | _ :: _, rows, [] => by
    intro S S' a S1 h e1
    simp [fillR] at e1
  | x :: xs, rows, i :: is => by
    cases hf : x.flat with
    | none =>
      intro S S' a S1 h e1
      simp [fillR, hf] at e1
    | some cs =>
      have h1 : Lo ((x :: xs).flatMap refsV) (fun S => pureL S cs) := (pureL_lo cs).mono (by
        intro b hb
        rw [List.flatMap_cons]
        exact List.mem_append_left _ (flat_refs hf b hb))
      have h2 : ∀ rows, Lo ((x :: xs).flatMap refsV) (fun S => fillR e rows S is xs) := fun rows => (fillR_lo e xs rows is).mono (by
        intro b hb
        rw [List.flatMap_cons]
        exact List.mem_append_right _ hb)
      have h3 := Lo.bind (k := fun ys S1 => if ys.length = e ∧ i < rows.length then fillR e (rows.set i ys) S1 is xs else none) h1 fun ys => by
        by_cases hc : ys.length = e ∧ i < rows.length
        · simp only [hc, and_self, if_true]
          exact h2 _
        · simp only [hc, if_false]
          exact Lo.none
      refine h3.of_eq fun S => ?_
      simp only [fillR, hf]
      rcases pureL S cs with _ | ⟨ys, S2⟩ <;> rfl

section
variable {xs : List AV} {b : Nat}
theorem opAlloc_lo {t : Nat} {zero : List AV} : Lo [b] (opAlloc b t zero) := by
  intro S S' a S1 h e
  have h1 := h.ver (b := b) (by simp)
  have h2 := h.lt (b := b) (by simp)
  simp only [opAlloc] at e ⊢
  split at e
  · rename_i hb
    rw [h2] at hb
    cases e
    exact lo_set h (by simp) (by simp [hb, h1])
  · cases e
theorem opBox_lo {t : Nat} : Lo [b] (opBox b t xs) := by
  intro S S' a S1 h e
  have h1 := h.ver (b := b) (by simp)
  have h2 := h.lt (b := b) (by simp)
  unfold opBox at e ⊢
  split at e
  · split at e
    · split at e
      · rename_i cs hf hb
        rw [h2] at hb
        cases e
        exact lo_set h (by simp) (by simp [hf, hb, h1])
      · cases e
    · cases e
  · cases e
theorem opMkmap_lo : Lo [b] (opMkmap b) := by
  intro S S' a S1 h e
  have h1 := h.ver (b := b) (by simp)
  have h2 := h.lt (b := b) (by simp)
  simp only [opMkmap] at e ⊢
  split at e
  · rename_i hb
    rw [h2] at hb
    cases e
    exact lo_set h (by simp) (by simp [hb, h1])
  · cases e
theorem opSrange_lo : Lo [b] (opSrange b xs) := by
  intro S S' a S1 h e
  have h1 := h.ver (b := b) (by simp)
  have h2 := h.lt (b := b) (by simp)
  unfold opSrange at e ⊢
  split at e
  · split at e
    · rename_i hb
      rw [h2] at hb
      cases e
      exact lo_set h (by simp) (by simp [hb, h1])
    · cases e
  · cases e
theorem opMkslice_lo {t e0 bytes : Nat} {zero : List AV} : Lo [b] (opMkslice b t e0 bytes zero xs) := by
  intro S S' a S1 h e
  have h1 := h.ver (b := b) (by simp)
  have h2 := h.lt (b := b) (by simp)
  unfold opMkslice at e ⊢
  split at e
  · split at e
    · rename_i hb
      rw [h2] at hb
      cases e
      exact lo_set h (by simp) (by simp only [if_pos hb, h1])
    · cases e
  · cases e
theorem opBslice_lo {t e0 : Nat} {zero : List AV} {n : Nat} {parts : List Nat} : Lo (b :: xs.flatMap refsV) (opBslice b t e0 zero n parts xs) := by
  have h1 : Lo (b :: xs.flatMap refsV) (fun S => fillR e0 (List.replicate n zero) S parts xs) := (fillR_lo e0 xs _ parts).mono (fun c hc => List.mem_cons_of_mem _ hc)
  refine (Lo.bind (k := fun rows S1 => if b < S1.length then some (Out.ret (.own e0 b (S1.ver b + 1) 0 n true), S1.set b (.row (S1.ver b + 1) t e0 rows false)) else none) h1 fun rows => ?_).of_eq fun S => by
    simp only [opBslice]
    rcases fillR e0 (List.replicate n zero) S parts xs with _ | ⟨ys, S2⟩ <;> rfl
  intro S S' a S1 h e
  have h1 := h.ver (b := b) (by simp)
  have h2 := h.lt (b := b) (by simp)
  simp only at e ⊢
  split at e
  · rename_i hb
    rw [h2] at hb
    cases e
    exact lo_set h (by simp) (by simp [hb, h1])
  · cases e
theorem wrCells_lo {p : AV} {cs : List AV} {l : List Nat} (hp : ∀ b ∈ refs p, b ∈ l) (hc : ∀ b ∈ cs.flatMap refs, b ∈ l) : Lo l (fun S => (wrCells S p cs).map fun S1 => ((), S1)) := by
  intro S S' a S1 h e
  cases p with
  | ptr b ver off =>
    have hb := h b (hp b (by simp [refs]))
    simp only [wrCells] at e ⊢
    rw [← hb]
    (repeat' split at e) <;> first | (simp at e; done) | skip
    rename_i h1 h2
    cases e
    exact lo_set h (hp b (by simp [refs])) (by simp [h1, h2])
  | eptr b ver i k =>
    simp only [wrCells] at e ⊢
    split at e
    · rename_i ys Sa ha
      obtain ⟨h1, Sa', h2, h3, h4⟩ := (pureL_lo cs).mono hc S S' ys Sa h ha
      have hb := h3 b (hp b (by simp [refs]))
      simp only at h2
      rw [h2]
      simp only
      rw [← hb]
      split at e
      · rename_i v t e0 rows h5
        split at e
        · rename_i r h6
          split at e
          · rename_i h7
            obtain ⟨rfl, h8⟩ := h7
            have h7 : v = v ∧ k + ys.length ≤ r.length := ⟨rfl, h8⟩
            cases e
            simp only [h7, and_self, if_true, Option.map_some]
            obtain ⟨q1, S1', q2, q3, q4⟩ := lo_set (a := ()) h3 (x := .row v t e0 (rows.set i (putAt r k ys)) false) (hp b (by simp [refs])) rfl
            cases q2
            exact ⟨fun c hc => (q1 c hc).trans (h1 c hc), _, rfl, q3, fun c hc => (q4 c hc).trans (h4 c hc)⟩
          · simp at e
        · simp at e
      · simp at e
    · simp at e
  | _ => simp [wrCells] at e
theorem opStore_lo {n : Nat} : Lo (xs.flatMap refsV) (opStore n xs) := by
  intro S S' a S1 h e
  unfold opStore at e ⊢
  split at e
  · rename_i p x
    split at e
    · rename_i cs hf
      split at e
      · rename_i hn
        split at e
        · rename_i Sa ha
          cases e
          have hp : ∀ b ∈ refs p, b ∈ [p, x].flatMap refsV := by
            intro b hb
            cases p <;> simp_all [refs, refsV]
          obtain ⟨h1, Sa', h2, h3, h4⟩ := wrCells_lo (cs := cs) hp (fun b hb => by have := flat_refs hf b hb; simp [this]) S S' () S1 h (by simp [ha])
          simp only [Option.map_eq_some_iff, Prod.mk.injEq, true_and, exists_eq_right] at h2
          exact ⟨h1, Sa', by simp [hf, hn, h2], h3, h4⟩
        · cases e
      · cases e
    · cases e
  · cases e
theorem opArrp_lo {n : Nat} : Lo (xs.flatMap refsV) (opArrp n xs) := by
  intro S S' a S1 h e
  unfold opArrp at e ⊢
  split at e
  · rename_i x
    split at e
    · rename_i e0 rows Sa ha
      split at e
      · rename_i hn
        cases e
        have hs : SameAt (refs x) S S' := h.mono (by intro b hb; cases x <;> simp_all [refs, refsV])
        obtain ⟨h1, Sa', h2, h3, h4⟩ := pure1_lo.mono (m := [x].flatMap refsV) (by intro b hb; cases x <;> simp_all [refs, refsV]) S S' _ _ h ha
        simp only at h2
        exact ⟨h1, Sa', by simp [h2, hn], h3, h4⟩
      · cases e
    · cases e
  · cases e
theorem pureM_lo {x : AV} : Lo (refsV x) (fun S => pureM S x) := by
  have key : ∀ y : AV, (∀ S, pureM S y = pure1 S y) → (∀ b ∈ refs y, b ∈ refsV y) → Lo (refsV y) (fun S => pureM S y) := fun y h hr => (pure1_lo.mono hr).of_eq h
  cases x with
  | agg cs =>
    refine (Lo.bind (k := fun ys S1 => some (AV.agg ys, S1)) (pureL_lo cs) fun ys => Lo.ret).of_eq fun S => ?_
    simp only [pureM]
    rcases pureL S cs with _ | ⟨ys, S2⟩ <;> rfl
  | any => exact Lo.none
  | tup cs => exact fun S S' a S1 h e => by simp [pureM, pure1] at e
  | fn f a c => exact (pure1_lo (x := .fn f a c)).mono (by intro b hb; simp [refs] at hb)
  | _ => exact key _ (fun _ => rfl) (by intro b hb; simpa [refsV] using hb)
theorem opMapset_lo : Lo (xs.flatMap refsV) (opMapset xs) := by
  intro S S' a S1 h e
  unfold opMapset at e ⊢
  split at e
  · rename_i b ver k x
    split at e
    · rename_i y Sa ha
      have hb : b ∈ [AV.map b ver, .int .i64 k, x].flatMap refsV := by simp [refsV, refs]
      obtain ⟨h1, Sa', h2, h3, h4⟩ := pureM_lo.mono (m := [AV.map b ver, .int .i64 k, x].flatMap refsV) (by intro c hc; simp [hc]) S S' _ _ h ha
      have hb' := h3 b hb
      simp only at h2
      split at e
      · rename_i v es h5
        split at e
        · rename_i h6
          cases e
          simp only [h2]
          rw [← hb', h5]
          simp only [h6, if_true]
          obtain ⟨q1, S1', q2, q3, q4⟩ := lo_set (a := ()) h3 (x := .map ver (mapPut es k y)) hb rfl
          cases q2
          exact ⟨fun c hc => (q1 c hc).trans (h1 c hc), _, rfl, q3, fun c hc => (q4 c hc).trans (h4 c hc)⟩
        · cases e
      · cases e
    · cases e
  · cases e
theorem opNext_lo : Lo (xs.flatMap refsV) (opNext xs) := by
  intro S S' a S1 h e
  unfold opNext at e ⊢
  split at e
  · rename_i b ver
    have hb : b ∈ [AV.itr b ver].flatMap refsV := by simp [refsV, refs]
    have h1 := h b hb
    rw [← h1]
    split at e
    · rename_i v s pos h2
      split at e
      · rename_i h3
        split at e
        · rename_i c h4
          split at e
          · rename_i h5
            cases e
            exact lo_set h hb (by simp [h3, h5])
          · cases e
        · cases e
          exact ⟨fun _ _ => rfl, S', by simp [h3], h, fun _ _ => rfl⟩
      · cases e
    · cases e
  · cases e
theorem opCopy_lo {e0 : Nat} : Lo (xs.flatMap refsV) (opCopy e0 xs) := by
  intro S S' a S1 h e
  unfold opCopy at e ⊢
  split at e
  · rename_i e' b ver n f y
    have hb : b ∈ [AV.own e' b ver 0 n f, y].flatMap refsV := by simp [refsV, refs]
    have h1 := h b hb
    have h2 : rowsOf' S y = rowsOf' S' y := rowsOf'_same (h.mono (by intro c hc; cases y <;> simp_all [refs, refsV]))
    rw [← h1, ← h2]
    split at e
    · split at e
      · rename_i h3 h4 h5
        cases e
        exact lo_set h hb (by rw [if_pos h5])
      · cases e
    · cases e
  · cases e
theorem opClear_lo {zero : List AV} : Lo (xs.flatMap refsV) (opClear zero xs) := by
  intro S S' a S1 h e
  unfold opClear at e ⊢
  split at e
  · rename_i e' b ver lo n f
    have hb : b ∈ [AV.own e' b ver lo n f].flatMap refsV := by simp [refsV, refs]
    have h1 := h b hb
    rw [← h1]
    split at e
    · split at e
      · rename_i h3 h4
        cases e
        exact lo_set h hb (by simp [h4])
      · cases e
    · cases e
  · cases e
theorem appNil_lo {t e0 bytes : Nat} {x : AV} {ys : List (List AV)} {l : List Nat} (hb : b ∈ l) : Lo l (appNil b t e0 bytes x ys) := by
  intro S S' a S1 h e
  have h1 := h.ver hb
  have h2 := h.lt hb
  unfold appNil at e ⊢
  split at e
  · rename_i hy
    cases e
    exact ⟨fun _ _ => rfl, S', by simp [hy], h, fun _ _ => rfl⟩
  · rename_i hy
    split at e
    · rename_i hc
      cases e
      rw [h2] at hc
      exact lo_set h hb (by rw [if_neg hy, if_pos hc, ← h1])
    · cases e
theorem opApp_lo {t e0 bytes : Nat} : Lo (b :: xs.flatMap refsV) (opApp b t e0 bytes xs) := by
  intro S S' a S1 h e
  unfold opApp at e ⊢
  split at e
  · rename_i x y
    have h2 : rowsOf' S y = rowsOf' S' y := rowsOf'_same (h.mono (by intro c hc; cases y <;> simp_all [refs, refsV]))
    rw [← h2]
    split at e
    · cases e
    · rename_i ys hy
      split at e
      · split at e
        · rename_i hc
          obtain ⟨q1, S2, q2, q3, q4⟩ := appNil_lo (by simp) S S' a S1 h e
          exact ⟨q1, S2, by first | (rw [if_pos hc]; exact q2) | simp [hc, q2], q3, q4⟩
        · cases e
      · split at e
        · rename_i hc
          obtain ⟨q1, S2, q2, q3, q4⟩ := appNil_lo (by simp) S S' a S1 h e
          exact ⟨q1, S2, by first | (rw [if_pos hc]; exact q2) | simp [hc, q2], q3, q4⟩
        · cases e
      · rename_i e' b' ver n
        have hb : b' ∈ b :: [AV.own e' b' ver 0 n true, y].flatMap refsV := by simp [refsV, refs]
        have h1 := h b' hb
        rw [← h1]
        split at e
        · split at e
          · split at e
            · rename_i h3 h4 h5
              cases e
              exact lo_set h hb (by first | (rw [if_pos h4, if_pos h5]) | simp [h4, h5])
            · rename_i h3 h4 h5
              cases e
              exact lo_set h hb (by first | (rw [if_pos h4, if_neg h5]) | simp [h4, h5])
          · cases e
        · cases e
      · cases e
  · cases e
end

end Go.Wm

set_option linter.unusedVariables false
set_option linter.unusedSimpArgs false
namespace Go.Wm
/-! ### calls that are handed data alone -/
theorem lend1_same {S S' : Sto} {x : AV} (h : SameAt (refs x) S S') : lend1 S x = lend1 S' x := by
  cases x <;> first | rfl | (simp only [lend1]; rw [rowsOf_same h]) | (simp only [lend1]; rw [rowsOf'_same h])
theorem lendL_same {S S' : Sto} : ∀ {xs : List AV}, SameAt (xs.flatMap refs) S S' → lendL S xs = lendL S' xs
  | [], _ => rfl
  | x :: xs, h => by
    simp only [lendL]
    rw [lend1_same (x := x) (h.mono (by intro b hb; simp [hb])), lendL_same (xs := xs) (h.mono (by intro b hb; rw [List.flatMap_cons]; exact List.mem_append_right _ hb))]
theorem lend_same {S S' : Sto} {x : AV} (h : SameAt (refsV x) S S') : lend S x = lend S' x := by
  have key : ∀ y : AV, (∀ S, lend S y = lend1 S y) → refs y = refsV y → SameAt (refsV y) S S' → lend S y = lend S' y := by
    intro y h1 h2 h3
    rw [h1, h1]
    exact lend1_same (h2 ▸ h3)
  cases x with
  | agg cs => simp only [lend]; rw [lendL_same h]
  | tup cs => rfl
  | fn f a c => rfl
  | _ => exact key _ (fun _ => rfl) rfl h
theorem lendA_same {S S' : Sto} : ∀ {xs : List AV}, SameAt (xs.flatMap refsV) S S' → lendA S xs = lendA S' xs
  | [], _ => rfl
  | x :: xs, h => by
    simp only [lendA]
    rw [lend_same (x := x) (h.mono (by intro b hb; simp [hb])), lendA_same (xs := xs) (h.mono (by intro b hb; rw [List.flatMap_cons]; exact List.mem_append_right _ hb))]

theorem frz1_lo {x : AV} {l : List Nat} (hl : ∀ b ∈ refs x, b ∈ l) : Lo l (fun S => some ((), frz1 S x)) := by
  intro S S' a S1 h e
  cases e
  cases x with
  | own e0 b ver lo n f =>
    have h1 := h b (hl b (by simp [refs]))
    simp only [frz1]
    rw [← h1]
    split
    · exact lo_set h (hl b (by simp [refs])) rfl
    · exact ⟨fun _ _ => rfl, S', rfl, h, fun _ _ => rfl⟩
  | _ => exact ⟨fun _ _ => rfl, S', rfl, h, fun _ _ => rfl⟩
theorem frzC_lo {l : List Nat} : ∀ (cs : List AV), (∀ b ∈ cs.flatMap refs, b ∈ l) → Lo l (fun S => some ((), cs.foldl frz1 S))
  | [], _ => Lo.ret
  | x :: xs, h => by
    have h1 : Lo l (fun S => some ((), frz1 S x)) := frz1_lo fun b hb => h b (by simp [hb])
    exact Lo.bind (k := fun _ S1 => some ((), xs.foldl frz1 S1)) h1 fun _ => frzC_lo xs fun b hb => h b (by rw [List.flatMap_cons]; exact List.mem_append_right _ hb)
theorem frzL_lo {l : List Nat} : ∀ (xs : List AV), (∀ b ∈ xs.flatMap refsV, b ∈ l) → Lo l (fun S => some ((), frzL S xs))
  | [], _ => Lo.ret
  | x :: xs, h => by
    have hx : ∀ b ∈ refsV x, b ∈ l := fun b hb => h b (by simp [hb])
    have h1 : Lo l (fun S => some ((), (match x with | .agg cs => cs.foldl frz1 S | x => frz1 S x))) := by
      cases x with
      | agg cs => exact frzC_lo cs hx
      | fn f a c => exact frz1_lo (x := .fn f a c) (by simp [refs])
      | tup cs => exact frz1_lo (x := .tup cs) (by simp [refs])
      | _ => exact frz1_lo hx
    refine (Lo.bind (k := fun _ S1 => some ((), frzL S1 xs)) h1 fun _ => frzL_lo xs fun b hb => h b (by rw [List.flatMap_cons]; exact List.mem_append_right _ hb)).of_eq fun S => ?_
    cases x <;> rfl

/-- with the places that are left -/
def LoP {α : Type} (l : List Nat) (f : Sto × List Nat → Option (α × (Sto × List Nat))) : Prop := ∀ S S' ps a S1 qs, SameAt l S S' → (∀ p ∈ ps, p ∈ l) → f (S, ps) = some (a, (S1, qs)) →
  (∀ p ∈ qs, p ∈ l) ∧ (∀ b, b ∉ l → S1[b]? = S[b]?) ∧ ∃ S1', f (S', ps) = some (a, (S1', qs)) ∧ SameAt l S1 S1' ∧ ∀ b, b ∉ l → S1'[b]? = S'[b]?
theorem mapL_lop {l : List Nat} {f : AV → Sto × List Nat → Option (AV × (Sto × List Nat))} (hf : ∀ x, LoP l (f x)) : ∀ (xs : List AV), LoP l (mapL f xs)
  | [] => by
    intro S S' ps a S1 qs h hp e
    simp only [mapL] at e ⊢
    cases e
    exact ⟨hp, fun _ _ => rfl, S', rfl, h, fun _ _ => rfl⟩
  | x :: xs => by
    intro S S' ps a S1 qs h hp e
    simp only [mapL] at e ⊢
    split at e
    · rename_i y s1 h1
      obtain ⟨Sa, pa⟩ := s1
      split at e
      · rename_i ys s2 h2
        obtain ⟨Sb, pb⟩ := s2
        cases e
        obtain ⟨a1, a2, Sa', a3, a4, a5⟩ := hf x S S' ps y Sa pa h hp h1
        obtain ⟨b1, b2, Sb', b3, b4, b5⟩ := mapL_lop hf xs Sa Sa' pa ys S1 qs a4 a1 h2
        exact ⟨b1, fun c hc => (b2 c hc).trans (a2 c hc), Sb', by rw [a3]; simp only; rw [b3], b4, fun c hc => (b5 c hc).trans (a5 c hc)⟩
      · cases e
    · cases e
theorem land1_lop {l : List Nat} : ∀ (d : Nat) (x : AV), LoP l (land1 d x)
  | 0, x => by
    intro S S' ps a S1 qs h hp e
    simp [land1] at e
  | d + 1, x => by
    have ih := land1_lop (l := l) d
    have ihL := mapL_lop ih
    have same : ∀ (y : AV) (S S' : Sto) (ps : List Nat) (a : AV) (S1 : Sto) (qs : List Nat), SameAt l S S' → (∀ p ∈ ps, p ∈ l) → some (y, (S, ps)) = some (a, (S1, qs)) →
        (∀ p ∈ qs, p ∈ l) ∧ (∀ b, b ∉ l → S1[b]? = S[b]?) ∧ ∃ S1', some (y, (S', ps)) = some (a, (S1', qs)) ∧ SameAt l S1 S1' ∧ ∀ b, b ∉ l → S1'[b]? = S'[b]? := by
      intro y S S' ps a S1 qs h hp e
      cases e
      exact ⟨hp, fun _ _ => rfl, S', rfl, h, fun _ _ => rfl⟩
    intro S S' ps a S1 qs h hp e
    cases x with
    | new t e0 rows =>
      simp only [land1] at e ⊢
      cases ps with
      | nil => simp at e
      | cons b ps =>
        simp only at e ⊢
        have hb : b ∈ l := hp b (by simp)
        split at e
        · rename_i hlt
          rw [h.lt hb] at hlt
          cases e
          rw [if_pos hlt, ← h.ver hb]
          exact ⟨fun p hq => hp p (List.mem_cons_of_mem _ hq), set_off hb, _, rfl, h.set _ _, set_off hb⟩
        · cases e
    | nbox t cs =>
      simp only [land1] at e ⊢
      cases ps with
      | nil => simp at e
      | cons b ps =>
        simp only at e ⊢
        have hb : b ∈ l := hp b (by simp)
        split at e
        · rename_i ys s1 h1
          obtain ⟨Sa, pa⟩ := s1
          obtain ⟨a1, a2, Sa', a3, a4, a5⟩ := ihL cs S S' ps ys Sa pa h (fun p hq => hp p (List.mem_cons_of_mem _ hq)) h1
          rw [a3]
          simp only at e ⊢
          split at e
          · rename_i hlt
            rw [a4.lt hb] at hlt
            cases e
            rw [if_pos hlt, ← a4.ver hb]
            exact ⟨a1, fun c hc => (set_off hb c hc).trans (a2 c hc), _, rfl, a4.set _ _, fun c hc => (set_off hb c hc).trans (a5 c hc)⟩
          · cases e
        · cases e
    | nmap es =>
      simp only [land1] at e ⊢
      cases ps with
      | nil => simp at e
      | cons b ps =>
        simp only at e ⊢
        have hb : b ∈ l := hp b (by simp)
        split at e
        · rename_i hlt
          rw [h.lt hb] at hlt
          cases e
          rw [if_pos hlt, ← h.ver hb]
          exact ⟨fun p hq => hp p (List.mem_cons_of_mem _ hq), set_off hb, _, rfl, h.set _ _, set_off hb⟩
        · cases e
    | agg cs =>
      simp only [land1] at e ⊢
      split at e
      · rename_i ys s1 h1
        obtain ⟨Sa, pa⟩ := s1
        cases e
        obtain ⟨a1, a2, Sa', a3, a4, a5⟩ := ihL cs S S' ps ys S1 qs h hp h1
        exact ⟨a1, a2, Sa', by rw [a3], a4, a5⟩
      · cases e
    | tup cs =>
      simp only [land1] at e ⊢
      split at e
      · rename_i ys s1 h1
        obtain ⟨Sa, pa⟩ := s1
        cases e
        obtain ⟨a1, a2, Sa', a3, a4, a5⟩ := ihL cs S S' ps ys S1 qs h hp h1
        exact ⟨a1, a2, Sa', by rw [a3], a4, a5⟩
      · cases e
    | ifc t y =>
      simp only [land1] at e ⊢
      split at e
      · rename_i z s1 h1
        obtain ⟨Sa, pa⟩ := s1
        cases e
        obtain ⟨a1, a2, Sa', a3, a4, a5⟩ := ih y S S' ps z S1 qs h hp h1
        exact ⟨a1, a2, Sa', by rw [a3], a4, a5⟩
      · cases e
    | fn f p c =>
      simp only [land1] at e ⊢
      split at e
      · rename_i ys s1 h1
        obtain ⟨Sa, pa⟩ := s1
        split at e
        · rename_i zs s2 h2
          obtain ⟨Sb, pb⟩ := s2
          cases e
          obtain ⟨a1, a2, Sa', a3, a4, a5⟩ := ihL p S S' ps ys Sa pa h hp h1
          obtain ⟨b1, b2, Sb', b3, b4, b5⟩ := ihL c Sa Sa' pa zs S1 qs a4 a1 h2
          exact ⟨b1, fun c hc => (b2 c hc).trans (a2 c hc), Sb', by rw [a3]; simp only; rw [b3], b4, fun c hc => (b5 c hc).trans (a5 c hc)⟩
        · cases e
      · cases e
    | _ => simp only [land1] at e ⊢; exact same _ _ _ _ _ _ _ h hp e

theorem mem_free {env : Env} {S : Sto} {base : Nat} {sites : List Nat} {p : Nat} (h : p ∈ free env S base sites) : p ∈ sites.map (base + ·) := by
  unfold free at h
  exact (List.mem_filter.1 h).1

theorem doCall_lo {cx : Cx} {base : Nat} {env : Env} {fv : AV} {args : List AV} {sites : List Nat} {md : Nat} (hp : pureCall md fv args = true) :
    Lo (sites.map (base + ·) ++ args.flatMap refsV) (doCall cx base env fv args sites md) := by
  intro S S' a S1 h e
  have hl : lendA S args = lendA S' args := lendA_same (h.mono (fun b hb => List.mem_append_right _ hb))
  simp only [doCall, hp, if_true] at e ⊢
  rw [← hl]
  split at e
  · rename_i args' ha
    split at e
    · rename_i v hv
      split at e
      · rename_i hm
        split at e
        · cases e
        · rename_i hvs
          split at e
          · rename_i v' s2 h1
            obtain ⟨Sb, pb⟩ := s2
            cases e
            obtain ⟨b2, Sa', b3, b4, b5⟩ := frzL_lo (l := sites.map (base + ·) ++ args.flatMap refsV) args (fun b hb => List.mem_append_right _ hb) S S' () _ h rfl
            cases b3
            obtain ⟨c1, c2, Sc', c3, c4, c5⟩ := land1_lop (l := sites.map (base + ·) ++ args.flatMap refsV) 8 v _ (frzL S' args) _ v' _ pb b4 (by
              intro p hq
              split at hq
              · simp at hq
              · exact List.mem_append_left _ (mem_free hq)) h1
            exact ⟨fun c hc => (c2 c hc).trans (b2 c hc), Sc', by simp only [hm, if_true, hvs, if_false]; rw [c3]; rfl, c4, fun c hc => (c5 c hc).trans (b5 c hc)⟩
          · cases e
      · rename_i hm
        split at e
        · rename_i hpl
          cases e
          exact ⟨fun _ _ => rfl, S', by simp [hm, hpl], h, fun _ _ => rfl⟩
        · cases e
    · rename_i x hx
      split at e
      · rename_i hpl
        cases e
        exact ⟨fun _ _ => rfl, S', by simp [hpl], h, fun _ _ => rfl⟩
      · cases e
    · cases e
  · cases e

theorem evalOp_fp {cx : Cx} {base : Nat} {env : Env} {op : Iop} {xs : List AV} :
    (∀ l, fpOp base op xs = some (false, l) → Rd l (evalOp cx base env op xs)) ∧ (∀ l, fpOp base op xs = some (true, l) → Lo l (evalOp cx base env op xs)) := by
  cases op <;> refine ⟨fun l h => ?_, fun l h => ?_⟩ <;> simp only [fpOp, reduceCtorEq, Option.some.injEq, Prod.mk.injEq, true_and, false_and, Bool.true_eq_false, Bool.false_eq_true] at h <;> try (subst h; first | exact opMv_rd | exact opPick_rd | exact opBuild_rd | exact opEqs_rd | exact opBnot_rd | exact opConv_rd | exact opCflt_rd | exact opCcpx_rd | exact opMkifc_rd | exact Rd.ret | exact opFld_rd | exact opIdx_rd | exact opIdxs_rd | exact opTass_rd | exact opExtr_rd | exact opLens_rd | exact opMin2_rd | exact opMax2_rd | exact opSlcs_rd | exact opNilchk_rd | exact opBin_rd | exact opLen_rd | exact opSlc_rd | exact opSlca_rd | exact opFadr_rd | exact opIadr_rd | exact opIadra_rd | exact opLoad_rd | exact opLook_rd | exact opTostr_rd | exact opAlloc_lo | exact opBox_lo | exact opMkmap_lo | exact opMkslice_lo | exact opSrange_lo | exact opBslice_lo | exact opApp_lo | exact opStore_lo | exact opArrp_lo | exact opMapset_lo | exact opNext_lo | exact opCopy_lo | exact opClear_lo)
  · split at h <;> simp at h
  · split at h
    · rename_i hp
      simp only [Option.some.injEq, Prod.mk.injEq, true_and] at h
      subst h
      exact doCall_lo hp
    · cases h
  · cases xs with
    | nil => simp at h
    | cons fv args =>
      simp only at h
      split at h <;> simp at h
  · cases xs with
    | nil => simp at h
    | cons fv args =>
      simp only at h
      split at h
      · rename_i hp
        simp only [Option.some.injEq, Prod.mk.injEq, true_and] at h
        subst h
        exact doCall_lo hp
      · cases h

theorem Fp.comm {a b : Fp} {E F : Sto → R} (h : Fp.apart a b = true) (ha1 : ∀ l, a = some (false, l) → Rd l E) (ha2 : ∀ l, a = some (true, l) → Lo l E)
    (hb1 : ∀ l, b = some (false, l) → Rd l F) (hb2 : ∀ l, b = some (true, l) → Lo l F) : Comm E F := by
  unfold Fp.apart at h
  split at h
  · exact (ha1 _ rfl).comm0
  · exact (hb1 _ rfl).comm0'
  · exact (ha1 _ rfl).comm (hb1 _ rfl)
  · rename_i p l q m _ _ _
    have hE : Lo l E := by
      cases p
      · exact (ha1 _ rfl).lo
      · exact ha2 _ rfl
    have hF : Lo m F := by
      cases q
      · exact (hb1 _ rfl).lo
      · exact hb2 _ rfl
    refine hE.comm hF fun b hb hm => ?_
    have := List.all_eq_true.1 h b hb
    simp [hm] at this
  · cases h

end Go.Wm

set_option linter.unusedVariables false
set_option linter.unusedSimpArgs false
namespace Go.Wm
open Go.RowKit

variable {A : Alike} {P : Program} {B0 : Nat} {w0 w w' : World} {g g' : Sg} {S S' : Sto}

/-- the call's own view of memory: all that it may read stands still -/
def lentSg (H : Nat → Option (Array Value)) : Sg := ⟨H, fun _ => none, H, []⟩

theorem VPL_of_mem {H : Nat → Option (Array Value)} : ∀ (cs : List AV) (vs : List Value), vs.length = cs.length → (∀ (i : Nat) (x : AV) (v : Value), cs[i]? = some x → vs[i]? = some v → VP H x v) → VPL H cs vs
  | [], vs, hl, h => by
    simp only [VPL]
    exact List.eq_nil_of_length_eq_zero (by simpa using hl)
  | x :: cs, [], hl, h => by simp at hl
  | x :: cs, v :: vs, hl, h => by
    simp only [VPL]
    exact ⟨v, vs, rfl, h 0 x v (by simp) (by simp), VPL_of_mem cs vs (by simpa using hl) fun i y u hy hu => h (i + 1) y u (by simpa using hy) (by simpa using hu)⟩

theorem scalar_VPH {H : Nat → Option (Array Value)} {k : Nat} {x : AV} {v : Value} (hs : x.scalar = true) (h : V g S k x v) : VP H x v := by
  cases x <;> simp [AV.scalar] at hs <;> simpa [V, VP] using h

mutual
theorem pure_V {g' : Sg} {S' : Sto} {k k' : Nat} (l : ∀ c a, g.h c = some a → g'.h c = some a) : ∀ (x : AV) (v : Value), isPure x = true → V g S k x v → V g' S' k' x v
  | .int _ _, v, _, q => by simpa [V] using q
  | .bool _, v, _, q => by simpa [V] using q
  | .str _, v, _, q => by simpa [V] using q
  | .any, v, h, q => by simp [V]
  | .flt, v, _, q => by simpa [V] using q
  | .cpx, v, _, q => by simpa [V] using q
  | .nilp, v, _, q => by simpa [V] using q
  | .nilf, v, _, q => by simpa [V] using q
  | .nili, v, _, q => by simpa [V] using q
  | .nilm, v, _, q => by simpa [V] using q
  | .nils _ _, v, _, q => by simpa [V] using q
  | .zs _ _, v, _, q => by simpa [V] using q
  | .agg cs, v, h, q => by
    simp only [isPure] at h
    simp only [V] at q ⊢
    obtain ⟨vs, e, h1, h2⟩ := q
    exact ⟨vs, e, pureL_VT l cs vs h h1, h2⟩
  | .tup _, v, h, q => by simp [isPure] at h
  | .ifc t x, v, h, q => by
    simp only [isPure] at h
    simp only [V] at q ⊢
    obtain ⟨u, e, h1⟩ := q
    exact ⟨u, e, pure_V l x u h h1⟩
  | .imm e rows, v, h, q => by
    simp only [V] at q ⊢
    obtain ⟨a, c, e1, h1, h2, h0, h3, h4⟩ := q
    refine ⟨a, c, e1, h1, h2, h0, h3, ?_⟩
    rcases h4 with h4 | ⟨cb, off, arr, ea, eh, hr⟩
    · exact .inl h4
    · exact .inr ⟨cb, off, arr, ea, l _ _ eh, VR.mono l e rows _ hr⟩
  | .own _ _ _ _ _ _, v, h, q => by simp [isPure] at h
  | .vsl _ _ _ _ _, v, h, q => by simp [isPure] at h
  | .ptr _ _ _, v, h, q => by simp [isPure] at h
  | .eptr _ _ _ _, v, h, q => by simp [isPure] at h
  | .iptr cs j, v, h, q => by
    simp only [V] at q ⊢
    obtain ⟨cb, off, arr, e1, e2, h1, h2⟩ := q
    exact ⟨cb, off, arr, e1, l _ _ e2, VPL.mono l cs _ h1, h2⟩
  | .fn f a c, v, h, q => by
    simp only [isPure, Bool.and_eq_true] at h
    simp only [V] at q ⊢
    obtain ⟨x, y, e1, h1, h2⟩ := q
    exact ⟨x, y, e1, pureL_VT l a x h.1 h1, pureL_VT l c y h.2 h2⟩
  | .yld _ _, v, h, q => by simp [isPure] at h
  | .map _ _, v, h, q => by simp [isPure] at h
  | .itr _ _, v, h, q => by simp [isPure] at h
  | .new _ _ _, v, h, q => by simp [isPure] at h
  | .nbox _ _, v, h, q => by simp [isPure] at h
  | .nmap _, v, h, q => by simp [isPure] at h
theorem pureL_VT {g' : Sg} {S' : Sto} {k k' : Nat} (l : ∀ c a, g.h c = some a → g'.h c = some a) : ∀ (xs : List AV) (vs : List Value), isPureL xs = true → VT g S k xs vs → VT g' S' k' xs vs
  | [], vs, _, q => by simpa [VT] using q
  | x :: xs, vs, h, q => by
    simp only [isPureL, Bool.and_eq_true] at h
    simp only [VT] at q ⊢
    obtain ⟨v, vs', e, h1, h2⟩ := q
    exact ⟨v, vs', e, pure_V l x v h.1 h1, pureL_VT l xs vs' h.2 h2⟩
end

/-- what a call that is handed data may be shown of the caller's memory -/
structure Shown (g : Sg) (S : Sto) (w : World) (H : Nat → Option (Array Value)) (bs : List Nat) : Prop where
  ext : ∀ cb a, g.h cb = some a → H cb = some a
  cov : ∀ b, b ∈ bs → S.sig b ≠ none → ∀ cb s cur t, g.m b = some (cb, s) → w.heap[cb]? = some (.cells cur t (0, 0)) → H cb = some cur

theorem lend1_sound (R : Rel A B0 w0 g S w) {H : Nat → Option (Array Value)} {bs : List Nat} (hS : Shown g S w H bs) {x y : AV} {v : Value} (hb : ∀ b ∈ refs x, b ∈ bs) (hx : lendable1 x = true)
    (hv : V g S S.length x v) (h : lend1 S x = some y) : V (lentSg H) [] 0 y v := by
  cases x with
  | own e b ver lo n f =>
    simp only [lend1] at h
    split at h
    · rename_i rs hr
      cases h
      obtain ⟨t, rows, z, hb', hl, rfl⟩ := rowsOf_own hr
      simp only [V] at hv
      obtain ⟨he, _, _, _, hv⟩ := hv
      obtain ⟨_, hloc⟩ := hv (by rw [ver_some hb']; rfl) e (by rw [sig_some hb']; rfl)
      have hlen : ((rows.drop lo).take n).length = n := by simp; omega
      obtain ⟨_, hbr⟩ := R.blk _ _ hb'
      simp only [V, lentSg]
      rcases hloc with ⟨_, ⟨a0, rfl⟩, rfl, rfl⟩ | ⟨rfl, _, a, c, rfl, hc1, hc2⟩ | ⟨cb, sz, c, hmb, rfl, hnc, hcm, _⟩
      · exact ⟨a0, 0, by simp, by simp, by simp [maxLen], he, fun _ => rfl, .inl (by simp)⟩
      · exact ⟨a, c, by simp, by simp, hc1, he, hc2, .inl (by simp)⟩
      · refine ⟨_, c, by rw [hlen], by rw [hlen]; exact hnc, hcm, he, by simp, ?_⟩
        rcases hbr with ⟨h1, h2⟩ | ⟨cb', cur, h1, _, _, hheap, hvr⟩
        · rw [hmb] at h1; cases h1
        · rw [hmb] at h1
          cases h1
          have hh := hS.cov b (hb b (by simp [refs])) (by rw [sig_some hb']; simp [Blk.sig]) _ _ _ _ hmb hheap
          exact .inr ⟨cb, lo * e, cur, rfl, hh, VR.take n _ _ (VR.drop lo _ _ (VR.mono hS.ext _ _ _ hvr))⟩
    · cases h
  | vsl b ver off e n =>
    simp only [lend1] at h
    split at h
    · rename_i rs hr
      cases h
      simp only [rowsOf'] at hr
      split at hr
      · rename_i v0 t cs hb'
        split at hr
        · rename_i hc
          obtain ⟨rfl, hfit, hsc⟩ := hc
          cases hr
          simp only [V] at hv
          obtain ⟨he, _, _, _, hv⟩ := hv
          obtain ⟨cb, sz, c, hmb, rfl, hnc, hcm⟩ := hv (by rw [ver_some hb']; rfl) 0 (by rw [sig_some hb']; rfl)
          obtain ⟨cb', cur, h1, _, _, hheap, hvt, hone⟩ := R.blk _ _ hb'
          rw [hmb] at h1
          cases h1
          have hh := hS.cov b (hb b (by simp [refs])) (by rw [sig_some hb']; simp [Blk.sig]) _ _ _ _ hmb hheap
          have hvl : ∀ (m o : Nat), (vslRows cs o e m).length = m := by
            intro m
            induction m with
            | zero => intro o; rfl
            | succ m ih => intro o; simp [vslRows, ih]
          have hcl := VT.length _ _ hvt
          have hrow : ∀ (m o : Nat), o + m * e ≤ cs.length → (∀ i, o ≤ i → i < o + m * e → ∀ x, cs[i]? = some x → x.scalar = true) → VR H e (vslRows cs o e m) (cur.toList.drop o) := by
            intro m
            induction m with
            | zero => intro o _ _; simp [vslRows, VR]
            | succ m ih =>
              intro o ho hs
              rw [Nat.succ_mul] at ho
              simp only [vslRows, VR]
              refine ⟨by simp; omega, ?_, ?_, ?_⟩
              · refine VPL_of_mem _ _ (by simp; simp at hcl; omega) fun i x v hx hv => ?_
                rw [List.getElem?_take] at hx hv
                split at hx
                · rename_i hi
                  rw [if_pos hi] at hv
                  rw [List.getElem?_drop] at hx hv
                  obtain ⟨u, hu, hvu⟩ := VT.at_ _ _ hvt (o + i) x hx
                  rw [hu] at hv
                  cases hv
                  exact scalar_VPH (hs (o + i) (by omega) (by rw [Nat.succ_mul]; omega) x hx) hvu
                · cases hx
              · intro u hu
                exact hone u (List.mem_of_mem_drop (List.mem_of_mem_take hu))
              · rw [List.drop_drop]
                exact ih (o + e) (by omega) fun i h1 h2 x hx => hs i (by omega) (by rw [Nat.succ_mul]; omega) x hx
          simp only [V, lentSg]
          refine ⟨_, c, by rw [hvl], by rw [hvl]; exact hnc, hcm, he, by simp, .inr ⟨cb, off, cur, rfl, hh, hrow n off hfit ?_⟩⟩
          intro i h1 h2 x hx
          refine List.all_eq_true.1 hsc x ?_
          refine List.mem_of_getElem? (i := i - off) ?_
          rw [List.getElem?_take, if_pos (by omega), List.getElem?_drop, show off + (i - off) = i by omega]
          exact hx
        · cases hr
      · cases hr
    · cases h
  | nils t e =>
    simp only [lend1] at h
    simp only [V] at hv
    subst hv
    split at h
    · cases h
      simp only [V]
      exact ⟨none, 0, rfl, by simp, by simp [maxLen], by assumption, fun _ => rfl, .inl trivial⟩
    · cases h
      simp [V]
  | zs t e =>
    simp only [lend1] at h
    simp only [V] at hv
    obtain ⟨a, rfl⟩ := hv
    split at h
    · cases h
      simp only [V]
      exact ⟨a, 0, rfl, by simp, by simp [maxLen], by assumption, fun _ => rfl, .inl trivial⟩
    · cases h
      simp [V]
  | _ =>
    simp only [lend1] at h
    cases h
    exact pure_V (g' := lentSg H) (by intro c a hc; exact hS.ext c a hc) _ _ hx hv

theorem lendL_sound (R : Rel A B0 w0 g S w) {H : Nat → Option (Array Value)} {bs : List Nat} (hS : Shown g S w H bs) : ∀ {xs ys : List AV} {vs : List Value}, (∀ b ∈ xs.flatMap refs, b ∈ bs) → xs.all lendable1 = true →
    VT g S S.length xs vs → lendL S xs = some ys → VT (lentSg H) [] 0 ys vs
  | [], ys, vs, _, _, hv, h => by
    simp only [lendL] at h
    cases h
    simpa [VT] using hv
  | x :: xs, ys, vs, hb, hx, hv, h => by
    simp only [lendL] at h
    simp only [List.all_cons, Bool.and_eq_true] at hx
    simp only [VT] at hv
    obtain ⟨v, vs', rfl, h1, h2⟩ := hv
    split at h
    · rename_i y ys' e1 e2
      cases h
      simp only [VT]
      exact ⟨v, vs', rfl, lend1_sound R hS (fun b hb' => hb b (by simp [hb'])) hx.1 h1 e1, lendL_sound R hS (fun b hb' => hb b (by rw [List.flatMap_cons]; exact List.mem_append_right _ hb')) hx.2 h2 e2⟩
    · cases h
theorem lend_sound (R : Rel A B0 w0 g S w) {H : Nat → Option (Array Value)} {bs : List Nat} (hS : Shown g S w H bs) {x y : AV} {v : Value} (hb : ∀ b ∈ refsV x, b ∈ bs) (hx : lendable x = true)
    (hv : V g S S.length x v) (h : lend S x = some y) : V (lentSg H) [] 0 y v := by
  have key : ∀ x : AV, lend S x = lend1 S x → lendable x = lendable1 x → refs x = refsV x → (∀ b ∈ refsV x, b ∈ bs) → lendable x = true → V g S S.length x v → lend S x = some y → V (lentSg H) [] 0 y v := by
    intro x e1 e2 e3 hb hx hv h
    exact lend1_sound R hS (e3 ▸ hb) (e2 ▸ hx) hv (e1 ▸ h)
  cases x with
  | agg cs =>
    simp only [lend] at h
    split at h
    · rename_i ys hy
      cases h
      simp only [V] at hv ⊢
      obtain ⟨vs, rfl, h1, h2⟩ := hv
      exact ⟨vs, rfl, lendL_sound R hS hb hx h1 hy, h2⟩
    · cases h
  | tup cs => simp [lendable, lendable1, isPure] at hx
  | fn f a c => exact lend1_sound R hS (x := .fn f a c) (by simp [refs]) hx hv h
  | _ => exact key _ rfl rfl rfl hb hx hv h
theorem lendA_sound (R : Rel A B0 w0 g S w) {H : Nat → Option (Array Value)} {bs : List Nat} (hS : Shown g S w H bs) : ∀ {xs ys : List AV} {vs : List Value}, (∀ b ∈ xs.flatMap refsV, b ∈ bs) → xs.all lendable = true →
    VT g S S.length xs vs → lendA S xs = some ys → VT (lentSg H) [] 0 ys vs
  | [], ys, vs, _, _, hv, h => by
    simp only [lendA] at h
    cases h
    simpa [VT] using hv
  | x :: xs, ys, vs, hb, hx, hv, h => by
    simp only [lendA] at h
    simp only [List.all_cons, Bool.and_eq_true] at hx
    simp only [VT] at hv
    obtain ⟨v, vs', rfl, h1, h2⟩ := hv
    split at h
    · rename_i y ys' e1 e2
      cases h
      simp only [VT]
      exact ⟨v, vs', rfl, lend_sound R hS (fun b hb' => hb b (by simp [hb'])) hx.1 h1 e1, lendA_sound R hS (fun b hb' => hb b (by rw [List.flatMap_cons]; exact List.mem_append_right _ hb')) hx.2 h2 e2⟩
    · cases h

/-- all that lies in memory, shown -/
def snap (w : World) : Nat → Option (Array Value) := fun cb => match w.heap[cb]? with | some (.cells a _ _) => some a | _ => none
theorem shown_snap (R : Rel A B0 w0 g S w) (bs : List Nat) : Shown g S w (snap w) bs := by
  refine ⟨fun cb a h => ?_, fun b _ _ cb s cur t _ h => ?_⟩
  · obtain ⟨t, fz, e⟩ := R.him cb a h
    simp [snap, e]
  · simp [snap, h]
theorem snap_heap {cb : Nat} {a : Array Value} (h : snap w cb = some a) : ∃ t fz, w.heap[cb]? = some (.cells a t fz) := by
  unfold snap at h
  split at h
  · rename_i b t fz hb
    cases h
    exact ⟨t, fz, hb⟩
  · cases h

/-- at a call that is handed data alone -/
theorem lent_rel {H : Nat → Option (Array Value)} (hH : ∀ cb a, H cb = some a → ∃ t fz, w.heap[cb]? = some (.cells a t fz)) : Rel A w.heap.size w (lentSg H) [] w where
  below := Below.refl _ _
  room := Nat.le_refl _
  him := hH
  low _ _ := rfl
  blk b x hx := by simp at hx
  inj b b' cb s s' h _ _ _ := by simp [Sto.sig] at h
  q r h := by simp [lentSg] at h

/-! ### freezing what is lent -/
def own1 : AV → List Nat
  | .own _ b _ _ _ _ => [b]
  | _ => []
def ownV : AV → List Nat
  | .agg cs => cs.flatMap own1
  | x => own1 x

/-- rows stay as they are, and what was to be frozen is -/
def Frz (S S' : Sto) (l : List Nat) : Prop := ∀ b ver t e rows z, S[b]? = some (.row ver t e rows z) → ∃ z', S'[b]? = some (.row ver t e rows z') ∧ (z = true → z' = true) ∧ (b ∈ l → z' = true)

theorem Frz.nil : Frz S S [] := fun b ver t e rows z h => ⟨z, h, id, by simp⟩
theorem Frz.trans {S1 S2 : Sto} {l m : List Nat} (a : Frz S S1 l) (b : Frz S1 S2 m) : Frz S S2 (l ++ m) := by
  intro c ver t e rows z h
  obtain ⟨z1, h1, h2, h3⟩ := a c ver t e rows z h
  obtain ⟨z2, h4, h5, h6⟩ := b c ver t e rows z1 h1
  refine ⟨z2, h4, fun hz => h5 (h2 hz), fun hm => ?_⟩
  rcases List.mem_append.1 hm with hm | hm
  · exact h5 (h3 hm)
  · exact h6 hm

/-- a store whose rows are frozen, some of them -/
def FrzRel (A : Alike) (B0 : Nat) (w0 : World) (g : Sg) (S : Sto) (w : World) (S' : Sto) (l : List Nat) : Prop :=
  ∃ g', Rel A B0 w0 g' S' w ∧ (∀ k, Le k g S g' S') ∧ g'.m = g.m ∧ S'.length = S.length ∧ Frz S S' l

theorem frz1_sound (R : Rel A B0 w0 g S w) (x : AV) : FrzRel A B0 w0 g S w (frz1 S x) (own1 x) := by
  have same : own1 x = [] → frz1 S x = S → FrzRel A B0 w0 g S w (frz1 S x) (own1 x) := by
    intro h1 h2
    rw [h1, h2]
    exact ⟨g, R, fun k => Le.refl _ _ _, rfl, rfl, Frz.nil⟩
  cases x with
  | own e b ver lo n f =>
    simp only [frz1, own1]
    split
    · rename_i v t e' rows z hb
      obtain ⟨g', R', l, m, _⟩ := R.freeze hb
      refine ⟨g', R', l, m, by simp, ?_⟩
      intro c ver t e rows z h
      by_cases hc : c = b
      · subst hc
        rw [hb] at h
        cases h
        exact ⟨true, List.getElem?_set_self (List.getElem?_eq_some_iff.1 hb).1, fun _ => rfl, fun _ => rfl⟩
      · exact ⟨z, by rw [List.getElem?_set_ne (fun e => hc e.symm)]; exact h, id, fun hm => absurd (by simpa using hm) hc⟩
    · rename_i hn
      refine ⟨g, R, fun k => Le.refl _ _ _, rfl, rfl, ?_⟩
      intro c ver t e rows z h
      refine ⟨z, h, id, fun hm => ?_⟩
      have : c = b := by simpa using hm
      subst this
      exact absurd h (hn _ _ _ _ _)
  | _ => exact same rfl rfl

theorem FrzRel.step {l m : List Nat} {S1 S2 : Sto} (a : FrzRel A B0 w0 g S w S1 l) (b : ∀ g1, Rel A B0 w0 g1 S1 w → FrzRel A B0 w0 g1 S1 w S2 m) : FrzRel A B0 w0 g S w S2 (l ++ m) := by
  obtain ⟨g1, R1, l1, m1, n1, f1⟩ := a
  obtain ⟨g2, R2, l2, m2, n2, f2⟩ := b g1 R1
  exact ⟨g2, R2, fun k => (l1 k).trans (l2 k), m2.trans m1, n2.trans n1, f1.trans f2⟩
theorem FrzRel.refl (R : Rel A B0 w0 g S w) : FrzRel A B0 w0 g S w S [] := ⟨g, R, fun k => Le.refl _ _ _, rfl, rfl, Frz.nil⟩

theorem frzC_sound : ∀ (cs : List AV) {g : Sg} {S : Sto}, Rel A B0 w0 g S w → FrzRel A B0 w0 g S w (cs.foldl frz1 S) (cs.flatMap own1)
  | [], g, S, R => FrzRel.refl R
  | x :: cs, g, S, R => by
    rw [List.flatMap_cons, List.foldl_cons]
    exact (frz1_sound R x).step fun g1 R1 => frzC_sound cs R1
theorem frzL_sound : ∀ (xs : List AV) {g : Sg} {S : Sto}, Rel A B0 w0 g S w → FrzRel A B0 w0 g S w (frzL S xs) (xs.flatMap ownV)
  | [], g, S, R => FrzRel.refl R
  | x :: xs, g, S, R => by
    have h1 : FrzRel A B0 w0 g S w (match x with | .agg cs => cs.foldl frz1 S | x => frz1 S x) (ownV x) := by
      cases x with
      | agg cs => exact frzC_sound cs R
      | _ => exact frz1_sound R _
    have h2 := h1.step fun g1 R1 => frzL_sound xs R1
    rw [List.flatMap_cons]
    cases x <;> exact h2

theorem pure_refs {x : AV} (h : isPure x = true) : refs x = [] := by cases x <;> simp_all [isPure, refs]
theorem pureL_refs : ∀ {xs : List AV}, isPureL xs = true → xs.flatMap refs = []
  | [], _ => rfl
  | x :: xs, h => by
    simp only [isPureL, Bool.and_eq_true] at h
    rw [List.flatMap_cons, pure_refs h.1, pureL_refs h.2]
    rfl
def vsl1 : AV → Bool
  | .vsl _ _ _ _ _ => true
  | _ => false
theorem lendable1_own {x : AV} (h : lendable1 x = true) (hv : vsl1 x = false) : refs x = own1 x := by
  cases x <;> first | rfl | (simp [vsl1] at hv; done) | (simp [lendable1, isPure] at h)
theorem lendable_own {x : AV} (h : lendable x = true) (hv : isVsl x = false) : refsV x = ownV x := by
  cases x with
  | agg cs =>
    simp only [refsV, ownV]
    simp only [lendable, List.all_eq_true] at h
    simp only [isVsl, List.any_eq_false] at hv
    have : ∀ (l : List AV), (∀ y ∈ l, y ∈ cs) → l.flatMap refs = l.flatMap own1 := by
      intro l
      induction l with
      | nil => intro _; rfl
      | cons y l ih =>
        intro hl
        rw [List.flatMap_cons, List.flatMap_cons, ih fun z hz => hl z (List.mem_cons_of_mem _ hz)]
        have h1 := h y (hl y (by simp))
        have h2 := hv y (hl y (by simp))
        rw [lendable1_own h1 (by cases y <;> simp_all [vsl1])]
    exact this cs fun y hy => hy
  | fn f a c =>
    simp only [lendable, lendable1, isPure, Bool.and_eq_true] at h
    simp [refsV, ownV, own1, pureL_refs h.1, pureL_refs h.2]
  | tup cs => simp [lendable, lendable1, isPure] at h
  | vsl b v o e n => simp [isVsl] at hv
  | own e b v lo n f => rfl
  | _ => first | rfl | (simp [lendable, lendable1, isPure] at h)

theorem lend1_row {x y : AV} (h : lend1 S x = some y) : ∀ b ∈ own1 x, ∃ ver t e rows z, S[b]? = some (.row ver t e rows z) := by
  intro b hb
  cases x <;> simp [own1] at hb
  subst hb
  simp only [lend1] at h
  split at h
  · rename_i rs hr
    obtain ⟨t, rows, z, h1, _⟩ := rowsOf_own hr
    exact ⟨_, _, _, _, _, h1⟩
  · cases h
theorem lendL_row : ∀ {xs ys : List AV}, lendL S xs = some ys → ∀ b ∈ xs.flatMap own1, ∃ ver t e rows z, S[b]? = some (.row ver t e rows z)
  | [], _, _ => by simp
  | x :: xs, ys, h => by
    simp only [lendL] at h
    split at h
    · rename_i y ys' e1 e2
      intro b hb
      rw [List.flatMap_cons] at hb
      rcases List.mem_append.1 hb with hb | hb
      · exact lend1_row e1 b hb
      · exact lendL_row e2 b hb
    · cases h
theorem lend_row {x y : AV} (h : lend S x = some y) : ∀ b ∈ ownV x, ∃ ver t e rows z, S[b]? = some (.row ver t e rows z) := by
  cases x with
  | agg cs =>
    simp only [lend] at h
    split at h
    · rename_i ys e1
      exact lendL_row e1
    · cases h
  | own e b ver lo n f => exact lend1_row (x := .own e b ver lo n f) h
  | _ => intro b hb; simp [ownV, own1] at hb
theorem lendA_row : ∀ {xs ys : List AV}, lendA S xs = some ys → ∀ b ∈ xs.flatMap ownV, ∃ ver t e rows z, S[b]? = some (.row ver t e rows z)
  | [], _, _ => by simp
  | x :: xs, ys, h => by
    simp only [lendA] at h
    split at h
    · rename_i y ys' e1 e2
      intro b hb
      rw [List.flatMap_cons] at hb
      rcases List.mem_append.1 hb with hb | hb
      · exact lend_row e1 b hb
      · exact lendA_row e2 b hb
    · cases h

/-- what is frozen may be shown -/
theorem shown_frz (R : Rel A B0 w0 g S w) {args args' : List AV} (hl : args.all lendable = true) (hv : args.any isVsl = false) (ha : lendA S args = some args') :
    ∃ g', Rel A B0 w0 g' (frzL S args) w ∧ (∀ k, Le k g S g' (frzL S args)) ∧ (frzL S args).length = S.length ∧ Shown g S w g'.h (args.flatMap refsV) := by
  obtain ⟨g', R', l, m, n, f⟩ := frzL_sound args R
  refine ⟨g', R', l, n, (l 0).h, ?_⟩
  intro b hb hs cb s cur t hm hheap
  have hb' : b ∈ args.flatMap ownV := by
    obtain ⟨x, hx, hbx⟩ := List.mem_flatMap.1 hb
    have h1 := List.all_eq_true.1 hl x hx
    have h2 := List.any_eq_false.1 hv x hx
    rw [lendable_own h1 (by simpa using h2)] at hbx
    exact List.mem_flatMap.2 ⟨x, hx, hbx⟩
  obtain ⟨ver, t', e, rows, z, hrow⟩ := lendA_row ha b hb'
  obtain ⟨z', h1, _, h3⟩ := f b ver t' e rows z hrow
  rw [h3 hb'] at h1
  obtain ⟨_, hbr⟩ := R'.blk _ _ h1
  rcases hbr with ⟨h4, _⟩ | ⟨cb', cur', h4, _, h5, h6, _⟩
  · rw [m, hm] at h4; cases h4
  · rw [m, hm] at h4
    cases h4
    rw [hheap] at h6
    cases h6
    simpa using h5

end Go.Wm

set_option linter.unusedVariables false
set_option linter.unusedSimpArgs false
namespace Go.Wm
open Go.RowKit

variable {A : Alike} {P : Program} {B0 : Nat} {w0 w w' : World} {g g' : Sg} {S S' : Sto}

/-- no live block lies there -/
def Free (g : Sg) (S : Sto) (cb : Nat) : Prop := ∀ b s, S.sig b ≠ none → g.m b ≠ some (cb, s)

/-- a value that leaves a call: its new blocks are told -/
def NewRow (h : Nat → Option (Array Value)) (w : World) (t e : Nat) (rows : List (List AV)) (v : Value) (X : List Nat) : Prop :=
  0 < e ∧ ((X = [] ∧ rows = [] ∧ ∃ a, v = .slice a 0 0) ∨ ∃ cb, ∃ cur : Array Value, ∃ c, X = [cb] ∧ w.heap[cb]? = some (.cells cur t (0, 0)) ∧ v = .slice (some ⟨cb, 0, none⟩) rows.length c ∧ rows.length ≤ c ∧ c ≤ maxLen ∧ c * e = cur.size ∧ VR h e rows cur.toList)

mutual
def VX (h : Nat → Option (Array Value)) (w : World) : AV → Value → List Nat → Prop
  | .new t e rows, v, X => NewRow h w t e rows v X
  | .nbox t cs, v, X => ∃ cb, ∃ cur : Array Value, ∃ X', X = cb :: X' ∧ v = .pointer (some ⟨cb, 0, none⟩) ∧ w.heap[cb]? = some (.cells cur t (0, 0)) ∧ VXL h w cs cur.toList X' ∧ oneCells cur.toList
  | .nmap es, v, X => ∃ cb, ∃ mes : Array MapEntry, ∃ clock, X = [cb] ∧ v = .map (some cb) ∧ w.heap[cb]? = some (.map mes clock) ∧ mes.toList.map (·.key) = es.map (fun p => .int .i64 p.1) ∧ VPL h (es.map (·.2)) (mes.toList.map (·.val))
  | .agg cs, v, X => ∃ vs : List Value, v = .agg vs.toArray ∧ VXL h w cs vs X ∧ oneCells vs
  | .tup cs, v, X => ∃ vs : List Value, v = .tuple vs.toArray ∧ VXL h w cs vs X
  | .ifc t x, v, X => ∃ u, v = .iface t u ∧ VX h w x u X
  | .fn f first cap, v, X => ∃ a c : List Value, ∃ X1 X2, v = .func (.func f) a.toArray c.toArray ∧ X = X1 ++ X2 ∧ VXL h w first a X1 ∧ VXL h w cap c X2
  | .int kd n, v, X => X = [] ∧ v = .int kd n
  | .bool b, v, X => X = [] ∧ v = .bool b
  | .str s, v, X => X = [] ∧ v = .string ⟨s.toArray⟩
  | .any, v, X => X = []
  | .flt, v, X => X = [] ∧ ∃ b, v = .float .f64 b
  | .cpx, v, X => X = [] ∧ ∃ a b, v = .complex .f64 a b
  | .nilp, v, X => X = [] ∧ v = .pointer none
  | .nilf, v, X => X = [] ∧ v = .nilFunc
  | .nili, v, X => X = [] ∧ v = .nilIface
  | .nilm, v, X => X = [] ∧ v = .map none
  | .imm e rows, v, X => X = [] ∧ V (lentSg h) [] 0 (.imm e rows) v
  | .iptr cs j, v, X => X = [] ∧ V (lentSg h) [] 0 (.iptr cs j) v
  | .nils _ _, _, _ | .zs _ _, _, _ | .own _ _ _ _ _ _, _, _ | .vsl _ _ _ _ _, _, _ | .ptr _ _ _, _, _ | .eptr _ _ _ _, _, _ | .yld _ _, _, _ | .map _ _, _, _ | .itr _ _, _, _ => False
def VXL (h : Nat → Option (Array Value)) (w : World) : List AV → List Value → List Nat → Prop
  | [], vs, X => vs = [] ∧ X = []
  | x :: xs, vs, X => ∃ v vs' X1 X2, vs = v :: vs' ∧ X = X1 ++ X2 ∧ VX h w x v X1 ∧ VXL h w xs vs' X2
end

theorem V.imm_lent {H H' : Nat → Option (Array Value)} {S : Sto} {k e : Nat} {g : Sg} {rows : List (List AV)} {v : Value} (l : ∀ c a, g.h c = some a → H' c = some a) (h : V g S k (.imm e rows) v) : V (lentSg H') [] 0 (.imm e rows) v :=
  pure_V (g' := lentSg H') l _ _ rfl h
theorem V.iptr_lent {H' : Nat → Option (Array Value)} {S : Sto} {k j : Nat} {g : Sg} {cs : List AV} {v : Value} (l : ∀ c a, g.h c = some a → H' c = some a) (h : V g S k (.iptr cs j) v) : V (lentSg H') [] 0 (.iptr cs j) v :=
  pure_V (g' := lentSg H') l _ _ rfl h

mutual
theorem VX.mono {h h' : Nat → Option (Array Value)} (l : ∀ c a, h c = some a → h' c = some a) : ∀ (x : AV) (v : Value) (X : List Nat), VX h w x v X → VX h' w x v X
  | .int _ _, v, X, q => by simpa [VX] using q
  | .bool _, v, X, q => by simpa [VX] using q
  | .str _, v, X, q => by simpa [VX] using q
  | .any, v, X, q => by simpa [VX] using q
  | .flt, v, X, q => by simpa [VX] using q
  | .cpx, v, X, q => by simpa [VX] using q
  | .nilp, v, X, q => by simpa [VX] using q
  | .nilf, v, X, q => by simpa [VX] using q
  | .nili, v, X, q => by simpa [VX] using q
  | .nilm, v, X, q => by simpa [VX] using q
  | .agg cs, v, X, q => by
    simp only [VX] at q ⊢
    obtain ⟨vs, e, h1, h2⟩ := q
    exact ⟨vs, e, VXL.mono l cs vs X h1, h2⟩
  | .tup cs, v, X, q => by
    simp only [VX] at q ⊢
    obtain ⟨vs, e, h1⟩ := q
    exact ⟨vs, e, VXL.mono l cs vs X h1⟩
  | .ifc t x, v, X, q => by
    simp only [VX] at q ⊢
    obtain ⟨u, e, h1⟩ := q
    exact ⟨u, e, VX.mono l x u X h1⟩
  | .fn f a c, v, X, q => by
    simp only [VX] at q ⊢
    obtain ⟨x, y, X1, X2, e1, e2, h1, h2⟩ := q
    exact ⟨x, y, X1, X2, e1, e2, VXL.mono l a x X1 h1, VXL.mono l c y X2 h2⟩
  | .imm e rows, v, X, q => by
    simp only [VX] at q ⊢
    exact ⟨q.1, V.imm_lent (H := h) l q.2⟩
  | .iptr cs j, v, X, q => by
    simp only [VX] at q ⊢
    exact ⟨q.1, V.iptr_lent l q.2⟩
  | .new t e rows, v, X, q => by
    simp only [VX] at q ⊢
    obtain ⟨he, q⟩ := q
    refine ⟨he, ?_⟩
    rcases q with q | ⟨cb, cur, c, e1, e2, e3, e4, e5, e6, e7⟩
    · exact .inl q
    · exact .inr ⟨cb, cur, c, e1, e2, e3, e4, e5, e6, VR.mono l _ _ _ e7⟩
  | .nbox t cs, v, X, q => by
    simp only [VX] at q ⊢
    obtain ⟨cb, cur, X', e1, e2, e3, e4, e5⟩ := q
    exact ⟨cb, cur, X', e1, e2, e3, VXL.mono l cs _ _ e4, e5⟩
  | .nmap es, v, X, q => by
    simp only [VX] at q ⊢
    obtain ⟨cb, mes, clock, e1, e2, e3, e4, e5⟩ := q
    exact ⟨cb, mes, clock, e1, e2, e3, e4, VPL.mono l _ _ e5⟩
  | .nils _ _, _, _, q => by simp [VX] at q
  | .zs _ _, _, _, q => by simp [VX] at q
  | .own _ _ _ _ _ _, _, _, q => by simp [VX] at q
  | .vsl _ _ _ _ _, _, _, q => by simp [VX] at q
  | .ptr _ _ _, _, _, q => by simp [VX] at q
  | .eptr _ _ _ _, _, _, q => by simp [VX] at q
  | .yld _ _, _, _, q => by simp [VX] at q
  | .map _ _, _, _, q => by simp [VX] at q
  | .itr _ _, _, _, q => by simp [VX] at q
theorem VXL.mono {h h' : Nat → Option (Array Value)} (l : ∀ c a, h c = some a → h' c = some a) : ∀ (xs : List AV) (vs : List Value) (X : List Nat), VXL h w xs vs X → VXL h' w xs vs X
  | [], vs, X, q => by simpa [VXL] using q
  | x :: xs, vs, X, q => by
    simp only [VXL] at q ⊢
    obtain ⟨v, vs', X1, X2, e1, e2, h1, h2⟩ := q
    exact ⟨v, vs', X1, X2, e1, e2, VX.mono l x v X1 h1, VXL.mono l xs vs' X2 h2⟩
end

/-! ### leaving -/
theorem Rel.kill (R : Rel A B0 w0 g S w) {b : Nat} {x : Blk} (hb : S[b]? = some x) : Rel A B0 w0 g (S.set b (.dead x.ver)) w := by
  have hlt : b < S.length := (List.getElem?_eq_some_iff.1 hb).1
  refine R.write hlt (by rw [ver_some hb]; exact Nat.le_refl _) (.inr rfl) (cb := ((g.m b).getD (0, 0)).1) ?_ (.inl rfl) (fun _ _ => rfl) rfl rfl rfl (Nat.le_refl _) trivial
  intro _ c s h
  simp [h]
theorem Le.kill {b : Nat} {x : Blk} (hb : S[b]? = some x) (k : Nat) : Le k g S g (S.set b (.dead x.ver)) :=
  Le.turn (List.getElem?_eq_some_iff.1 hb).1 (by rw [ver_some hb]; exact Nat.le_refl _) (.inr rfl) k

/-- what is kept while values leave -/
structure Lv (A : Alike) (B0 : Nat) (w0 : World) (g : Sg) (S : Sto) (w : World) (g' : Sg) (S' : Sto) : Prop where
  rel : Rel A B0 w0 g' S' w
  le : ∀ k, Le k g S g' S'
  len : S'.length = S.length
  own : ∀ b, S'.sig b ≠ none → S.sig b ≠ none ∧ g'.m b = g.m b
  fr : ∀ cb, Free g S cb → g'.h cb = g.h cb

theorem Lv.refl (R : Rel A B0 w0 g S w) : Lv A B0 w0 g S w g S := ⟨R, fun k => Le.refl _ _ _, rfl, fun _ h => ⟨h, rfl⟩, fun _ _ => rfl⟩
theorem Lv.free (L : Lv A B0 w0 g S w g' S') {cb : Nat} (h : Free g S cb) : Free g' S' cb := by
  intro b s hs hm
  obtain ⟨h1, h2⟩ := L.own b hs
  exact h b s h1 (h2 ▸ hm)
theorem Lv.trans {g2 : Sg} {S2 : Sto} (a : Lv A B0 w0 g S w g' S') (b : Lv A B0 w0 g' S' w g2 S2) : Lv A B0 w0 g S w g2 S2 where
  rel := b.rel
  le k := (a.le k).trans (b.le k)
  len := b.len.trans a.len
  own c h := by
    obtain ⟨h1, h2⟩ := b.own c h
    obtain ⟨h3, h4⟩ := a.own c h1
    exact ⟨h3, h2.trans h4⟩
  fr cb h := (b.fr cb (a.free h)).trans (a.fr cb h)

/-- blocks that left -/
def Left (g : Sg) (S : Sto) (g' : Sg) (S' : Sto) (B0 : Nat) (X : List Nat) : Prop :=
  X.Nodup ∧ ∀ cb ∈ X, B0 ≤ cb ∧ g'.h cb = none ∧ Free g' S' cb ∧ ¬ Free g S cb

theorem Left.nil : Left g S g' S' B0 [] := ⟨List.nodup_nil, by simp⟩
theorem Left.append {g2 : Sg} {S2 : Sto} {X Y : List Nat} (a : Lv A B0 w0 g S w g' S') (b : Lv A B0 w0 g' S' w g2 S2) (x : Left g S g' S' B0 X) (y : Left g' S' g2 S2 B0 Y) : Left g S g2 S2 B0 (X ++ Y) := by
  refine ⟨List.nodup_append.2 ⟨x.1, y.1, ?_⟩, ?_⟩
  · rintro cb hx _ hy rfl
    exact (y.2 cb hy).2.2.2 (x.2 cb hx).2.2.1
  · intro cb h
    rcases List.mem_append.1 h with h | h
    · obtain ⟨h1, h2, h3, h4⟩ := x.2 cb h
      exact ⟨h1, (b.fr cb h3).trans h2, b.free h3, h4⟩
    · obtain ⟨h1, h2, h3, h4⟩ := y.2 cb h
      exact ⟨h1, h2, h3, fun hf => h4 (a.free hf)⟩

/-- one block leaves -/
theorem Lv.kill (R : Rel A B0 w0 g S w) {b cb s : Nat} {x : Blk} (hb : S[b]? = some x) (hs : x.sig ≠ none) (hm : g.m b = some (cb, s)) (hB : B0 ≤ cb) (hh : g.h cb = none) :
    Lv A B0 w0 g S w g (S.set b (.dead x.ver)) ∧ Left g S g (S.set b (.dead x.ver)) B0 [cb] := by
  have hlt : b < S.length := (List.getElem?_eq_some_iff.1 hb).1
  have hsb : S.sig b ≠ none := by rw [sig_some hb]; exact hs
  refine ⟨⟨R.kill hb, fun k => Le.kill hb k, by simp, ?_, fun _ _ => rfl⟩, ⟨by simp, ?_⟩⟩
  · intro i hi
    rw [sig_set hlt] at hi
    split at hi
    · exact absurd rfl hi
    · exact ⟨hi, rfl⟩
  · intro c hc
    have : c = cb := by simpa using hc
    subst this
    refine ⟨hB, hh, ?_, fun hf => hf b s hsb hm⟩
    intro i s' hi hmi
    rw [sig_set hlt] at hi
    split at hi
    · exact absurd rfl hi
    · rename_i hne
      exact hne (R.inj i b c s' s hi hsb hmi hm)

theorem Rel.freeze_lv (R : Rel A B0 w0 g S w) {b ver t e : Nat} {rows : List (List AV)} {z : Bool} (hb : S[b]? = some (.row ver t e rows z)) :
    ∃ g', Lv A B0 w0 g S w g' (S.set b (.row ver t e rows true)) ∧ g'.m = g.m := by
  have hlt : b < S.length := (List.getElem?_eq_some_iff.1 hb).1
  obtain ⟨g', R', l, m, _, hf⟩ := R.freeze' hb
  have hsb : S.sig b ≠ none := by rw [sig_some hb]; simp [Blk.sig]
  refine ⟨g', ⟨R', l, by simp, ?_, fun cb h => hf cb fun s => h b s hsb⟩, m⟩
  intro i hi
  rw [sig_set hlt] at hi
  refine ⟨?_, by rw [m]⟩
  split at hi
  · rename_i e; subst e; exact hsb
  · exact hi

theorem mapL_exp {d : Nat} (ih : ∀ {g : Sg} {S : Sto} (x : AV) {y : AV} {S' : Sto} {v : Value}, Rel A B0 w0 g S w → V g S S.length x v → export1 d x S = some (y, S') →
      ∃ g' X, Lv A B0 w0 g S w g' S' ∧ VX g'.h w y v X ∧ Left g S g' S' B0 X) : ∀ (xs : List AV) {g : Sg} {S : Sto} {ys : List AV} {S' : Sto} {vs : List Value}, Rel A B0 w0 g S w → VT g S S.length xs vs → mapL (export1 d) xs S = some (ys, S') →
      ∃ g' X, Lv A B0 w0 g S w g' S' ∧ VXL g'.h w ys vs X ∧ Left g S g' S' B0 X
  | [], g, S, ys, S', vs, R, hv, h => by
    simp only [mapL] at h
    cases h
    simp only [VT] at hv
    exact ⟨g, [], Lv.refl R, by simp [VXL, hv], Left.nil⟩
  | x :: xs, g, S, ys, S', vs, R, hv, h => by
    simp only [mapL] at h
    simp only [VT] at hv
    obtain ⟨v, vs', rfl, h1, h2⟩ := hv
    split at h
    · rename_i y S1 e1
      split at h
      · rename_i ys' S2 e2
        cases h
        obtain ⟨g1, X1, L1, v1, x1⟩ := ih x R h1 e1
        obtain ⟨g2, X2, L2, v2, x2⟩ := mapL_exp ih xs L1.rel (by rw [L1.len]; exact VT.mono (L1.le _) _ _ h2) e2
        refine ⟨g2, X1 ++ X2, L1.trans L2, ?_, Left.append L1 L2 x1 x2⟩
        simp only [VXL]
        exact ⟨v, vs', X1, X2, rfl, rfl, VX.mono (L2.le 0).h _ _ _ v1, v2⟩
      · cases h
    · cases h

theorem export1_sound : ∀ (d : Nat) {g : Sg} {S : Sto} (x : AV) {y : AV} {S' : Sto} {v : Value}, Rel A B0 w0 g S w → V g S S.length x v → export1 d x S = some (y, S') →
    ∃ g' X, Lv A B0 w0 g S w g' S' ∧ VX g'.h w y v X ∧ Left g S g' S' B0 X
  | 0, g, S, x, y, S', v, R, hv, h => by simp [export1] at h
  | d + 1, g, S, x, y, S', v, R, hv, h => by
    have ih := @export1_sound d
    have same : ∀ y, some (y, S) = some (y, S') → VX g.h w y v [] → ∃ g' X, Lv A B0 w0 g S w g' S' ∧ VX g'.h w y v X ∧ Left g S g' S' B0 X := by
      intro y e hy
      cases e
      exact ⟨g, [], Lv.refl R, hy, Left.nil⟩
    cases x with
    | nils t e =>
      simp only [export1] at h
      split at h
      · cases h
        simp only [V] at hv
        subst hv
        exact same _ rfl (by simp only [VX]; exact ⟨by assumption, .inl ⟨rfl, rfl, _, rfl⟩⟩)
      · cases h
    | zs t e =>
      simp only [export1] at h
      split at h
      · cases h
        simp only [V] at hv
        obtain ⟨a, rfl⟩ := hv
        exact same _ rfl (by simp only [VX]; exact ⟨by assumption, .inl ⟨rfl, rfl, _, rfl⟩⟩)
      · cases h
    | own e b ver lo n f =>
      simp only [export1] at h
      split at h
      · rename_i v0 t e' rows z rs hb hr
        obtain ⟨t2, rows2, z2, hb2, hl, rfl⟩ := rowsOf_own hr
        rw [hb] at hb2
        cases hb2
        have hv0 := hv
        simp only [V] at hv
        obtain ⟨he, _, _, _, hv⟩ := hv
        obtain ⟨_, hloc⟩ := hv (by rw [ver_some hb]; rfl) e (by rw [sig_some hb]; rfl)
        have hlen : ((rows.drop lo).take n).length = n := by simp; omega
        split at h
        · rename_i hc
          obtain ⟨rfl, rfl, rfl, rfl⟩ := hc
          cases h
          obtain ⟨_, hbr⟩ := R.blk _ _ hb
          have hrs : (rows.drop 0).take rows.length = rows := by simp
          rcases hloc with ⟨hmn, ⟨a0, rfl⟩, hn0, _⟩ | ⟨_, h2, _⟩ | ⟨cb, sz, c, hmb, rfl, hnc, hcm, hfull⟩
          · have hr0 : rows = [] := List.eq_nil_of_length_eq_zero hn0
            subst hr0
            refine ⟨g, [], ⟨R.kill hb, fun k => Le.kill hb k, by simp, ?_, fun _ _ => rfl⟩, ?_, Left.nil⟩
            · intro i hi
              rw [sig_set (List.getElem?_eq_some_iff.1 hb).1] at hi
              split at hi
              · exact absurd rfl hi
              · exact ⟨hi, rfl⟩
            · simp only [VX]
              exact ⟨he, .inl ⟨rfl, by simp, _, rfl⟩⟩
          · cases h2
          · rcases hbr with ⟨h1, h2⟩ | ⟨cb', cur, h1, hB, hh, hheap, hvr⟩
            · rw [hmb] at h1; cases h1
            · rw [hmb] at h1
              cases h1
              obtain ⟨L, lf⟩ := Lv.kill R hb (by simp [Blk.sig]) hmb hB (by simpa using hh)
              refine ⟨g, [cb], L, ?_, lf⟩
              simp only [VX]
              obtain ⟨_, hce⟩ := hfull rfl
              exact ⟨he, .inr ⟨cb, cur, c, rfl, hheap, by simp, by simpa using hnc, hcm, hce, by simpa using hvr⟩⟩
        · cases h
          obtain ⟨g', L, m⟩ := R.freeze_lv hb
          refine ⟨g', [], L, ?_, Left.nil⟩
          simp only [VX]
          have hp := pure1_sound R hv0 (y := .imm e ((rows.drop lo).take n)) (S1 := S.set b (.row ver t e rows true)) (by simp only [pure1]; rw [hb, hr])
          refine ⟨trivial, ?_⟩
          -- by freezing, the rows stand
          obtain ⟨_, hbr⟩ := L.rel.blk b _ (List.getElem?_set_self (List.getElem?_eq_some_iff.1 hb).1)
          simp only [V, lentSg]
          rcases hloc with ⟨_, ⟨a0, rfl⟩, rfl, rfl⟩ | ⟨rfl, _, a, c, rfl, hc1, hc2⟩ | ⟨cb, sz, c, hmb, rfl, hnc, hcm, _⟩
          · exact ⟨a0, 0, by simp, by simp, by simp [maxLen], he, fun _ => rfl, .inl (by simp)⟩
          · exact ⟨a, c, by simp, by simp, hc1, he, hc2, .inl (by simp)⟩
          · refine ⟨_, c, by rw [hlen], by rw [hlen]; exact hnc, hcm, he, by simp, ?_⟩
            rcases hbr with ⟨h1, h2⟩ | ⟨cb', cur, h1, _, hh, hheap, hvr⟩
            · rw [m, hmb] at h1; cases h1
            · rw [m, hmb] at h1
              cases h1
              exact .inr ⟨cb, lo * e, cur, rfl, by simpa using hh, VR.take n _ _ (VR.drop lo _ _ hvr)⟩
      · cases h
    | ptr b ver off =>
      simp only [export1] at h
      split at h
      · rename_i v0 t cs hb
        split at h
        · rename_i hc
          obtain ⟨rfl, rfl⟩ := hc
          split at h
          · rename_i ys S1 e1
            cases h
            simp only [V] at hv
            obtain ⟨_, _, _, hv⟩ := hv
            obtain ⟨cb, sz, hmb, rfl⟩ := hv (by rw [ver_some hb]; rfl) 0 (by rw [sig_some hb]; rfl)
            obtain ⟨cb', cur, h1, hB, hh, hheap, hvt, hone⟩ := R.blk _ _ hb
            rw [hmb] at h1
            cases h1
            obtain ⟨L, lf⟩ := Lv.kill R hb (by simp [Blk.sig]) hmb hB hh
            obtain ⟨g2, X2, L2, v2, x2⟩ := mapL_exp ih cs L.rel (by rw [L.len]; exact VT.mono (L.le _) _ _ hvt) e1
            refine ⟨g2, cb :: X2, L.trans L2, ?_, Left.append L L2 lf x2⟩
            simp only [VX]
            exact ⟨cb, cur, X2, rfl, rfl, hheap, v2, hone⟩
          · cases h
        · cases h
      · cases h
    | map b ver =>
      simp only [export1] at h
      split at h
      · rename_i v0 es hb
        split at h
        · rename_i hc
          subst hc
          cases h
          simp only [V] at hv
          obtain ⟨_, _, _, hv⟩ := hv
          obtain ⟨cb, sz, hmb, rfl⟩ := hv (by rw [ver_some hb]; rfl) 0 (by rw [sig_some hb]; rfl)
          obtain ⟨cb', mes, clock, h1, hB, hh, hheap, hk, hvl⟩ := R.blk _ _ hb
          rw [hmb] at h1
          cases h1
          obtain ⟨L, lf⟩ := Lv.kill R hb (by simp [Blk.sig]) hmb hB hh
          refine ⟨g, [cb], L, ?_, lf⟩
          simp only [VX]
          exact ⟨cb, mes, clock, rfl, rfl, hheap, hk, hvl⟩
        · cases h
      · cases h
    | agg cs =>
      simp only [export1] at h
      split at h
      · rename_i ys S1 e1
        cases h
        simp only [V] at hv
        obtain ⟨vs, rfl, h1, h2⟩ := hv
        obtain ⟨g2, X2, L2, v2, x2⟩ := mapL_exp ih cs R h1 e1
        exact ⟨g2, X2, L2, by simp only [VX]; exact ⟨vs, rfl, v2, h2⟩, x2⟩
      · cases h
    | tup cs =>
      simp only [export1] at h
      split at h
      · rename_i ys S1 e1
        cases h
        simp only [V] at hv
        obtain ⟨vs, rfl, h1⟩ := hv
        obtain ⟨g2, X2, L2, v2, x2⟩ := mapL_exp ih cs R h1 e1
        exact ⟨g2, X2, L2, by simp only [VX]; exact ⟨vs, rfl, v2⟩, x2⟩
      · cases h
    | ifc t x =>
      simp only [export1] at h
      split at h
      · rename_i y S1 e1
        cases h
        simp only [V] at hv
        obtain ⟨u, rfl, h1⟩ := hv
        obtain ⟨g2, X2, L2, v2, x2⟩ := ih x R h1 e1
        exact ⟨g2, X2, L2, by simp only [VX]; exact ⟨u, rfl, v2⟩, x2⟩
      · cases h
    | fn f p c =>
      simp only [export1] at h
      split at h
      · rename_i ys S1 e1
        split at h
        · rename_i zs S2 e2
          cases h
          simp only [V] at hv
          obtain ⟨ps, qs, rfl, h1, h2⟩ := hv
          obtain ⟨g1, X1, L1, v1, x1⟩ := mapL_exp ih p R h1 e1
          obtain ⟨g2, X2, L2, v2, x2⟩ := mapL_exp ih c L1.rel (by rw [L1.len]; exact VT.mono (L1.le _) _ _ h2) e2
          exact ⟨g2, X1 ++ X2, L1.trans L2, by simp only [VX]; exact ⟨ps, qs, X1, X2, rfl, rfl, VXL.mono (L2.le 0).h _ _ _ v1, v2⟩, Left.append L1 L2 x1 x2⟩
        · cases h
      · cases h
    | imm e rows => simp only [export1] at h; cases h; exact same _ rfl (by simp only [VX]; exact ⟨trivial, V.imm_lent (H := g.h) (fun _ _ h => h) hv⟩)
    | iptr cs j => simp only [export1] at h; cases h; exact same _ rfl (by simp only [VX]; exact ⟨trivial, V.iptr_lent (fun _ _ h => h) hv⟩)
    | int k n => simp only [export1] at h; cases h; exact same _ rfl (by simpa [V, VX] using hv)
    | bool b => simp only [export1] at h; cases h; exact same _ rfl (by simpa [V, VX] using hv)
    | str b => simp only [export1] at h; cases h; exact same _ rfl (by simpa [V, VX] using hv)
    | any => simp only [export1] at h; cases h; exact same _ rfl (by simp [VX])
    | flt => simp only [export1] at h; cases h; exact same _ rfl (by simpa [V, VX] using hv)
    | cpx => simp only [export1] at h; cases h; exact same _ rfl (by simpa [V, VX] using hv)
    | nilp => simp only [export1] at h; cases h; exact same _ rfl (by simpa [V, VX] using hv)
    | nilf => simp only [export1] at h; cases h; exact same _ rfl (by simpa [V, VX] using hv)
    | nili => simp only [export1] at h; cases h; exact same _ rfl (by simpa [V, VX] using hv)
    | nilm => simp only [export1] at h; cases h; exact same _ rfl (by simpa [V, VX] using hv)
    | vsl _ _ _ _ _ => simp [export1] at h
    | eptr _ _ _ _ => simp [export1] at h
    | yld _ _ => simp [export1] at h
    | itr _ _ => simp [export1] at h
    | new _ _ _ => simp [export1] at h
    | nbox _ _ => simp [export1] at h
    | nmap _ => simp [export1] at h

end Go.Wm

set_option linter.unusedVariables false
set_option linter.unusedSimpArgs false
namespace Go.Wm
open Go.RowKit

variable {A : Alike} {P : Program} {B0 : Nat} {w0 w w' : World} {g g' : Sg} {S S' : Sto}

/-- memory that no live block has goes to one -/
theorem Rel.take (R : Rel A B0 w0 g S w) {b : Nat} {x : Blk} (hb : b < S.length) (hv : S.ver b < x.ver) (p : Option (Nat × Nat)) (hp : ∀ cb s, p = some (cb, s) → Free g S cb) (hq : ∀ cb s, p = some (cb, s) → ∀ r ∈ g.q, r.1 ≠ cb)
    (hx : BR A (g.put b p) (S.set b x) w B0 b x) : Rel A B0 w0 (g.put b p) (S.set b x) w where
  below := R.below
  room := R.room
  him := R.him
  low := R.low
  blk i y hy := by
    by_cases h : i = b
    · subst h
      rw [List.getElem?_set_self hb] at hy
      cases hy
      exact hx
    · rw [List.getElem?_set_ne (by omega)] at hy
      have hl := Le.bump (g := g) hb hv p S.length
      exact (R.blk i y hy).keep (fun _ => Sg.put_other _ h) (by simp) hl fun cb hm hs => ⟨rfl, rfl⟩
  inj i j cb s s' hi hj h1 h2 := by
    rw [sig_set hb] at hi hj
    by_cases hib : i = b <;> by_cases hjb : j = b
    · omega
    · subst hib
      rw [Sg.put_same] at h1
      rw [Sg.put_other _ hjb] at h2
      simp only [hjb, if_false] at hj
      exact absurd h2 (hp cb s h1 j s' hj)
    · subst hjb
      rw [Sg.put_same] at h2
      rw [Sg.put_other _ hib] at h1
      simp only [hib, if_false] at hi
      exact absurd h1 (hp cb s' h2 i s hi)
    · rw [Sg.put_other _ hib] at h1
      rw [Sg.put_other _ hjb] at h2
      simp only [hib, hjb, if_false] at hi hj
      exact R.inj i j cb s s' hi hj h1 h2
  q r h := by
    obtain ⟨h1, h2, h3, h4⟩ := R.q r h
    refine ⟨h1, h2, h3, fun i s hi hm => ?_⟩
    rw [sig_set hb] at hi
    by_cases e : i = b
    · subst e
      rw [Sg.put_same] at hm
      exact hq _ _ hm r h rfl
    · rw [Sg.put_other _ e] at hm
      simp only [e, if_false] at hi
      exact h4 i s hi hm

/-- what is kept while values land -/
structure Ld (A : Alike) (B0 : Nat) (w0 : World) (g : Sg) (S : Sto) (w : World) (X : List Nat) (g' : Sg) (S' : Sto) : Prop where
  rel : Rel A B0 w0 g' S' w
  le : ∀ k, Le k g S g' S'
  len : S'.length = S.length
  hh : g'.h = g.h
  fr : ∀ cb, Free g S cb → cb ∉ X → Free g' S' cb
  q : g'.q = g.q

theorem Ld.refl (R : Rel A B0 w0 g S w) : Ld A B0 w0 g S w [] g S := ⟨R, fun k => Le.refl _ _ _, rfl, rfl, fun _ h _ => h, rfl⟩
theorem Ld.trans {g2 : Sg} {S2 : Sto} {X Y : List Nat} (a : Ld A B0 w0 g S w X g' S') (b : Ld A B0 w0 g' S' w Y g2 S2) : Ld A B0 w0 g S w (X ++ Y) g2 S2 where
  rel := b.rel
  le k := (a.le k).trans (b.le k)
  len := b.len.trans a.len
  hh := b.hh.trans a.hh
  fr cb h hn := b.fr cb (a.fr cb h fun hx => hn (List.mem_append_left _ hx)) fun hy => hn (List.mem_append_right _ hy)
  q := b.q.trans a.q

/-- what waits for a place -/
def Wait (g : Sg) (S : Sto) (B0 : Nat) (X : List Nat) : Prop := X.Nodup ∧ ∀ cb ∈ X, B0 ≤ cb ∧ g.h cb = none ∧ Free g S cb ∧ ∀ r ∈ g.q, r.1 ≠ cb
theorem Wait.left {X Y : List Nat} (h : Wait g S B0 (X ++ Y)) : Wait g S B0 X := ⟨(List.nodup_append.1 h.1).1, fun cb hc => h.2 cb (List.mem_append_left _ hc)⟩
theorem Wait.right {X Y : List Nat} (h : Wait g S B0 (X ++ Y)) (L : Ld A B0 w0 g S w X g' S') : Wait g' S' B0 Y := by
  obtain ⟨h1, h2, h3⟩ := List.nodup_append.1 h.1
  refine ⟨h2, fun cb hc => ?_⟩
  obtain ⟨a, b, c, d⟩ := h.2 cb (List.mem_append_right _ hc)
  exact ⟨a, by rw [L.hh]; exact b, L.fr cb c fun hx => h3 cb hx cb hc rfl, by rw [L.q]; exact d⟩

theorem Ld.take (R : Rel A B0 w0 g S w) {b cb s : Nat} {x : Blk} (hb : b < S.length) (hv : S.ver b < x.ver) (hp : Free g S cb) (hq : ∀ r ∈ g.q, r.1 ≠ cb)
    (hx : BR A (g.put b (some (cb, s))) (S.set b x) w B0 b x) : Ld A B0 w0 g S w [cb] (g.put b (some (cb, s))) (S.set b x) := by
  refine ⟨R.take hb hv _ (fun c s' e => by cases e; exact hp) (fun c s' e => by cases e; exact hq) hx, fun k => Le.bump hb hv _ k, by simp, rfl, ?_, rfl⟩
  intro c hc hn i s' hi hm
  rw [sig_set hb] at hi
  by_cases h : i = b
  · subst h
    rw [Sg.put_same] at hm
    cases hm
    exact hn (by simp)
  · rw [Sg.put_other _ h] at hm
    simp only [h, if_false] at hi
    exact hc i s' hi hm

theorem mapL_land {d : Nat} (ih : ∀ {g : Sg} {S : Sto} (x : AV) {ps : List Nat} {z : AV} {S' : Sto} {qs : List Nat} {v : Value} {X : List Nat}, Rel A B0 w0 g S w → VX g.h w x v X → Wait g S B0 X → land1 d x (S, ps) = some (z, (S', qs)) →
      ∃ g', Ld A B0 w0 g S w X g' S' ∧ V g' S' S'.length z v) : ∀ (xs : List AV) {g : Sg} {S : Sto} {ps : List Nat} {zs : List AV} {S' : Sto} {qs : List Nat} {vs : List Value} {X : List Nat}, Rel A B0 w0 g S w → VXL g.h w xs vs X → Wait g S B0 X →
      mapL (land1 d) xs (S, ps) = some (zs, (S', qs)) → ∃ g', Ld A B0 w0 g S w X g' S' ∧ VT g' S' S'.length zs vs
  | [], g, S, ps, zs, S', qs, vs, X, R, hv, hw, h => by
    simp only [mapL] at h
    cases h
    simp only [VXL] at hv
    obtain ⟨rfl, rfl⟩ := hv
    exact ⟨g, Ld.refl R, by simp [VT]⟩
  | x :: xs, g, S, ps, zs, S', qs, vs, X, R, hv, hw, h => by
    simp only [mapL] at h
    simp only [VXL] at hv
    obtain ⟨v, vs', X1, X2, rfl, rfl, h1, h2⟩ := hv
    split at h
    · rename_i z s1 e1
      obtain ⟨S1, ps1⟩ := s1
      split at h
      · rename_i zs' s2 e2
        obtain ⟨S2, ps2⟩ := s2
        cases h
        obtain ⟨g1, L1, v1⟩ := ih x R h1 hw.left e1
        obtain ⟨g2, L2, v2⟩ := mapL_land ih xs L1.rel (by rw [L1.hh]; exact h2) (hw.right L1) e2
        refine ⟨g2, L1.trans L2, ?_⟩
        simp only [VT]
        exact ⟨v, vs', rfl, by rw [L2.len]; exact V.mono (L2.le _) _ _ v1, v2⟩
      · cases h
    · cases h

theorem land1_sound : ∀ (d : Nat) {g : Sg} {S : Sto} (x : AV) {ps : List Nat} {z : AV} {S' : Sto} {qs : List Nat} {v : Value} {X : List Nat}, Rel A B0 w0 g S w → VX g.h w x v X → Wait g S B0 X → land1 d x (S, ps) = some (z, (S', qs)) →
      ∃ g', Ld A B0 w0 g S w X g' S' ∧ V g' S' S'.length z v
  | 0, g, S, x, ps, z, S', qs, v, X, R, hv, hw, h => by simp [land1] at h
  | d + 1, g, S, x, ps, z, S', qs, v, X, R, hv, hw, h => by
    have ih := @land1_sound d
    have same : ∀ y, some (y, (S, ps)) = some (z, (S', qs)) → X = [] → V g S S.length y v → ∃ g', Ld A B0 w0 g S w X g' S' ∧ V g' S' S'.length z v := by
      intro y e hX hy
      cases e
      subst hX
      exact ⟨g, Ld.refl R, hy⟩
    cases x with
    | new t e rows =>
      simp only [VX] at hv
      obtain ⟨he, hv⟩ := hv
      simp only [land1] at h
      split at h
      · rename_i b ps'
        split at h
        · rename_i hb
          cases h
          have hlt := Nat.lt_succ_self (S.ver b)
          rcases hv with ⟨rfl, rfl, a, rfl⟩ | ⟨cb, cur, c, rfl, hheap, rfl, h1, h2, h3, h4⟩
          · refine ⟨g.put b none, ⟨R.take (x := .row (S.ver b + 1) t e [] false) hb hlt none (by simp) (by simp) ⟨he, .inl ⟨Sg.put_same _ _, rfl⟩⟩, fun k => Le.bump (x := .row (S.ver b + 1) t e [] false) hb hlt _ k, by simp, rfl, ?_, rfl⟩, ?_⟩
            · intro c hc _ i s' hi hm
              rw [sig_set hb] at hi
              by_cases h : i = b
              · subst h
                rw [Sg.put_same] at hm
                cases hm
              · rw [Sg.put_other _ h] at hm
                simp only [h, if_false] at hi
                exact hc i s' hi hm
            · simp only [V]
              refine ⟨he, rfl, by simpa using hb, by rw [ver_set hb]; simp [Blk.ver], fun _ e2 h2 => ?_⟩
              rw [sig_set hb] at h2
              simp only [if_true, Blk.sig, Option.some.injEq, Prod.mk.injEq, true_and] at h2
              exact ⟨h2.symm, .inl ⟨Sg.put_same _ _, ⟨a, rfl⟩, rfl, rfl⟩⟩
          · obtain ⟨hB, hh, hf, hfq⟩ := hw.2 cb (by simp)
            refine ⟨g.put b (some (cb, cur.size)), Ld.take R hb hlt hf hfq ⟨he, .inr ⟨cb, cur, Sg.put_same _ _, hB, by simpa [Sg.put_h] using hh, hheap, h4⟩⟩, ?_⟩
            simp only [V]
            refine ⟨he, rfl, by simpa using hb, by rw [ver_set hb]; simp [Blk.ver], fun _ e2 h5 => ?_⟩
            rw [sig_set hb] at h5
            simp only [if_true, Blk.sig, Option.some.injEq, Prod.mk.injEq, true_and] at h5
            exact ⟨h5.symm, .inr (.inr ⟨cb, cur.size, c, Sg.put_same _ _, by simp, h1, h2, fun _ => ⟨rfl, h3⟩⟩)⟩
        · cases h
      · cases h
    | nbox t cs =>
      simp only [VX] at hv
      obtain ⟨cb, cur, X', rfl, rfl, hheap, hvx, hone⟩ := hv
      simp only [land1] at h
      split at h
      · rename_i b ps'
        split at h
        · rename_i ys s1 e1
          obtain ⟨S1, ps1⟩ := s1
          simp only at h
          split at h
          · rename_i hb
            cases h
            have hlt := Nat.lt_succ_self (S1.ver b)
            have hnd := List.nodup_cons.1 hw.1
            obtain ⟨g1, L1, v1⟩ := mapL_land ih cs R hvx ⟨hnd.2, fun c hc => hw.2 c (List.mem_cons_of_mem _ hc)⟩ e1
            obtain ⟨hB, hh, hf, hfq⟩ := hw.2 cb (by simp)
            have L2 : Ld A B0 w0 g1 S1 w [cb] (g1.put b (some (cb, cur.size))) (S1.set b (.var (S1.ver b + 1) t ys)) :=
              Ld.take L1.rel hb hlt (L1.fr cb hf hnd.1) (by rw [L1.q]; exact hfq) ⟨cb, cur, Sg.put_same _ _, hB, by rw [Sg.put_h, L1.hh]; exact hh, hheap, by rw [List.length_set]; exact VT.mono (Le.bump (x := .var (S1.ver b + 1) t ys) hb hlt _ _) _ _ v1, hone⟩
            refine ⟨_, ⟨L2.rel, fun k => (L1.le k).trans (L2.le k), L2.len.trans L1.len, L2.hh.trans L1.hh, fun c hc hn => L2.fr c (L1.fr c hc fun hx => hn (List.mem_cons_of_mem _ hx)) fun hx => hn (by simp at hx; simp [hx]), L2.q.trans L1.q⟩, ?_⟩
            simp only [V]
            exact ⟨rfl, by simpa using hb, by rw [ver_set hb]; simp [Blk.ver], fun _ e2 h5 => ⟨cb, cur.size, Sg.put_same _ _, rfl⟩⟩
          · cases h
        · cases h
      · cases h
    | nmap es =>
      simp only [VX] at hv
      obtain ⟨cb, mes, clock, rfl, rfl, hheap, hk, hvl⟩ := hv
      simp only [land1] at h
      split at h
      · rename_i b ps'
        split at h
        · rename_i hb
          cases h
          have hlt := Nat.lt_succ_self (S.ver b)
          obtain ⟨hB, hh, hf, hfq⟩ := hw.2 cb (by simp)
          refine ⟨g.put b (some (cb, 0)), Ld.take R hb hlt hf hfq ⟨cb, mes, clock, Sg.put_same _ _, hB, hh, hheap, hk, hvl⟩, ?_⟩
          simp only [V]
          exact ⟨rfl, by simpa using hb, by rw [ver_set hb]; simp [Blk.ver], fun _ e2 h5 => ⟨cb, 0, Sg.put_same _ _, rfl⟩⟩
        · cases h
      · cases h
    | agg cs =>
      simp only [VX] at hv
      obtain ⟨vs, rfl, h1, h2⟩ := hv
      simp only [land1] at h
      split at h
      · rename_i ys s1 e1
        obtain ⟨S1, ps1⟩ := s1
        cases h
        obtain ⟨g1, L1, v1⟩ := mapL_land ih cs R h1 hw e1
        exact ⟨g1, L1, by simp only [V]; exact ⟨vs, rfl, v1, h2⟩⟩
      · cases h
    | tup cs =>
      simp only [VX] at hv
      obtain ⟨vs, rfl, h1⟩ := hv
      simp only [land1] at h
      split at h
      · rename_i ys s1 e1
        obtain ⟨S1, ps1⟩ := s1
        cases h
        obtain ⟨g1, L1, v1⟩ := mapL_land ih cs R h1 hw e1
        exact ⟨g1, L1, by simp only [V]; exact ⟨vs, rfl, v1⟩⟩
      · cases h
    | ifc t y =>
      simp only [VX] at hv
      obtain ⟨u, rfl, h1⟩ := hv
      simp only [land1] at h
      split at h
      · rename_i z1 s1 e1
        obtain ⟨S1, ps1⟩ := s1
        cases h
        obtain ⟨g1, L1, v1⟩ := ih y R h1 hw e1
        exact ⟨g1, L1, by simp only [V]; exact ⟨u, rfl, v1⟩⟩
      · cases h
    | fn f p c =>
      simp only [VX] at hv
      obtain ⟨a1, c1, X1, X2, rfl, rfl, h1, h2⟩ := hv
      simp only [land1] at h
      split at h
      · rename_i ys s1 e1
        obtain ⟨S1, ps1⟩ := s1
        split at h
        · rename_i zs s2 e2
          obtain ⟨S2, ps2⟩ := s2
          cases h
          obtain ⟨g1, L1, v1⟩ := mapL_land ih p R h1 hw.left e1
          obtain ⟨g2, L2, v2⟩ := mapL_land ih c L1.rel (by rw [L1.hh]; exact h2) (hw.right L1) e2
          exact ⟨g2, L1.trans L2, by simp only [V]; exact ⟨a1, c1, rfl, by rw [L2.len]; exact VT.mono (L2.le _) _ _ v1, v2⟩⟩
        · cases h
      · cases h
    | imm e rows => simp only [land1] at h; simp only [VX] at hv; exact same _ h hv.1 (pure_V (g := lentSg g.h) (S := []) (k := 0) (g' := g) (S' := S) (k' := S.length) (fun _ _ h => h) _ _ rfl hv.2)
    | iptr cs j => simp only [land1] at h; simp only [VX] at hv; exact same _ h hv.1 (pure_V (g := lentSg g.h) (S := []) (k := 0) (g' := g) (S' := S) (k' := S.length) (fun _ _ h => h) _ _ rfl hv.2)
    | int k n => simp only [land1] at h; simp only [VX] at hv; exact same _ h hv.1 (by simp [V, hv.2])
    | bool b => simp only [land1] at h; simp only [VX] at hv; exact same _ h hv.1 (by simp [V, hv.2])
    | str b => simp only [land1] at h; simp only [VX] at hv; exact same _ h hv.1 (by simp [V, hv.2])
    | any => simp only [land1] at h; simp only [VX] at hv; exact same _ h hv (by simp [V])
    | flt => simp only [land1] at h; simp only [VX] at hv; exact same _ h hv.1 (by simpa [V] using hv.2)
    | cpx => simp only [land1] at h; simp only [VX] at hv; exact same _ h hv.1 (by simpa [V] using hv.2)
    | nilp => simp only [land1] at h; simp only [VX] at hv; exact same _ h hv.1 (by simp [V, hv.2])
    | nilf => simp only [land1] at h; simp only [VX] at hv; exact same _ h hv.1 (by simp [V, hv.2])
    | nili => simp only [land1] at h; simp only [VX] at hv; exact same _ h hv.1 (by simp [V, hv.2])
    | nilm => simp only [land1] at h; simp only [VX] at hv; exact same _ h hv.1 (by simp [V, hv.2])
    | nils _ _ => simp [VX] at hv
    | zs _ _ => simp [VX] at hv
    | own _ _ _ _ _ _ => simp [VX] at hv
    | vsl _ _ _ _ _ => simp [VX] at hv
    | ptr _ _ _ => simp [VX] at hv
    | eptr _ _ _ _ => simp [VX] at hv
    | yld _ _ => simp [VX] at hv
    | map _ _ => simp [VX] at hv
    | itr _ _ => simp [VX] at hv

/-! ### plain results -/
mutual
theorem VX.plain {h : Nat → Option (Array Value)} : ∀ (d : Nat) (x : AV) (v : Value) (X : List Nat), VX h w x v X → AV.plain d x = true → ∀ (g : Sg) (S : Sto) (k : Nat), V g S k x v
  | _, .int _ _, v, X, q, _, g, S, k => by simp only [VX] at q; simp [V, q.2]
  | _, .bool _, v, X, q, _, g, S, k => by simp only [VX] at q; simp [V, q.2]
  | _, .str _, v, X, q, _, g, S, k => by simp only [VX] at q; simp [V, q.2]
  | _, .any, v, X, q, _, g, S, k => by simp [V]
  | _, .flt, v, X, q, _, g, S, k => by simp only [VX] at q; simpa [V] using q.2
  | _, .cpx, v, X, q, _, g, S, k => by simp only [VX] at q; simpa [V] using q.2
  | _, .nilp, v, X, q, _, g, S, k => by simp only [VX] at q; simp [V, q.2]
  | _, .nilf, v, X, q, _, g, S, k => by simp only [VX] at q; simp [V, q.2]
  | _, .nili, v, X, q, _, g, S, k => by simp only [VX] at q; simp [V, q.2]
  | _, .nilm, v, X, q, _, g, S, k => by simp only [VX] at q; simp [V, q.2]
  | 0, .agg cs, v, X, q, hp, g, S, k => by simp [AV.plain] at hp
  | d + 1, .agg cs, v, X, q, hp, g, S, k => by
    simp only [AV.plain] at hp
    simp only [VX] at q
    obtain ⟨vs, rfl, h1, h2⟩ := q
    simp only [V]
    exact ⟨vs, rfl, VXL.plain d cs vs X h1 hp g S k, h2⟩
  | 0, .tup cs, v, X, q, hp, g, S, k => by simp [AV.plain] at hp
  | d + 1, .tup cs, v, X, q, hp, g, S, k => by
    simp only [AV.plain] at hp
    simp only [VX] at q
    obtain ⟨vs, rfl, h1⟩ := q
    simp only [V]
    exact ⟨vs, rfl, VXL.plain d cs vs X h1 hp g S k⟩
  | 0, .ifc t x, v, X, q, hp, g, S, k => by simp [AV.plain] at hp
  | d + 1, .ifc t x, v, X, q, hp, g, S, k => by
    simp only [AV.plain] at hp
    simp only [VX] at q
    obtain ⟨u, rfl, h1⟩ := q
    simp only [V]
    exact ⟨u, rfl, VX.plain d x u X h1 hp g S k⟩
  | d, .imm _ _, v, X, q, hp, g, S, k => by cases d <;> simp [AV.plain] at hp
  | d, .iptr _ _, v, X, q, hp, g, S, k => by cases d <;> simp [AV.plain] at hp
  | d, .nils _ _, v, X, q, hp, g, S, k => by cases d <;> simp [AV.plain] at hp
  | d, .zs _ _, v, X, q, hp, g, S, k => by cases d <;> simp [AV.plain] at hp
  | d, .own _ _ _ _ _ _, v, X, q, hp, g, S, k => by cases d <;> simp [AV.plain] at hp
  | d, .vsl _ _ _ _ _, v, X, q, hp, g, S, k => by cases d <;> simp [AV.plain] at hp
  | d, .ptr _ _ _, v, X, q, hp, g, S, k => by cases d <;> simp [AV.plain] at hp
  | d, .eptr _ _ _ _, v, X, q, hp, g, S, k => by cases d <;> simp [AV.plain] at hp
  | d, .yld _ _, v, X, q, hp, g, S, k => by cases d <;> simp [AV.plain] at hp
  | d, .map _ _, v, X, q, hp, g, S, k => by cases d <;> simp [AV.plain] at hp
  | d, .itr _ _, v, X, q, hp, g, S, k => by cases d <;> simp [AV.plain] at hp
  | d, .fn _ _ _, v, X, q, hp, g, S, k => by cases d <;> simp [AV.plain] at hp
  | d, .new _ _ _, v, X, q, hp, g, S, k => by cases d <;> simp [AV.plain] at hp
  | d, .nbox _ _, v, X, q, hp, g, S, k => by cases d <;> simp [AV.plain] at hp
  | d, .nmap _, v, X, q, hp, g, S, k => by cases d <;> simp [AV.plain] at hp
theorem VXL.plain {h : Nat → Option (Array Value)} : ∀ (d : Nat) (xs : List AV) (vs : List Value) (X : List Nat), VXL h w xs vs X → xs.all (AV.plain d) = true → ∀ (g : Sg) (S : Sto) (k : Nat), VT g S k xs vs
  | d, [], vs, X, q, _, g, S, k => by simp only [VXL] at q; simp [VT, q.1]
  | d, x :: xs, vs, X, q, hp, g, S, k => by
    simp only [VXL] at q
    obtain ⟨v, vs', X1, X2, rfl, rfl, h1, h2⟩ := q
    simp only [List.all_cons, Bool.and_eq_true] at hp
    simp only [VT]
    exact ⟨v, vs', rfl, VX.plain d x v X1 h1 hp.1 g S k, VXL.plain d xs vs' X2 h2 hp.2 g S k⟩
end

end Go.Wm

set_option linter.unusedVariables false
set_option linter.unusedSimpArgs false
namespace Go.Wm
open Go.RowKit

variable {A : Alike} {P : Program} {B0 : Nat} {w0 w w' : World} {g g' : Sg} {S S' : Sto}

mutual
/-- names blocks below alone -/
def under (base : Nat) : AV → Bool
  | .own _ b _ _ _ _ | .vsl b _ _ _ _ | .ptr b _ _ | .eptr b _ _ _ | .yld b _ | .map b _ | .itr b _ => decide (b < base)
  | .agg cs => underL base cs
  | .tup cs => underL base cs
  | .ifc _ x => under base x
  | .fn _ a c => underL base a && underL base c
  | _ => true
def underL (base : Nat) : List AV → Bool
  | [] => true
  | x :: xs => under base x && underL base xs
end

theorem Ref.under {k base b ver kind : Nat} {φ : Nat → Prop} (h : Ref S k b ver kind φ) (hb : b < base) : Ref S base b ver kind φ := ⟨hb, h.2⟩
mutual
theorem V.under {k base : Nat} : ∀ (x : AV) (v : Value), under base x = true → V g S k x v → V g S base x v
  | .int _ _, v, _, q => by simpa [V] using q
  | .bool _, v, _, q => by simpa [V] using q
  | .str _, v, _, q => by simpa [V] using q
  | .any, v, _, q => by simp [V]
  | .flt, v, _, q => by simpa [V] using q
  | .cpx, v, _, q => by simpa [V] using q
  | .nilp, v, _, q => by simpa [V] using q
  | .nilf, v, _, q => by simpa [V] using q
  | .nili, v, _, q => by simpa [V] using q
  | .nilm, v, _, q => by simpa [V] using q
  | .nils _ _, v, _, q => by simpa [V] using q
  | .zs _ _, v, _, q => by simpa [V] using q
  | .agg cs, v, h, q => by
    simp only [Wm.under] at h
    simp only [V] at q ⊢
    obtain ⟨vs, e, h1, h2⟩ := q
    exact ⟨vs, e, VT.under cs vs h h1, h2⟩
  | .tup cs, v, h, q => by
    simp only [Wm.under] at h
    simp only [V] at q ⊢
    obtain ⟨vs, e, h1⟩ := q
    exact ⟨vs, e, VT.under cs vs h h1⟩
  | .ifc t x, v, h, q => by
    simp only [Wm.under] at h
    simp only [V] at q ⊢
    obtain ⟨u, e, h1⟩ := q
    exact ⟨u, e, V.under x u h h1⟩
  | .imm e rows, v, _, q => by simpa only [V] using q
  | .own e b ver lo n f, v, h, q => by
    simp only [Wm.under, decide_eq_true_eq] at h
    simp only [V] at q ⊢
    exact ⟨q.1, q.2.1, q.2.2.under h⟩
  | .vsl b ver off e n, v, h, q => by
    simp only [Wm.under, decide_eq_true_eq] at h
    simp only [V] at q ⊢
    exact ⟨q.1, q.2.1, q.2.2.under h⟩
  | .ptr b ver off, v, h, q => by
    simp only [Wm.under, decide_eq_true_eq] at h
    simp only [V] at q ⊢
    exact ⟨q.1, q.2.under h⟩
  | .eptr b ver i j, v, h, q => by
    simp only [Wm.under, decide_eq_true_eq] at h
    simp only [V] at q ⊢
    exact ⟨q.1, q.2.under h⟩
  | .iptr cs j, v, _, q => by simpa only [V] using q
  | .fn f a c, v, h, q => by
    simp only [Wm.under, Bool.and_eq_true] at h
    simp only [V] at q ⊢
    obtain ⟨x, y, e1, h1, h2⟩ := q
    exact ⟨x, y, e1, VT.under a x h.1 h1, VT.under c y h.2 h2⟩
  | .yld b ver, v, h, q => by
    simp only [Wm.under, decide_eq_true_eq] at h
    simp only [V] at q ⊢
    exact ⟨q.1, q.2.under h⟩
  | .map b ver, v, h, q => by
    simp only [Wm.under, decide_eq_true_eq] at h
    simp only [V] at q ⊢
    exact ⟨q.1, q.2.under h⟩
  | .itr b ver, v, h, q => by
    simp only [Wm.under, decide_eq_true_eq] at h
    simp only [V] at q ⊢
    exact ⟨q.1, q.2.under h⟩
  | .new _ _ _, v, _, q => by simp [V] at q
  | .nbox _ _, v, _, q => by simp [V] at q
  | .nmap _, v, _, q => by simp [V] at q
theorem VT.under {k base : Nat} : ∀ (xs : List AV) (vs : List Value), underL base xs = true → VT g S k xs vs → VT g S base xs vs
  | [], vs, _, q => by simpa [VT] using q
  | x :: xs, vs, h, q => by
    simp only [underL, Bool.and_eq_true] at h
    simp only [VT] at q ⊢
    obtain ⟨v, vs', e, h1, h2⟩ := q
    exact ⟨v, vs', e, V.under x v h.1 h1, VT.under xs vs' h.2 h2⟩
end

/-- blocks below stay, or others that name blocks below alone take their places -/
def Keep (base : Nat) (S S' : Sto) : Prop := ∀ i, i < base → S'[i]? = S[i]? ∨ (S.ver i < S'.ver i ∧ (∀ v t cs, S'[i]? = some (.var v t cs) → underL base cs = true) ∧ ∀ v b l e p a bo st j, S'[i]? ≠ some (.loop v b l e p a bo st j))
theorem Keep.refl {base : Nat} : Keep base S S := fun _ _ => .inl rfl
theorem Keep.trans {base : Nat} {S1 S2 : Sto} (a : Keep base S S1) (b : Keep base S1 S2) : Keep base S S2 := by
  intro i hi
  rcases b i hi with h | ⟨h1, h2, h3⟩
  · rcases a i hi with h' | ⟨h1, h2, h3⟩
    · exact .inl (h.trans h')
    · refine .inr ⟨?_, fun v t cs hc => h2 v t cs (h ▸ hc), fun v b l e p a bo st j hc => h3 v b l e p a bo st j (h ▸ hc)⟩
      have : S2.ver i = S1.ver i := by simp only [Sto.ver, h]
      omega
  · refine .inr ⟨?_, h2, h3⟩
    rcases a i hi with h' | ⟨h4, _⟩
    · have : S1.ver i = S.ver i := by simp only [Sto.ver, h']
      omega
    · omega
theorem Keep.dead {base b : Nat} {x : Blk} (hb : base ≤ b) : Keep base S (S.set b x) := fun i hi => .inl (by rw [List.getElem?_set_ne (by omega)])
theorem Keep.put {base p : Nat} {x : Blk} (hp : p < S.length) (hv : S.ver p < x.ver) (h1 : ∀ v t cs, x = .var v t cs → underL base cs = true) (h2 : ∀ v b l e p a bo st j, x ≠ .loop v b l e p a bo st j) : Keep base S (S.set p x) := by
  intro i hi
  by_cases h : i = p
  · subst h
    right
    rw [ver_set hp, List.getElem?_set_self hp]
    refine ⟨by simpa using hv, fun v t cs hc => h1 v t cs (by simpa using hc), fun v b l e p a bo st j hc => h2 v b l e p a bo st j (by simpa using hc)⟩
  · exact .inl (by rw [List.getElem?_set_ne (by omega)])

/-- what is kept while blocks move -/
structure Mv (A : Alike) (B0 : Nat) (w0 : World) (g : Sg) (S : Sto) (w : World) (g' : Sg) (S' : Sto) : Prop where
  rel : Rel A B0 w0 g' S' w
  le : ∀ k, Le k g S g' S'
  len : S'.length = S.length
  hh : g'.h = g.h
  fr : ∀ cb, Free g S cb → Free g' S' cb
  q : g'.q = g.q

theorem Mv.refl (R : Rel A B0 w0 g S w) : Mv A B0 w0 g S w g S := ⟨R, fun k => Le.refl _ _ _, rfl, rfl, fun _ h => h, rfl⟩
theorem Mv.trans {g2 : Sg} {S2 : Sto} (a : Mv A B0 w0 g S w g' S') (b : Mv A B0 w0 g' S' w g2 S2) : Mv A B0 w0 g S w g2 S2 :=
  ⟨b.rel, fun k => (a.le k).trans (b.le k), b.len.trans a.len, b.hh.trans a.hh, fun cb h => b.fr cb (a.fr cb h), b.q.trans a.q⟩

/-- one block goes from b to p: first it leaves, then p takes it -/
theorem Mv.move (R : Rel A B0 w0 g S w) {b p : Nat} {x y : Blk} (hb : S[b]? = some x) (hs : x.sig ≠ none) (hp : p < S.length) (hne : p ≠ b) (hv : S.ver p < y.ver)
    (hy : ∀ g' : Sg, g'.m p = g.m b → g'.h = g.h → BR A g' ((S.set b (.dead x.ver)).set p y) w B0 p y) :
    Mv A B0 w0 g S w (g.put p (g.m b)) ((S.set b (.dead x.ver)).set p y) := by
  have hlt : b < S.length := (List.getElem?_eq_some_iff.1 hb).1
  have hsb : S.sig b ≠ none := by rw [sig_some hb]; exact hs
  have hk : Mv A B0 w0 g S w g (S.set b (.dead x.ver)) := ⟨R.kill hb, fun k => Le.kill hb k, by simp, rfl, fun cb hf i s' hi hm => by
    rw [sig_set hlt] at hi
    split at hi
    · exact absurd rfl hi
    · exact hf i s' hi hm, rfl⟩
  have hv' : Sto.ver (S.set b (.dead x.ver)) p < y.ver := by rw [ver_set hlt, if_neg hne]; exact hv
  refine ⟨hk.rel.take (by simpa using hp) hv' (g.m b) ?_ (fun cb s hm r hr e => (R.q r hr).2.2.2 b s hsb (e ▸ hm)) (hy _ (Sg.put_same _ _) rfl), fun k => (hk.le k).trans (Le.bump (by simpa using hp) hv' _ k), by simp, rfl, fun cb hf i s' hi hm => ?_, rfl⟩
  rotate_left
  · rw [sig_set (by simpa using hp), sig_set hlt] at hi
    by_cases hip : i = p
    · subst hip
      rw [Sg.put_same] at hm
      exact hf b s' hsb hm
    · rw [Sg.put_other _ hip] at hm
      simp only [hip, if_false] at hi
      split at hi
      · exact absurd rfl hi
      · exact hf i s' hi hm
  intro cb s hm i s' hi hmi
  rw [sig_set hlt] at hi
  split at hi
  · exact absurd rfl hi
  · rename_i hib
    exact hib (R.inj i b cb s' s hi hsb hmi hm)

def PlacesOk (base : Nat) (ps : List Nat) : Prop := True

theorem mapL_move {base d : Nat} (ih : ∀ {g : Sg} {S : Sto} (x : AV) {ps : List Nat} {z : AV} {S' : Sto} {qs : List Nat} {v : Value}, Rel A B0 w0 g S w → base ≤ S.length → V g S S.length x v → move1 base d x (S, ps) = some (z, (S', qs)) →
      ∃ g', Mv A B0 w0 g S w g' S' ∧ V g' S' S'.length z v ∧ under base z = true ∧ Keep base S S') : ∀ (xs : List AV) {g : Sg} {S : Sto} {ps : List Nat} {zs : List AV} {S' : Sto} {qs : List Nat} {vs : List Value}, Rel A B0 w0 g S w → base ≤ S.length → VT g S S.length xs vs →
      mapL (move1 base d) xs (S, ps) = some (zs, (S', qs)) → ∃ g', Mv A B0 w0 g S w g' S' ∧ VT g' S' S'.length zs vs ∧ underL base zs = true ∧ Keep base S S'
  | [], g, S, ps, zs, S', qs, vs, R, hbs, hv, h => by
    simp only [mapL] at h
    cases h
    simp only [VT] at hv
    subst hv
    exact ⟨g, Mv.refl R, by simp [VT], rfl, Keep.refl⟩
  | x :: xs, g, S, ps, zs, S', qs, vs, R, hbs, hv, h => by
    simp only [mapL] at h
    simp only [VT] at hv
    obtain ⟨v, vs', rfl, h1, h2⟩ := hv
    split at h
    · rename_i z s1 e1
      obtain ⟨S1, ps1⟩ := s1
      split at h
      · rename_i zs' s2 e2
        obtain ⟨S2, ps2⟩ := s2
        cases h
        obtain ⟨g1, L1, v1, u1, k1⟩ := ih x R hbs h1 e1
        obtain ⟨g2, L2, v2, u2, k2⟩ := mapL_move ih xs L1.rel (by rw [L1.len]; exact hbs) (by rw [L1.len]; exact VT.mono (L1.le _) _ _ h2) e2
        refine ⟨g2, L1.trans L2, ?_, by simp [underL, u1, u2], k1.trans k2⟩
        simp only [VT]
        exact ⟨v, vs', rfl, by rw [L2.len]; exact V.mono (L2.le _) _ _ v1, v2⟩
      · cases h
    · cases h

theorem set_comm' {b p : Nat} {x y : Blk} (h : p ≠ b) (S : Sto) : (S.set p y).set b x = (S.set b x).set p y := List.set_comm _ _ h

theorem move1_sound {base : Nat} : ∀ (d : Nat) {g : Sg} {S : Sto} (x : AV) {ps : List Nat} {z : AV} {S' : Sto} {qs : List Nat} {v : Value}, Rel A B0 w0 g S w → base ≤ S.length → V g S S.length x v → move1 base d x (S, ps) = some (z, (S', qs)) →
      ∃ g', Mv A B0 w0 g S w g' S' ∧ V g' S' S'.length z v ∧ under base z = true ∧ Keep base S S'
  | 0, g, S, x, ps, z, S', qs, v, R, hbs, hv, h => by simp [move1] at h
  | d + 1, g, S, x, ps, z, S', qs, v, R, hbs, hv, h => by
    have ih := @move1_sound base d
    have same : ∀ y, some (y, (S, ps)) = some (z, (S', qs)) → V g S S.length y v → under base y = true → ∃ g', Mv A B0 w0 g S w g' S' ∧ V g' S' S'.length z v ∧ under base z = true ∧ Keep base S S' := by
      intro y e hy hu
      cases e
      exact ⟨g, Mv.refl R, hy, hu, Keep.refl⟩
    have anyc : some (AV.any, (S, ps)) = some (z, (S', qs)) → ∃ g', Mv A B0 w0 g S w g' S' ∧ V g' S' S'.length z v ∧ under base z = true ∧ Keep base S S' := fun e => same _ e (by simp [V]) rfl
    cases x with
    | own e b ver lo n f =>
      simp only [move1] at h
      split at h
      · rename_i hb; exact same _ h hv (by simp [under, hb])
      · rename_i hnb
        split at h
        · rename_i v0 t e' rows z0 p ps' hb
          split at h
          · rename_i hver
            subst hver
            split at h
            · rename_i hp
              cases h
              have hlt : b < S.length := (List.getElem?_eq_some_iff.1 hb).1
              have hpl : p < S.length := by omega
              have hne : p ≠ b := by omega
              simp only [V] at hv
              obtain ⟨he, h1c, _, _, hv⟩ := hv
              obtain ⟨hee, hloc⟩ := hv (by rw [ver_some hb]; rfl) e' (by rw [sig_some hb]; rfl)
              subst hee
              have hbr := R.blk _ _ hb
              rw [set_comm' hne]
              have hm := Mv.move R hb (by simp [Blk.sig]) hpl hne (y := .row (S.ver p + 1) t e' rows z0) (Nat.lt_succ_self _) (by
                intro g' h1 h2
                obtain ⟨h3, h4⟩ := hbr
                refine ⟨h3, ?_⟩
                rcases h4 with ⟨h5, h6⟩ | ⟨cb, cur, h5, h6, h7, h8, h9⟩
                · exact .inl ⟨h1.trans h5, h6⟩
                · exact .inr ⟨cb, cur, h1.trans h5, h6, by rw [h2]; exact h7, h8, by rw [h2]; exact h9⟩)
              refine ⟨_, hm, ?_, by simp [under, hp], (Keep.dead (by omega)).trans (Keep.put (by simpa using hpl) (by rw [ver_set hlt, if_neg hne]; exact Nat.lt_succ_self _) (by simp) (by simp))⟩
              simp only [V]
              have hpl' : p < (S.set b (.dead v0)).length := by simpa using hpl
              refine ⟨he, h1c, by simpa using hpl, by rw [ver_set hpl']; simp [Blk.ver], fun _ e2 h5 => ?_⟩
              rw [sig_set hpl'] at h5
              simp only [if_true, Blk.sig, Option.some.injEq, Prod.mk.injEq, true_and] at h5
              refine ⟨h5.symm, ?_⟩
              unfold Loc at hloc ⊢
              rw [Sg.put_same]
              exact hloc
            · cases h
          · exact anyc h
        · exact anyc h
    | ptr b ver off =>
      simp only [move1] at h
      split at h
      · rename_i hb; exact same _ h hv (by simp [under, hb])
      · rename_i hnb
        split at h
        · rename_i v0 t cs p ps' hb
          split at h
          · rename_i hver
            subst hver
            split at h
            · rename_i hp
              split at h
              · rename_i ys s1 e1
                obtain ⟨S1, ps1⟩ := s1
                cases h
                have hlt : b < S.length := (List.getElem?_eq_some_iff.1 hb).1
                simp only [V] at hv
                obtain ⟨h1c, _, _, hv⟩ := hv
                obtain ⟨cb, sz, hmb, rfl⟩ := hv (by rw [ver_some hb]; rfl) 0 (by rw [sig_some hb]; rfl)
                obtain ⟨cb', cur, h1, hB, hh, hheap, hvt, hone⟩ := R.blk _ _ hb
                rw [hmb] at h1
                cases h1
                obtain ⟨L, lf⟩ := Lv.kill R hb (by simp [Blk.sig]) hmb hB hh
                have hbs1 : base ≤ (S.set b (.dead (Blk.var v0 t cs).ver)).length := by simpa using hbs
                obtain ⟨g1, L1, v1, u1, k1⟩ := mapL_move ih cs L.rel hbs1 (by rw [L.len]; exact VT.mono (L.le _) _ _ hvt) e1
                have hpl : p < S1.length := by rw [L1.len]; simp; omega
                have hf : Free g S cb → False := fun hf => hf b _ (by rw [sig_some hb]; simp [Blk.sig]) hmb
                obtain ⟨_, _, hfr, _⟩ := lf.2 cb (by simp)
                have hlt1 := Nat.lt_succ_self (S1.ver p)
                have L2 : Ld A B0 w0 g1 S1 w [cb] (g1.put p (some (cb, cur.size))) (S1.set p (.var (S1.ver p + 1) t ys)) :=
                  Ld.take L1.rel hpl hlt1 (L1.fr cb hfr) (by rw [L1.q]; exact fun r hr e => (R.q r hr).2.2.2 b _ (by rw [sig_some hb]; simp [Blk.sig]) (e ▸ hmb)) ⟨cb, cur, Sg.put_same _ _, hB, by rw [Sg.put_h, L1.hh]; exact hh, hheap, by rw [List.length_set]; exact VT.mono (Le.bump (x := .var (S1.ver p + 1) t ys) hpl hlt1 _ _) _ _ v1, hone⟩
                refine ⟨_, ⟨L2.rel, fun k => (L.le k).trans ((L1.le k).trans (L2.le k)), L2.len.trans (L1.len.trans L.len), L2.hh.trans L1.hh, ?_, L1.q⟩, ?_, by simp [under, hp], (Keep.dead (by omega)).trans (k1.trans (Keep.put hpl hlt1 (by intro v t cs e; cases e; exact u1) (by simp)))⟩
                · intro c hc i s' hi hm
                  rw [sig_set hpl] at hi
                  by_cases hip : i = p
                  · subst hip
                    rw [Sg.put_same] at hm
                    cases hm
                    exact hf hc
                  · rw [Sg.put_other _ hip] at hm
                    simp only [hip, if_false] at hi
                    exact L1.fr c (L.free hc) i s' hi hm
                · simp only [V]
                  exact ⟨rfl, by simpa using hpl, by rw [ver_set hpl]; simp [Blk.ver], fun _ e2 h5 => ⟨cb, cur.size, Sg.put_same _ _, rfl⟩⟩
              · cases h
            · cases h
          · exact anyc h
        · exact anyc h
    | map b ver =>
      simp only [move1] at h
      split at h
      · rename_i hb; exact same _ h hv (by simp [under, hb])
      · rename_i hnb
        split at h
        · rename_i v0 es p ps' hb
          split at h
          · rename_i hver
            subst hver
            split at h
            · rename_i hp
              cases h
              have hlt : b < S.length := (List.getElem?_eq_some_iff.1 hb).1
              have hpl : p < S.length := by omega
              have hne : p ≠ b := by omega
              simp only [V] at hv
              obtain ⟨h1c, _, _, hv⟩ := hv
              obtain ⟨cb, sz, hmb, rfl⟩ := hv (by rw [ver_some hb]; rfl) 0 (by rw [sig_some hb]; rfl)
              have hbr := R.blk _ _ hb
              rw [set_comm' hne]
              have hm := Mv.move R hb (by simp [Blk.sig]) hpl hne (y := .map (S.ver p + 1) es) (Nat.lt_succ_self _) (by
                intro g' h1 h2
                obtain ⟨cb, mes, clock, h5, h6, h7, h8, h9, h10⟩ := hbr
                exact ⟨cb, mes, clock, h1.trans h5, h6, by rw [h2]; exact h7, h8, h9, by rw [h2]; exact h10⟩)
              refine ⟨_, hm, ?_, by simp [under, hp], (Keep.dead (by omega)).trans (Keep.put (by simpa using hpl) (by rw [ver_set hlt, if_neg hne]; exact Nat.lt_succ_self _) (by simp) (by simp))⟩
              simp only [V]
              have hpl' : p < (S.set b (.dead v0)).length := by simpa using hpl
              exact ⟨h1c, by simpa using hpl, by rw [ver_set hpl']; simp [Blk.ver], fun _ e2 h5 => ⟨cb, sz, by rw [Sg.put_same]; exact hmb, rfl⟩⟩
            · cases h
          · exact anyc h
        · exact anyc h
    | vsl b _ _ _ _ =>
      simp only [move1] at h
      split at h
      · rename_i hb; exact same _ h hv (by simp [under, hb])
      · exact anyc h
    | eptr b _ _ _ =>
      simp only [move1] at h
      split at h
      · rename_i hb; exact same _ h hv (by simp [under, hb])
      · exact anyc h
    | yld b _ =>
      simp only [move1] at h
      split at h
      · rename_i hb; exact same _ h hv (by simp [under, hb])
      · exact anyc h
    | itr b _ =>
      simp only [move1] at h
      split at h
      · rename_i hb; exact same _ h hv (by simp [under, hb])
      · exact anyc h
    | agg cs =>
      simp only [move1] at h
      simp only [V] at hv
      obtain ⟨vs, rfl, h1, h2⟩ := hv
      split at h
      · rename_i ys s1 e1
        obtain ⟨S1, ps1⟩ := s1
        cases h
        obtain ⟨g1, L1, v1, u1, k1⟩ := mapL_move ih cs R hbs h1 e1
        exact ⟨g1, L1, by simp only [V]; exact ⟨vs, rfl, v1, h2⟩, by simpa [under] using u1, k1⟩
      · cases h
    | tup cs =>
      simp only [move1] at h
      simp only [V] at hv
      obtain ⟨vs, rfl, h1⟩ := hv
      split at h
      · rename_i ys s1 e1
        obtain ⟨S1, ps1⟩ := s1
        cases h
        obtain ⟨g1, L1, v1, u1, k1⟩ := mapL_move ih cs R hbs h1 e1
        exact ⟨g1, L1, by simp only [V]; exact ⟨vs, rfl, v1⟩, by simpa [under] using u1, k1⟩
      · cases h
    | ifc t y =>
      simp only [move1] at h
      simp only [V] at hv
      obtain ⟨u, rfl, h1⟩ := hv
      split at h
      · rename_i z1 s1 e1
        obtain ⟨S1, ps1⟩ := s1
        cases h
        obtain ⟨g1, L1, v1, u1, k1⟩ := ih y R hbs h1 e1
        exact ⟨g1, L1, by simp only [V]; exact ⟨u, rfl, v1⟩, by simpa [under] using u1, k1⟩
      · cases h
    | fn f p c =>
      simp only [move1] at h
      simp only [V] at hv
      obtain ⟨a1, c1, rfl, h1, h2⟩ := hv
      split at h
      · rename_i ys s1 e1
        obtain ⟨S1, ps1⟩ := s1
        split at h
        · rename_i zs s2 e2
          obtain ⟨S2, ps2⟩ := s2
          cases h
          obtain ⟨g1, L1, v1, u1, k1⟩ := mapL_move ih p R hbs h1 e1
          obtain ⟨g2, L2, v2, u2, k2⟩ := mapL_move ih c L1.rel (by rw [L1.len]; exact hbs) (by rw [L1.len]; exact VT.mono (L1.le _) _ _ h2) e2
          exact ⟨g2, L1.trans L2, by simp only [V]; exact ⟨a1, c1, rfl, by rw [L2.len]; exact VT.mono (L2.le _) _ _ v1, v2⟩, by simp [under, u1, u2], k1.trans k2⟩
        · cases h
      · cases h
    | new _ _ _ => simp [move1] at h
    | nbox _ _ => simp [move1] at h
    | nmap _ => simp [move1] at h
    | _ => simp only [move1] at h; exact same _ h hv rfl

/-- variables below, so many of them, name blocks below alone -/
def VarsU (base n : Nat) (S : Sto) : Prop := ∀ i, i < n → ∀ v t cs, S[i]? = some (.var v t cs) → underL base cs = true
theorem VarsU.keep {base n : Nat} (h : VarsU base n S) (k : Keep base S S') (hn : n ≤ base) : VarsU base n S' := by
  intro i hi v t cs hc
  rcases k i (by omega) with h' | ⟨_, h2, _⟩
  · exact h i hi v t cs (h' ▸ hc)
  · exact h2 v t cs hc
/-- loops below lie below -/
def LoopsU (base : Nat) (S : Sto) : Prop := ∀ i, i < base → ∀ v b l e p a bo st j, S[i]? = some (.loop v b l e p a bo st j) → l ≤ base
theorem LoopsU.keep {base : Nat} (h : LoopsU base S) (k : Keep base S S') : LoopsU base S' := by
  intro i hi v b l e p a bo st j hc
  rcases k i hi with h' | ⟨_, _, h3⟩
  · exact h i hi v b l e p a bo st j (h' ▸ hc)
  · exact absurd hc (h3 v b l e p a bo st j)
theorem LoopsU.set {base i v t : Nat} {cs : List AV} (h : LoopsU base S) : LoopsU base (S.set i (.var v t cs)) := by
  intro c hc v b l e p a bo st j hx
  rw [List.getElem?_set] at hx
  split at hx
  · split at hx <;> cases hx
  · exact h c hc v b l e p a bo st j hx

theorem moveS_sound {base : Nat} : ∀ (n : Nat) {g : Sg} {S : Sto} {ps qs : List Nat} {S' : Sto}, n ≤ base → Rel A B0 w0 g S w → base ≤ S.length → LoopsU base S → moveS base n (S, ps) = some (S', qs) →
    ∃ g', Mv A B0 w0 g S w g' S' ∧ VarsU base n S' ∧ LoopsU base S'
  | 0, g, S, ps, qs, S', hn, R, hbs, hl, h => by
    simp only [moveS] at h
    cases h
    exact ⟨g, Mv.refl R, fun i hi => by omega, hl⟩
  | n + 1, g, S, ps, qs, S', hn, R, hbs, hl, h => by
    simp only [moveS] at h
    split at h
    · rename_i s1 e1
      obtain ⟨S1, ps1⟩ := s1
      obtain ⟨g1, L1, u1, l1⟩ := moveS_sound n (by omega) R hbs hl e1
      simp only at h
      split at h
      · rename_i v t cs hb
        split at h
        · rename_i ys s2 e2
          obtain ⟨S2, ps2⟩ := s2
          split at h
          · rename_i hver
            have hver : S2.ver n = v := hver
            cases h
            obtain ⟨cb, cur, h1, hB, hh, hheap, hvt, hone⟩ := L1.rel.blk _ _ hb
            obtain ⟨g2, L2, v2, u2, k2⟩ := mapL_move (fun x => move1_sound 6 x) cs L1.rel (by rw [L1.len]; exact hbs) hvt e2
            have hb2 : S2[n]? = some (.var v t cs) := by
              rcases k2 n (by omega) with h' | ⟨h3, _⟩
              · rw [h']; exact hb
              · rw [ver_some hb] at h3
                simp only [Blk.ver] at h3
                omega
            have hlt : n < S2.length := (List.getElem?_eq_some_iff.1 hb2).1
            obtain ⟨cb2, cur2, h12, hB2, hh2, hheap2, _, hone2⟩ := L2.rel.blk _ _ hb2
            have hcur : cb2 = cb ∧ cur2 = cur := by
              have hm := (L2.le (n + 1)).sig n (by omega) (by rw [ver_some hb2, ver_some hb]) (0, 0) (by rw [sig_some hb2]; rfl)
              rw [hm.2, h1] at h12
              simp only [Option.some.injEq, Prod.mk.injEq] at h12
              obtain ⟨rfl, _⟩ := h12
              rw [hheap] at hheap2
              cases hheap2
              exact ⟨rfl, rfl⟩
            obtain ⟨rfl, rfl⟩ := hcur
            have hvv : S2.ver n ≤ (Blk.var v t ys).ver := by rw [ver_some hb2]; exact Nat.le_refl _
            have hss : (Blk.var v t ys).sig = S2.sig n := by rw [sig_some hb2]; rfl
            have hR : Rel A B0 w0 g2 (S2.set n (.var v t ys)) w := L2.rel.write hlt hvv (.inl hss) (cb := cb2) (fun _ c s hc => by rw [h12] at hc; cases hc; rfl) (.inl rfl) (fun _ _ => rfl) rfl rfl rfl (Nat.le_refl _)
              ⟨cb2, cur2, h12, hB2, hh2, hheap2, by rw [List.length_set]; exact VT.mono (Le.turn hlt hvv (.inl hss) _) _ _ v2, hone2⟩
            refine ⟨g2, ⟨hR, fun k => (L1.le k).trans ((L2.le k).trans (Le.turn hlt hvv (.inl hss) k)), by rw [List.length_set]; exact L2.len.trans L1.len, L2.hh.trans L1.hh, ?_, L2.q.trans L1.q⟩, ?_, (l1.keep k2).set⟩
            · intro c hc i s hi hm
              rw [sig_set hlt] at hi
              refine L2.fr c (L1.fr c hc) i s ?_ hm
              split at hi
              · rename_i e
                subst e
                rw [← hss]
                exact hi
              · exact hi
            · intro i hi v' t' cs' hx
              by_cases e : i = n
              · subst e
                rw [List.getElem?_set_self hlt] at hx
                cases hx
                exact u2
              · rw [List.getElem?_set_ne (by omega)] at hx
                exact (u1.keep k2 (by omega)) i (by omega) v' t' cs' hx
          · cases h
        · cases h
      · rename_i hno
        cases h
        refine ⟨g1, L1, ?_, l1⟩
        intro i hi v' t' cs' hx
        by_cases e : i = n
        · subst e
          exact absurd hx (hno _ _ _)
        · exact u1 i (by omega) v' t' cs' hx
    · cases h

theorem Le.cut (base : Nat) : Le base g S g (S.take base) where
  h _ _ h := h
  ver b hb := by simp [Sto.ver, List.getElem?_take, hb]
  sig b hb _ s hs := by
    refine ⟨?_, rfl⟩
    simpa [Sto.sig, List.getElem?_take, hb] using hs
  h0 := rfl
  q _ h := h

theorem Rel.cut (R : Rel A B0 w0 g S w) {base : Nat} (hb : base ≤ S.length) (hv : VarsU base base S) (hl : LoopsU base S) : Rel A B0 w0 g (S.take base) w where
  below := R.below
  room := R.room
  him := R.him
  low := R.low
  q r h := by
    obtain ⟨h1, h2, h3, h4⟩ := R.q r h
    refine ⟨h1, h2, h3, fun i s hi hm => h4 i s ?_ hm⟩
    by_cases hib : i < base
    · simpa [Sto.sig, List.getElem?_take, hib] using hi
    · simp [Sto.sig, List.getElem?_take, hib] at hi
  blk b x hx := by
    have hlen : (S.take base).length = base := by simp; omega
    rw [List.getElem?_take] at hx
    split at hx
    · rename_i hlt
      have h := R.blk b x hx
      cases x with
      | dead _ => trivial
      | var v t cs =>
        obtain ⟨cb, cur, h1, h2, h3, h4, h5, h6⟩ := h
        exact ⟨cb, cur, h1, h2, h3, h4, by rw [hlen]; exact VT.mono (Le.cut base) _ _ (VT.under _ _ (hv b hlt v t cs hx) h5), h6⟩
      | row v t e rows z => exact h
      | map v es => exact h
      | iter v s pos => exact h
      | loop v bs lev env params assign body st jump =>
        obtain ⟨cb, l, h1, h2, h3, h4, h5, h6, h7, h8, h9, hx', hk1, hk2, h10⟩ := h
        have hlev := hl b hlt _ _ _ _ _ _ _ _ _ hx
        exact ⟨cb, l, h1, h2, h3, h4, h5, h6, h7, h8, h9, hx', hk1, by rw [hlen]; exact hlev, h10.mono ((Le.cut base).mono hlev)⟩
    · cases hx
  inj b b' cb s s' h1 h2 h3 h4 := by
    have conv : ∀ i, Sto.sig (S.take base) i ≠ none → S.sig i ≠ none := by
      intro i hi
      by_cases hib : i < base
      · simpa [Sto.sig, List.getElem?_take, hib] using hi
      · simp [Sto.sig, List.getElem?_take, hib] at hi
    exact R.inj b b' cb s s' (conv b h1) (conv b' h2) h3 h4

/-- a value that is handed back or panicked with -/
def Out.val : Out → AV
  | .ret x => x
  | .pan x => x
def Out.like : Out → Out → Prop
  | .ret _, .ret _ => True
  | .pan _, .pan _ => True
  | _, _ => False

theorem retire_sound {base : Nat} {sites : Sto → List Nat} {o o' : Out} {v : Value} (R : Rel A B0 w0 g S w) (hb : base ≤ S.length) (hv : V g S S.length o.val v) (h : retire base sites o S = some (o', S')) :
    o'.like o ∧ ∃ g', Rel A B0 w0 g' S' w ∧ Le base g S g' S' ∧ S'.length = base ∧ g'.q = g.q ∧ V g' S' S'.length o'.val v := by
  unfold retire at h
  split at h
  · rename_i hlev
    have hl : LoopsU base S := by
      intro i hi vv b l e p a bo st j hx
      have := List.all_eq_true.1 hlev (.loop vv b l e p a bo st j) (List.mem_of_getElem? (i := i) (by rw [List.getElem?_take, if_pos hi]; exact hx))
      simpa [levOk] using this
    have key : ∀ (x : AV), V g S S.length x v → ∀ (x' : AV) (s2 s3 : Sto × List Nat), move1 base 8 x (S, sites S) = some (x', s2) → moveS base base s2 = some s3 →
        ∃ g', Rel A B0 w0 g' (s3.1.take base) w ∧ Le base g S g' (s3.1.take base) ∧ (s3.1.take base).length = base ∧ g'.q = g.q ∧ V g' (s3.1.take base) (s3.1.take base).length x' v := by
      intro x hx x' s2 s3 e1 e2
      obtain ⟨S2, ps2⟩ := s2
      obtain ⟨S3, ps3⟩ := s3
      obtain ⟨g1, L1, v1, u1, k1⟩ := move1_sound 8 x R hb hx e1
      obtain ⟨g2, L2, u2, l2⟩ := moveS_sound base (Nat.le_refl _) L1.rel (by rw [L1.len]; exact hb) (hl.keep k1) e2
      have hb3 : base ≤ S3.length := by rw [L2.len, L1.len]; exact hb
      have hlen : (S3.take base).length = base := by simp; omega
      refine ⟨g2, L2.rel.cut hb3 u2 l2, (L1.le base).trans ((L2.le base).trans (Le.cut base)), hlen, L2.q.trans L1.q, ?_⟩
      rw [hlen]
      exact V.mono (Le.cut base) _ _ (V.mono (L2.le base) _ _ (V.under _ _ u1 v1))
    cases o with
    | ret x =>
      simp only at h
      split at h
      · rename_i x' s2 e1
        split at h
        · rename_i s3 e2
          cases h
          exact ⟨trivial, key x hv x' s2 s3 e1 e2⟩
        · cases h
      · cases h
    | pan x =>
      simp only at h
      split at h
      · rename_i x' s2 e1
        split at h
        · rename_i s3 e2
          cases h
          exact ⟨trivial, key x hv x' s2 s3 e1 e2⟩
        · cases h
      · cases h
  · cases h

end Go.Wm

set_option linter.unusedVariables false
set_option linter.unusedSimpArgs false
namespace Go.Wm
open Go.RowKit

variable {A : Alike} {P : Program} {B0 : Nat} {w0 w w' : World} {g g' : Sg} {S S' : Sto}

/-! ### what hangs not on the lists of deferred calls -/
mutual
theorem V.congr {k : Nat} (hh : g'.h = g.h) (hm : g'.m = g.m) : ∀ (x : AV) (v : Value), V g S k x v → V g' S k x v
  | .int _ _, v, q => by simpa [V] using q
  | .bool _, v, q => by simpa [V] using q
  | .str _, v, q => by simpa [V] using q
  | .any, v, q => by simp [V]
  | .flt, v, q => by simpa [V] using q
  | .cpx, v, q => by simpa [V] using q
  | .nilp, v, q => by simpa [V] using q
  | .nilf, v, q => by simpa [V] using q
  | .nili, v, q => by simpa [V] using q
  | .nilm, v, q => by simpa [V] using q
  | .nils _ _, v, q => by simpa [V] using q
  | .zs _ _, v, q => by simpa [V] using q
  | .agg cs, v, q => by
    simp only [V] at q ⊢
    obtain ⟨vs, e, h1, h2⟩ := q
    exact ⟨vs, e, VT.congr hh hm cs vs h1, h2⟩
  | .tup cs, v, q => by
    simp only [V] at q ⊢
    obtain ⟨vs, e, h1⟩ := q
    exact ⟨vs, e, VT.congr hh hm cs vs h1⟩
  | .ifc t x, v, q => by
    simp only [V] at q ⊢
    obtain ⟨u, e, h1⟩ := q
    exact ⟨u, e, V.congr hh hm x u h1⟩
  | .imm e rows, v, q => by simp only [V] at q ⊢; rw [hh]; exact q
  | .own e b ver lo n f, v, q => by simp only [V, Loc] at q ⊢; rw [hm]; exact q
  | .vsl b ver off e n, v, q => by simp only [V] at q ⊢; rw [hm]; exact q
  | .ptr b ver off, v, q => by simp only [V] at q ⊢; rw [hm]; exact q
  | .eptr b ver i j, v, q => by simp only [V] at q ⊢; rw [hm]; exact q
  | .iptr cs j, v, q => by simp only [V] at q ⊢; rw [hh]; exact q
  | .fn f a c, v, q => by
    simp only [V] at q ⊢
    obtain ⟨x, y, e1, h1, h2⟩ := q
    exact ⟨x, y, e1, VT.congr hh hm a x h1, VT.congr hh hm c y h2⟩
  | .yld b ver, v, q => by simp only [V] at q ⊢; rw [hm]; exact q
  | .map b ver, v, q => by simp only [V] at q ⊢; rw [hm]; exact q
  | .itr b ver, v, q => by simp only [V] at q ⊢; rw [hm]; exact q
  | .new _ _ _, v, q => by simp [V] at q
  | .nbox _ _, v, q => by simp [V] at q
  | .nmap _, v, q => by simp [V] at q
theorem VT.congr {k : Nat} (hh : g'.h = g.h) (hm : g'.m = g.m) : ∀ (xs : List AV) (vs : List Value), VT g S k xs vs → VT g' S k xs vs
  | [], vs, q => by simpa [VT] using q
  | x :: xs, vs, q => by
    simp only [VT] at q ⊢
    obtain ⟨v, vs', e, h1, h2⟩ := q
    exact ⟨v, vs', e, V.congr hh hm x v h1, VT.congr hh hm xs vs' h2⟩
end
theorem BR.congr {b : Nat} {x : Blk} (hh : g'.h = g.h) (hm : g'.m = g.m) (h : BR A g S w B0 b x) : BR A g' S w B0 b x := by
  cases x with
  | dead _ => trivial
  | var v t cs =>
    obtain ⟨cb, cur, h1, h2, h3, h4, h5, h6⟩ := h
    exact ⟨cb, cur, by rw [hm]; exact h1, h2, by rw [hh]; exact h3, h4, VT.congr hh hm _ _ h5, h6⟩
  | row v t e rows z =>
    simp only [BR] at h ⊢
    rw [hm, hh]
    exact h
  | map v es =>
    simp only [BR] at h ⊢
    rw [hm, hh]
    exact h
  | iter v s pos =>
    simp only [BR] at h ⊢
    rw [hm, hh]
    exact h
  | loop v bs lev env params assign body st jump =>
    obtain ⟨cb, l, h1, h2, h3, h4, h5, h6, h7, h8, h9, hx', hk1, hk2, h10⟩ := h
    exact ⟨cb, l, by rw [hm]; exact h1, h2, by rw [hh]; exact h3, h4, h5, h6, h7, h8, h9, hx', hk1, hk2, fun t ht => V.congr hh hm _ _ (h10 t ht)⟩
/-- with other lists -/
theorem Rel.requ (R : Rel A B0 w0 g S w) (q' : List (Nat × Obj)) (hq : ∀ r ∈ q', r ∈ g.q) : Rel A B0 w0 { g with q := q' } S w where
  below := R.below
  room := R.room
  him := R.him
  low := R.low
  blk b x hx := BR.congr (g := g) (g' := { g with q := q' }) rfl rfl (R.blk b x hx)
  inj := R.inj
  q r h := R.q r (hq r h)

/-- in a later world, where all is as it was -/
theorem Rel.later (R : Rel A B0 w0 g S w) (hb : Below w.heap.size w w') : Rel A B0 w0 g S w' where
  below := R.below.trans (hb.mono R.room)
  room := Nat.le_trans R.room hb.size
  him cb a h := by
    obtain ⟨t, fz, e⟩ := R.him cb a h
    exact ⟨t, fz, (hb.block cb (Array.getElem?_eq_some_iff.1 e).1).trans e⟩
  low := R.low
  blk b x hx := (R.blk b x hx).keep (fun _ => rfl) (Nat.le_refl _) (Le.refl _ _ _) fun cb hm hs => by
    obtain ⟨s, hm⟩ := hm
    exact ⟨rfl, hb.block cb ((R.blk b x hx).there hs hm)⟩
  inj := R.inj
  q r h := by
    obtain ⟨h1, h2, h3, h4⟩ := R.q r h
    exact ⟨h1, (hb.block r.1 (Array.getElem?_eq_some_iff.1 h2).1).trans h2, h3, h4⟩

/-- more memory stands still: none that a block lies in -/
theorem Rel.still (R : Rel A B0 w0 g S w) {H : Nat → Option (Array Value)} (he : ∀ cb a, g.h cb = some a → H cb = some a) (hi : ∀ cb a, H cb = some a → ∃ t fz, w.heap[cb]? = some (.cells a t fz))
    (hl : ∀ cb, cb < B0 → H cb = g.h cb) (ho : ∀ b cb s, S.sig b ≠ none → g.m b = some (cb, s) → H cb = g.h cb) (hq : ∀ r ∈ g.q, H r.1 = none) : Rel A B0 w0 { g with h := H } S w ∧ ∀ k, Le k g S { g with h := H } S := by
  have hle : ∀ k, Le k g S { g with h := H } S := fun k => ⟨he, fun _ _ => Nat.le_refl _, fun _ _ _ _ h => ⟨h, rfl⟩, rfl, fun _ h => h⟩
  refine ⟨⟨R.below, R.room, hi, fun cb h => (hl cb h).trans (R.low cb h), fun b x hx => ?_, R.inj, fun r hr => ?_⟩, hle⟩
  rotate_left
  · obtain ⟨h1, h2, _, h4⟩ := R.q r hr
    exact ⟨h1, h2, hq r hr, h4⟩
  refine (R.blk b x hx).keep (fun _ => rfl) (Nat.le_refl _) (hle _) fun cb hm hs => ⟨?_, rfl⟩
  obtain ⟨s, hm⟩ := hm
  exact ho b cb s (by rw [sig_some hx]; exact hs) hm

/-! ### how calls begin and end -/
/-- a call of a function value -/
def dOf (f : Value) (as : Array Value) : Deferred :=
  match f with
  | .func fn first captured => { target := .fn fn captured, args := first ++ as }
  | _ => { target := .nil, args := as }
def isFn (f : Value) : Prop := ∃ fn a c, f = .func fn a c

/-- how it begins: the frame, by the kind of the call -/
def Begins (P : Program) (w : World) (d : Deferred) (F : CallKind → Frame) : Prop :=
  (∃ f args, (invoke d.target d.args).run P w = .ok (.enter f args) w ∧ F = fun k => Frame.enter P f args k) ∨
  (∃ l f tmps a b, (invoke d.target d.args).run P w = .ok (.round l f tmps a b) w ∧ F = fun k => Frame.round l f tmps a b k)

def Chain (v : Value) (chain : List PanicEntry) : Prop := ∃ rest, chain = { v, recovered := false } :: rest ∧ ∀ e ∈ rest, e.goexit = false

/-- where a call ends -/
def EndsN (P : Program) (m : Machine) (caller : Frame) (cs : List Frame) (w' : World) (cv : Value) : Out → Prop
  | .ret _ => Steps P m (lone (caller.finish cv) cs w')
  | .pan _ => ∃ chain, Chain cv chain ∧ Steps P m (lone (caller.raise chain) cs w')
/-- where a deferred call ends -/
def EndsD (P : Program) (m : Machine) (caller : Frame) (cs : List Frame) (rec : Bool) (w' : World) (cv : Value) : Out → Prop
  | .ret _ => Steps P m (lone { caller with mode := if rec then .returning else caller.mode } cs w')
  | .pan _ => ∃ chain, Chain cv chain ∧ Steps P m (lone { caller with mode := .panicking chain } cs w')

/-- what a deferred call may recover -/
def PV (g : Sg) (S : Sto) (pv : Option AV) (caller : Frame) : Prop :=
  match pv with
  | none => caller.mode = .returning
  | some x => ∃ xv older, caller.mode = .panicking ({ v := xv, recovered := false } :: older) ∧ (∀ e ∈ older, e.goexit = false) ∧ V g S S.length x xv

/-- calls are answered as the machine answers them -/
def CallOK (A : Alike) (P : Program) (cd : CallD) : Prop :=
  ∀ (pv : Option AV) (fv : AV) (args : List AV) (S : Sto) (o : Out) (rec : Bool) (S' : Sto), cd pv fv args S = some (o, rec, S') →
    ∀ (B0 : Nat) (w0 : World) (g : Sg) (w : World) (f : Value) (as : List Value), Rel A B0 w0 g S w → V g S S.length fv f → VT g S S.length args as →
      isFn f ∧ ∃ F, Begins P w (dOf f as.toArray) F ∧
      (pv = none → ∀ (caller : Frame) (cs : List Frame), ∃ cv w' g', Rel A B0 w0 g' S' w' ∧ Le S.length g S g' S' ∧ S.length ≤ S'.length ∧ V g' S' S'.length o.val cv ∧
        EndsN P (lone (F .normal) (caller :: cs) w) caller cs w' cv o) ∧
      (∀ (caller : Frame) (cs : List Frame), PV g S pv caller → ∃ cv w' g', Rel A B0 w0 g' S' w' ∧ Le S.length g S g' S' ∧ S.length ≤ S'.length ∧ V g' S' S'.length o.val cv ∧
        EndsD P (lone (F .deferred) (caller :: cs) w) caller cs rec w' cv o)

/-- what a call that is handed data hands back -/
def PureOut (A : Alike) (w : World) (H : Nat → Option (Array Value)) (x : AV) (cv : Value) (w1 : World) : Prop :=
  ∃ g1 S1 X, Rel A w.heap.size w g1 S1 w1 ∧ (∀ c a, H c = some a → g1.h c = some a) ∧ g1.h0 = H ∧ VX g1.h w1 x cv X ∧ X.Nodup ∧ ∀ cb ∈ X, w.heap.size ≤ cb ∧ g1.h cb = none

/-- functions that are told by a plain function of data -/
def ExtOK (A : Alike) (P : Program) (ext : Nat → Option (List AV → Option AV)) : Prop :=
  ∀ (f : Nat) (G : List AV → Option AV) (xs : List AV) (x : AV) (H : Nat → Option (Array Value)) (w : World) (as cap : List Value), ext f = some G → G xs = some x →
    (∀ cb a, H cb = some a → ∃ t fz, w.heap[cb]? = some (.cells a t fz)) → VT (lentSg H) [] 0 xs (as ++ cap) →
    ∃ F, Begins P w { target := .fn (.func f) cap.toArray, args := as.toArray } F ∧ ∀ (caller : Frame) (cs : List Frame), ∃ cv w1,
      Steps P (lone (F .normal) (caller :: cs) w) (lone (caller.finish cv) cs w1) ∧ PureOut A w H x cv w1

theorem Le.whole {k : Nat} (h : Le S.length g S g' S') (hl : S'.length = S.length) : Le k g S g' S' where
  h := h.h
  ver b hb := by
    rcases Nat.lt_or_ge b S.length with h1 | h1
    · exact h.ver b h1
    · have : S.ver b = 0 := by simp [Sto.ver, List.getElem?_eq_none_iff.2 h1]
      omega
  sig b hb e s hs := by
    rcases Nat.lt_or_ge b S.length with h1 | h1
    · exact h.sig b h1 e s hs
    · have : S'.sig b = none := by simp [Sto.sig, List.getElem?_eq_none_iff.2 (by omega : S'.length ≤ b)]
      rw [this] at hs
      cases hs
  h0 := h.h0
  q := h.q

theorem VT.split {k : Nat} : ∀ {xs ys : List AV} {vs : List Value}, VT g S k (xs ++ ys) vs → ∃ us ws, vs = us ++ ws ∧ VT g S k xs us ∧ VT g S k ys ws
  | [], ys, vs, h => ⟨[], vs, rfl, by simp [VT], h⟩
  | x :: xs, ys, vs, h => by
    simp only [List.cons_append, VT] at h
    obtain ⟨v, vs', rfl, h1, h2⟩ := h
    obtain ⟨us, ws, rfl, h3, h4⟩ := VT.split h2
    exact ⟨v :: us, ws, rfl, by simp only [VT]; exact ⟨v, us, rfl, h1, h3⟩, h4⟩

variable {cx : Cx}

theorem callP_sound (hc : CallOK A P cx.cd) (he : ExtOK A P cx.ext) {fv : AV} {args : List AV} {o : Out} {H : Nat → Option (Array Value)} (hH : ∀ cb a, H cb = some a → ∃ t fz, w.heap[cb]? = some (.cells a t fz))
    {f : Value} {as : List Value} (hf : V (lentSg H) [] 0 fv f) (ha : VT (lentSg H) [] 0 args as) (h : callP cx fv args = some o) :
    isFn f ∧ ∃ F, Begins P w (dOf f as.toArray) F ∧ ∀ (caller : Frame) (cs : List Frame), ∃ cv w1, EndsN P (lone (F .normal) (caller :: cs) w) caller cs w1 cv o ∧ PureOut A w H o.val cv w1 := by
  have R := lent_rel (A := A) hH
  unfold callP at h
  split at h
  · rename_i r hr
    unfold extOf at hr
    split at hr
    · rename_i f0 first cap
      split at hr
      · rename_i G hG
        cases hr
        simp only [V] at hf
        obtain ⟨a, c, rfl, h1, h2⟩ := hf
        refine ⟨⟨_, _, _, rfl⟩, ?_⟩
        cases hx : G (first ++ args ++ cap) with
        | none => rw [hx] at h; cases h
        | some x =>
          rw [hx] at h
          cases h
          have hv := VT.append _ _ _ _ (VT.append _ _ _ _ h1 ha) h2
          obtain ⟨F, hF, hE⟩ := he f0 G _ x H w (a ++ as) c hG hx hH hv
          refine ⟨F, by simpa [dOf] using hF, fun caller cs => ?_⟩
          obtain ⟨cv, w1, hs, hp⟩ := hE caller cs
          exact ⟨cv, w1, hs, hp⟩
      · cases hr
    · cases hr
  · have key : ∀ (o1 : Out) (rec : Bool) (S1 : Sto), cx.cd none fv args [] = some (o1, rec, S1) → ∀ x' S2, export1 8 o1.val S1 = some (x', S2) → o.val = x' → o.like o1 →
        isFn f ∧ ∃ F, Begins P w (dOf f as.toArray) F ∧ ∀ (caller : Frame) (cs : List Frame), ∃ cv w1, EndsN P (lone (F .normal) (caller :: cs) w) caller cs w1 cv o ∧ PureOut A w H o.val cv w1 := by
      intro o1 rec S1 hcd x' S2 hx ho hl
      obtain ⟨hfn, F, hF, hN, _⟩ := hc none fv args [] o1 rec S1 hcd _ _ _ w f as R hf ha
      refine ⟨hfn, F, hF, fun caller cs => ?_⟩
      obtain ⟨cv, w1, g1, R1, l1, _, v1, hE⟩ := hN rfl caller cs
      obtain ⟨g2, X, L, vx, lf⟩ := export1_sound 8 _ R1 v1 hx
      refine ⟨cv, w1, ?_, g2, S2, X, L.rel, fun c a hca => (L.le 0).h _ _ (l1.h _ _ hca), ?_, by rw [ho]; exact vx, lf.1, fun cb hcb => ?_⟩
      · cases o <;> cases o1 <;> first | exact hE | exact hl.elim
      · exact ((L.le 0).h0).trans l1.h0
      · obtain ⟨a, b, _⟩ := lf.2 cb hcb
        exact ⟨a, b⟩
    split at h
    · rename_i v rec S1 hcd
      split at h
      · rename_i v' S2 hx
        cases h
        exact key _ _ _ hcd _ _ hx rfl trivial
      · cases h
    · rename_i v rec S1 hcd
      split at h
      · rename_i v' S2 hx
        cases h
        exact key _ _ _ hcd _ _ hx rfl trivial
      · cases h
    · cases h

theorem doCall_sound (hc : CallOK A P cx.cd) (he : ExtOK A P cx.ext) (R : Rel A B0 w0 g S w) {base : Nat} {env : Env} {fv : AV} {args : List AV} {sites : List Nat} {md : Nat} {o : Out} {f : Value} {as : List Value}
    (hf : V g S S.length fv f) (ha : VT g S S.length args as) (h : doCall cx base env fv args sites md S = some (o, S')) :
    isFn f ∧ ∃ F, Begins P w (dOf f as.toArray) F ∧ ∀ (caller : Frame) (cs : List Frame), ∃ cv w' g', Rel A B0 w0 g' S' w' ∧ (∀ k, Le k g S g' S') ∧ S'.length = S.length ∧ V g' S' S'.length o.val cv ∧
      EndsN P (lone (F .normal) (caller :: cs) w) caller cs w' cv o := by
  unfold doCall at h
  split at h
  · rename_i hp
    simp only [pureCall, Bool.and_eq_true, decide_eq_true_eq] at hp
    obtain ⟨⟨_, hpf⟩, hpa⟩ := hp
    split at h
    · rename_i args' hl
      have plainCase : ∀ (o1 : Out), callP cx fv args' = some o1 → AV.plain 8 o1.val = true → o = o1 → S' = S → isFn f ∧ ∃ F, Begins P w (dOf f as.toArray) F ∧ ∀ (caller : Frame) (cs : List Frame), ∃ cv w' g', Rel A B0 w0 g' S' w' ∧ (∀ k, Le k g S g' S') ∧ S'.length = S.length ∧ V g' S' S'.length o.val cv ∧
          EndsN P (lone (F .normal) (caller :: cs) w) caller cs w' cv o := by
        intro o1 h1 hpl eo eS
        subst eo eS
        have hS := shown_snap R (args.flatMap refsV)
        have hH : ∀ cb a, snap w cb = some a → ∃ t fz, w.heap[cb]? = some (.cells a t fz) := fun _ _ h => snap_heap h
        obtain ⟨hfn, F, hF, hE⟩ := callP_sound hc he hH (pure_V (g' := lentSg (snap w)) hS.ext _ _ hpf hf) (lendA_sound R hS (fun _ h => h) hpa ha hl) h1
        refine ⟨hfn, F, hF, fun caller cs => ?_⟩
        obtain ⟨cv, w1, hs, g1, S1, X, R1, _, _, vx, _⟩ := hE caller cs
        exact ⟨cv, w1, g, R.later R1.below, fun k => Le.refl _ _ _, rfl, VX.plain 8 _ _ _ vx hpl _ _ _, hs⟩
      split at h
      · rename_i v hv
        split at h
        · rename_i hm
          split at h
          · cases h
          · rename_i hvs
            have hvs : args.any isVsl = false := by simpa using hvs
            split at h
            · rename_i v' s2 hland
              obtain ⟨S2, ps2⟩ := s2
              cases h
              obtain ⟨gf, Rf, lf, nf, hS⟩ := shown_frz R hpa hvs hl
              obtain ⟨hfn, F, hF, hE⟩ := callP_sound hc he Rf.him (pure_V (g' := lentSg gf.h) hS.ext _ _ hpf hf) (lendA_sound R hS (fun _ h => h) hpa ha hl) hv
              refine ⟨hfn, F, hF, fun caller cs => ?_⟩
              obtain ⟨cv, w1, hs, g1, S1, X, R1, hext, hh0, vx, hnd, hX⟩ := hE caller cs
              have Rl := Rf.later R1.below
              have hlow : ∀ cb, cb < w.heap.size → g1.h cb = gf.h cb := fun cb hcb => (R1.low cb hcb).trans (by rw [hh0])
              obtain ⟨Rs, ls⟩ := Rl.still (H := g1.h) hext R1.him (fun cb hcb => hlow cb (Nat.lt_of_lt_of_le hcb Rf.room)) (fun b cb s h1 h2 => hlow cb (Rf.there h1 h2)) (fun r hr => by
                obtain ⟨_, h2, h3, _⟩ := Rf.q r hr
                exact (hlow r.1 (Array.getElem?_eq_some_iff.1 h2).1).trans h3)
              have hwait : Wait { gf with h := g1.h } (frzL S args) B0 X := by
                refine ⟨hnd, fun cb hcb => ?_⟩
                obtain ⟨h1, h2⟩ := hX cb hcb
                refine ⟨Nat.le_trans Rf.room h1, h2, fun b s h3 h4 => ?_, fun r hr e => ?_⟩
                · have := Rf.there h3 h4
                  omega
                · have := (Array.getElem?_eq_some_iff.1 (Rf.q r hr).2.1).1
                  omega
              obtain ⟨g3, L, v3⟩ := land1_sound 8 v Rs vx hwait hland
              exact ⟨cv, w1, g3, L.rel, fun k => (lf k).trans ((ls k).trans (L.le k)), L.len.trans nf, v3, hs⟩
            · cases h
        · split at h
          · rename_i hpl
            cases h
            exact plainCase _ hv hpl rfl rfl
          · cases h
      · rename_i x hv
        split at h
        · rename_i hpl
          cases h
          exact plainCase _ hv hpl rfl rfl
        · cases h
      · cases h
    · cases h
  · split at h
    · rename_i o1 rec S1 hcd
      obtain ⟨hfn, F, hF, hN, _⟩ := hc none fv args S o1 rec S1 hcd _ _ _ w f as R hf ha
      refine ⟨hfn, F, hF, fun caller cs => ?_⟩
      obtain ⟨cv, w1, g1, R1, l1, n1, v1, hE⟩ := hN rfl caller cs
      obtain ⟨hlike, g2, R2, l2, n2, _, v2⟩ := retire_sound R1 n1 v1 h
      refine ⟨cv, w1, g2, R2, fun k => (l1.trans l2).whole n2, n2, v2, ?_⟩
      cases o <;> cases o1 <;> first | exact hE | exact hlike.elim
    · cases h

end Go.Wm

set_option linter.unusedVariables false
set_option linter.unusedSimpArgs false
namespace Go.Wm
open Go.RowKit

variable {A : Alike} {P : Program} {B0 : Nat} {w0 w w' : World} {g g' : Sg} {S S' : Sto} {b : Frame} {tm : Array Value} {k : List Item} {cs : List Frame} {env : Env} {cx : Cx}

/-- an operation of the code, and one of the machine (sp: in a function that defers or recovers) -/
def okOper (P : Program) (n : Nat) (sp : Bool) (ops : Array Oper) (o : IOper) (m : Oper) : Bool :=
  m.dst == o.dst && dstOk n o.dst && guardOk n ops o.guard m.guard &&
  match o.op with
  | .call f _ _ => (match m.op with
    | .call c => (match c.callee with | .value (.func f') => f == f' && opdsOk n o.xs c.args.toList | _ => false)
    | _ => false)
  | .callv _ _ => (match m.op with
    | .call c => (match c.callee with | .value x => opdsOk n o.xs (x :: c.args.toList) | _ => false)
    | _ => false)
  | .defer => sp && (match m.op with
    | .defer c => (match c.callee with | .value x => opdsOk n o.xs (x :: c.args.toList) | _ => false)
    | _ => false)
  | .panic => (match m.op with
    | .panic x => opdsOk n o.xs [x]
    | .call c => (match c.callee with | .builtin .panic => c.args.size == 1 && opdsOk n o.xs c.args.toList | _ => false)
    | _ => false)
  | .recover => sp && (match m.op with
    | .call c => (match c.callee with | .builtin .recover => o.xs.isEmpty | _ => false)
    | _ => false)
  | i => (match okVal P m.op i with
    | some os => opdsOk n o.xs os
    | none => false)

def isSpec : Iop → Bool
  | .defer | .recover => true
  | _ => false

/-- what an operation does, its operands given -/
def valOp (cx : Cx) (base : Nat) (env0 : Env) (o : IOper) (env : Env) (S : Sto) : R :=
  match wants o env with
  | some true => (match evalOp cx base env0 o.op (o.xs.map (·.get env)) S with
    | some (.pan x, S1) => if mayPan o.op then some (.pan x, S1) else none
    | r => r)
  | some false => some (.ret (.tup []), S)
  | none => none

theorem stepOp_val {base : Nat} {env0 : Env} {o : IOper} (h : isSpec o.op = false) :
    stepOp cx base env0 o env S = (match valOp cx base env0 o env S with
      | some (.ret v, S1) => some (none, env.put o.dst v, S1)
      | some (.pan x, S1) => some (some x, env, S1)
      | none => none) := by
  unfold stepOp valOp
  cases hw : wants o env with
  | none => rfl
  | some t =>
    cases t with
    | false => rfl
    | true =>
      simp only
      unfold goOp
      obtain ⟨dst, op, xs, guard⟩ := o
      cases op <;> first | (simp [isSpec] at h; done) | skip
      all_goals
        simp only
        split
        · rename_i e; rw [e]
        · rename_i e; rw [e]; simp only; split <;> rfl
        · rename_i e; rw [e]

/-- whether an operation is wanted -/
theorem wants_sound (E : ER g S S.length env tm) {n : Nat} (hn : n ≤ 900000) (ht : tm.size = n) {ops : Array Oper} {o : IOper} {m : Oper} (h : guardOk n ops o.guard m.guard = true) {t : Bool} (hw : wants o env = some t) :
    Region.wanted m (yielded ops tm) = t := by
  unfold wants at hw
  unfold guardOk at h
  unfold Region.wanted
  split at h
  · rename_i h1 h2
    rw [h1] at hw
    rw [h2]
    cases hw
    rfl
  · rename_i t0 b0 j b1 h1 h2
    rw [h1] at hw
    rw [h2]
    simp only [Bool.and_eq_true, beq_iff_eq] at h
    obtain ⟨rfl, h⟩ := h
    split at h
    · rename_i d hd
      simp only [Bool.and_eq_true, beq_iff_eq, decide_eq_true_eq] at h
      obtain ⟨rfl, hlt⟩ := h
      simp only at hw ⊢
      split at hw
      · rename_i c hc
        cases hw
        rw [guard_bool (b := b0) E hd (by omega) (by omega) hc]
        cases c <;> cases b0 <;> rfl
      · rename_i vs hc
        cases hw
        rw [guard_tup E hd (by omega) (by omega) hc]
        rfl
      · cases hw
    · cases h
  · cases h

theorem isFn.ofValue {f : Value} (h : isFn f) (as : Array Value) : (Deferred.ofValue f as) = pure (dOf f as) := by
  obtain ⟨fn, a, c, rfl⟩ := h
  rfl

/-- a call of a function value -/
theorem run_call {ρ : Operand → Value} {m : Oper} {c : Call} {x : Operand} (hm : m.op = .call c) (hx : c.callee = .value x) (hf : isFn (ρ x)) :
    (execOp ρ m).run P w = (invoke (dOf (ρ x) (c.args.map ρ)).target (dOf (ρ x) (c.args.map ρ)).args).run P w := by
  unfold execOp
  rw [hm]
  simp only [resolve, hx, hf.ofValue]
  simp

/-- where an operation leaves the frame -/
def OpEnds (P : Program) (m : Machine) (b : Frame) (tm : Array Value) (ops : Array Oper) (i : Nat) (rest : List Nat) (dst : Option Tmp) (k : List Item) (cs : List Frame) (w' : World) (cv : Value) : Out → Prop
  | .ret _ => Steps P m (lone (fat b (putT tm dst cv) (.inRegion ops rest :: k)) cs w')
  | .pan _ => ∃ chain, Chain cv chain ∧ Steps P m (lone ((fat b tm (.inRegion ops (i :: rest) :: k)).raise chain) cs w')

theorem call_ends (hc : CallOK A P cx.cd) (he : ExtOK A P cx.ext) (R : Rel A B0 w0 g S w) {base : Nat} {env0 : Env} {fv : AV} {args : List AV} {sites : List Nat} {md : Nat} {o : Out}
    {ops : Array Oper} {i : Nat} {rest : List Nat} {m : Oper} (hi : ops[i]? = some m) (hw : Region.wanted m (yielded ops tm) = true) {c : Call} {x : Operand} (hm : m.op = .call c) (hx : c.callee = .value x)
    (hf : V g S S.length fv (ev tm x)) (ha : VT g S S.length args (c.args.toList.map (ev tm))) (h : doCall cx base env0 fv args sites md S = some (o, S')) :
    ∃ cv w' g', OpEnds P (lone (fat b tm (.inRegion ops (i :: rest) :: k)) cs w) b tm ops i rest m.dst k cs w' cv o ∧ Rel A B0 w0 g' S' w' ∧ (∀ k, Le k g S g' S') ∧ S'.length = S.length ∧ V g' S' S'.length o.val cv := by
  obtain ⟨hfn, F, hF, hE⟩ := doCall_sound hc he R hf ha h
  obtain ⟨cv, w1, g1, R1, l1, n1, v1, hs⟩ := hE (fat b tm (.inRegion ops (i :: rest) :: k)) cs
  refine ⟨cv, w1, g1, ?_, R1, l1, n1, v1⟩
  have hrun := run_call (P := P) (w := w) hm hx hfn
  have harr : (c.args.toList.map (ev tm)).toArray = c.args.map (ev tm) := by
    apply Array.ext'
    simp
  rw [harr] at hF
  have hd : b.roundOf = none ∨ ∀ c, m.op ≠ .defer c := .inr fun c' e => by rw [hm] at e; cases e
  have first : step P (lone (fat b tm (.inRegion ops (i :: rest) :: k)) cs w) = .next (lone (F .normal) (fat b tm (.inRegion ops (i :: rest) :: k) :: cs) w) := by
    rcases hF with ⟨f, as, h1, rfl⟩ | ⟨l, f, tmps, as, bo, h1, rfl⟩
    · exact st_op_enter hi hw hd (by rw [hrun]; exact h1)
    · exact st_op_round hi hw hd (by rw [hrun]; exact h1)
  cases o with
  | ret v =>
    have hs : Steps P _ (lone ((fat b tm (.inRegion ops (i :: rest) :: k)).finish cv) cs w1) := hs
    rw [fat_finish, hi] at hs
    exact .head first hs
  | pan v =>
    obtain ⟨chain, hch, hs⟩ := hs
    exact ⟨chain, hch, .head first hs⟩

theorem raise_fat {chain : List PanicEntry} {todo : List Item} (hb : b.mode = b.mode) : (fat b tm todo).raise chain = { fat b tm todo with mode := .panicking chain } := rfl

theorem op_sound (hc : CallOK A P cx.cd) (he : ExtOK A P cx.ext) (R : Rel A B0 w0 g S w) (E : ER g S S.length env tm) {n : Nat} (hn : n ≤ 900000) (ht : tm.size = n) {sp : Bool} {base : Nat} {env0 : Env} {ops : Array Oper} {o : IOper} {m : Oper} {i : Nat} {rest : List Nat}
    (hi : ops[i]? = some m) (hok : okOper P n sp ops o m = true) (hs : isSpec o.op = false) {out : Out} (h : valOp cx base env0 o env S = some (out, S')) :
    ∃ cv w' g', OpEnds P (lone (fat b tm (.inRegion ops (i :: rest) :: k)) cs w) b tm ops i rest m.dst k cs w' cv out ∧ Rel A B0 w0 g' S' w' ∧ (∀ k, Le k g S g' S') ∧ S'.length = S.length ∧ V g' S' S'.length out.val cv := by
  unfold okOper at hok
  simp only [Bool.and_eq_true] at hok
  obtain ⟨⟨⟨h1, h2⟩, h3⟩, hok⟩ := hok
  unfold valOp at h
  split at h
  rotate_left
  · rename_i hw
    cases h
    have hw' := wants_sound E hn ht h3 hw
    refine ⟨undef, w, g, ?_, R, fun k => Le.refl _ _ _, rfl, by simp [Out.val, V, undef, VT]⟩
    have hskip : ((ops[i]?).map (Region.wanted · (yielded ops tm))).getD false = false := by rw [hi]; simpa using hw'
    have := st_op_skip (P := P) (b := b) (k := k) (cs := cs) (w := w) (rest := rest) hskip
    rw [hi] at this
    exact .one this
  · cases h
  rename_i hw
  have hw' := wants_sound E hn ht h3 hw
  have hops : ∀ {xs : List Opd} {os : List Operand}, opdsOk n xs os = true → VT g S S.length (xs.map (·.get env)) (os.map (ev tm)) := fun hx => opds_sound E hn hx
  have valCase : ∀ (i' : Iop), (o.op = i') → mayPan i' = false → ∀ os, okVal P m.op i' = some os → opdsOk n o.xs os = true →
      ∃ cv w' g', OpEnds P (lone (fat b tm (.inRegion ops (i :: rest) :: k)) cs w) b tm ops i rest m.dst k cs w' cv out ∧ Rel A B0 w0 g' S' w' ∧ (∀ k, Le k g S g' S') ∧ S'.length = S.length ∧ V g' S' S'.length out.val cv := by
    intro i' e hp os hv hx
    rw [e, hp] at h
    have hsn := okVal_sound (cx := cx) (base := base) (env := env0) R hv (hops hx)
    cases out with
    | pan x =>
      split at h
      · simp at h
      · rename_i hno
        exact absurd h (by intro he'; exact hno _ _ he')
    | ret v =>
      have h' : evalOp cx base env0 i' (o.xs.map (·.get env)) S = some (.ret v, S') := by
        split at h
        · simp at h
        · exact h
      obtain ⟨cv, w1, g1, hr, R1, v1, l1, n1⟩ := hsn v S' h'
      have hd : b.roundOf = none ∨ ∀ c, m.op ≠ .defer c := .inr fun c' e' => by rw [e'] at hv; simp [okVal] at hv
      exact ⟨cv, w1, g1, .one (st_op hi hw' hd hr), R1, l1, n1, v1⟩
  cases hop : o.op with
  | call f sites md =>
    rw [hop] at h hok
    simp only [mayPan, if_true] at h hok
    have h' : doCall cx base env0 (.fn f [] []) (o.xs.map (·.get env)) sites md S = some (out, S') := by
      simp only [evalOp] at h
      split at h
      · rename_i e; rw [e]; exact h
      · exact h
    split at hok
    · rename_i c hm
      split at hok
      · rename_i f' hx
        simp only [Bool.and_eq_true, beq_iff_eq] at hok
        obtain ⟨rfl, hx'⟩ := hok
        exact call_ends hc he R hi hw' hm hx (by simp only [ev, V]; exact ⟨[], [], rfl, by simp [VT], by simp [VT]⟩) (hops hx') h'
      · cases hok
    · cases hok
  | callv sites md =>
    rw [hop] at h hok
    simp only [mayPan, if_true] at h hok
    split at hok
    · rename_i c hm
      split at hok
      · rename_i x hx
        have hv := hops hok
        cases hxs : o.xs with
        | nil => rw [hxs] at hok; simp [opdsOk] at hok
        | cons y ys =>
          rw [hxs] at h hv
          simp only [List.map_cons, VT] at h hv
          obtain ⟨f, as, e, hf, ha⟩ := hv
          cases e
          have h' : doCall cx base env0 (y.get env) (ys.map (·.get env)) sites md S = some (out, S') := by
            simp only [evalOp] at h
            split at h
            · rename_i e; rw [e]; exact h
            · exact h
          exact call_ends hc he R hi hw' hm hx hf ha h'
      · cases hok
    · cases hok
  | defer => rw [hop] at hs; cases hs
  | recover => rw [hop] at hs; cases hs
  | panic =>
    rw [hop] at h hok
    simp only [mayPan, if_true] at h hok
    have h' : ∃ t x, o.xs.map (·.get env) = [.ifc t x] ∧ out = .pan (.ifc t x) ∧ S' = S := by
      simp only [evalOp] at h
      split at h
      · rename_i x S1 e
        split at e
        · rename_i t x hx
          cases e
          cases h
          exact ⟨t, x, hx, rfl, rfl⟩
        · cases e
      · split at h
        · rename_i t x hx
          cases h
          exact ⟨t, x, hx, rfl, rfl⟩
        · cases h
    obtain ⟨t, x, hx, rfl, rfl⟩ := h'
    have pan : ∀ (y : Operand), opdsOk n o.xs [y] = true → (execOp (ev tm) m).run P w = ((do pure (.value (← Instr.panic (ev tm y))) : Sem Next)).run P w →
        (∀ c, m.op ≠ .defer c) → ∃ cv w' g', OpEnds P (lone (fat b tm (.inRegion ops (i :: rest) :: k)) cs w) b tm ops i rest m.dst k cs w' cv (.pan (.ifc t x)) ∧ Rel A B0 w0 g' S' w' ∧ (∀ k, Le k g S' g' S') ∧ S'.length = S'.length ∧ V g' S' S'.length (Out.val (.pan (.ifc t x))) cv := by
      intro y hy hrun hd
      have hv := hops hy
      rw [hx] at hv
      simp only [List.map_cons, List.map_nil, VT] at hv
      obtain ⟨u, us, e, h4, h5⟩ := hv
      cases e
      have h4' := h4
      simp only [V] at h4'
      obtain ⟨u, hu, _⟩ := h4'
      refine ⟨ev tm y, w, g, ⟨[{ v := ev tm y, recovered := false }], ⟨[], rfl, by simp⟩, .one (st_op_panic hi hw' (.inr hd) ?_)⟩, R, fun k => Le.refl _ _ _, rfl, h4⟩
      rw [hu] at hrun ⊢
      rw [hrun]
      simp [run_panic_iface, Result.andThen]
    split at hok
    · rename_i y hm
      refine pan y hok ?_ (fun c e => by rw [hm] at e; cases e)
      unfold execOp
      rw [hm]
    · rename_i c hm
      split at hok
      · rename_i hcal
        simp only [Bool.and_eq_true, beq_iff_eq] at hok
        obtain ⟨hsz, hx'⟩ := hok
        obtain ⟨cal, args, tys⟩ := c
        simp only at hcal hsz hx'
        subst hcal
        obtain ⟨y, rfl⟩ : ∃ y, args = #[y] := by
          rcases args with ⟨l⟩
          match l, hsz with
          | [y], _ => exact ⟨y, rfl⟩
        refine pan y hx' ?_ (fun c e => by rw [hm] at e; cases e)
        unfold execOp
        rw [hm]
        simp [resolve, invoke, builtin]
      · cases hok
    · cases hok
  | _ =>
    rw [hop] at hok
    simp only at hok
    split at hok
    · rename_i os hv
      exact valCase _ hop rfl os hv hok
    · cases hok

end Go.Wm
