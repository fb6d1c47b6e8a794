/- Lemmas that lead to the statement: answers of small functions (chapter 13), over values without memory. words (chapter 13). slices' functions at whole numbers and truths. slices.Grow, Concat, Compact at whole numbers. the shortest form of a word. lasso.Shortest, ref13.once. ref13.Shortest. lasso.Unstuttered. ref13.Unstuttered. two ways to the word without stuttering (plain). the word without stuttering is one (plain). -/
import Derived.Test.YtmgehmhebnjaaaaGreatDoorM7
import Derived.Test.YtmgehmhebnjaaaaGreatDoorM3
set_option linter.all false
section
set_option maxRecDepth 100000
set_option linter.unusedSimpArgs false
namespace Dm.YtmgehmhebnjaaaaGreatDoor
open Go
/-- No function is taken as told. -/
def nopr : Prims := fun _ => none
theorem wrong_c (b : Bool) (c : Int) : Closed tab nopr 67 [(PV.v (Value.bool (b))), (PV.v (Value.int IntKind.i64 (c)))] (PV.v (Value.int IntKind.i64 (if b = true then c else 0))) := by
  refine Closed.of (mf := m67) rfl rfl rfl ?_
  cases b <;> try simp (disch := omega) only [PR, plen, pop, prd, prds, pwr, keptP, presAll, presOf, pone, Kd.w, Kd.spare, Obj.ver, peq, pparts, play, psl, pbnd, binV, intV, ↓reduceIte, Nat.reduceAdd, Nat.reduceSub, Nat.reduceEqDiff, Nat.reduceLT, Nat.reduceLeDiff, Nat.reduceMul, reduceCtorEq, plain, zeros, m67] <;> constructor
theorem ownInts_c {l : List Int} (hl : l.length ≤ 1000000000) : ClosedF tab nopr 52 [.sl l.length (pints l)] 1 l.length (pints l) := by
  refine ClosedF.of (mf := m52) rfl rfl rfl ?_
  try simp (disch := omega) only [PR, plen, pop, prd, prds, pwr, keptP, presAll, presOf, pone, Kd.w, Kd.spare, Obj.ver, peq, pparts, play, psl, pbnd, binV, intV, ↓reduceIte, Nat.reduceAdd, Nat.reduceSub, Nat.reduceEqDiff, Nat.reduceLT, Nat.reduceLeDiff, Nat.reduceMul, reduceCtorEq, plain, zeros, m52]
  refine app_lst (m := 0) (k := l.length) (cs := []) (new := pints l) (p := .row 0 0 0 0) (q := .sl l.length (pints l)) ⟨rfl, .inr ⟨0, 0, .fix, 0, [], rfl, by omega, by omega, by omega, rfl, rfl, .inl rfl, rfl⟩⟩ rfl rfl (by simp [psrc, pints_length]) (by simp [pints_length]) pints_flat (by omega) (by omega) (by omega) fun p' st' n' h _ _ _ => ?_
  try simp (disch := omega) only [PR, plen, pop, prd, prds, pwr, keptP, presAll, presOf, pone, Kd.w, Kd.spare, Obj.ver, peq, pparts, play, psl, pbnd, binV, intV, ↓reduceIte, Nat.reduceAdd, Nat.reduceSub, Nat.reduceEqDiff, Nat.reduceLT, Nat.reduceLeDiff, Nat.reduceMul, reduceCtorEq, plain, zeros]
  simp only [Nat.zero_add, List.nil_append] at h
  exact h.lstP pints_V
theorem indexFunc_c {l : List Int} {f : Nat} {caps : List PV} {p : Int → Bool} (hl : l.length < 9223372036854775807) (hf : ∀ x, Closed tab nopr f ((PV.v (Value.int IntKind.i64 (x))) :: caps) (PV.v (Value.bool (p x)))) (hc : PureL caps) : Closed tab nopr 122 [.sl l.length (pints l), .fn f caps] (PV.v (Value.int IntKind.i64 (match l.findIdx? p with | some i => (i : Int) | none => -1))) := by
  refine Closed.of (mf := m122) rfl rfl rfl ?_
  try simp (disch := omega) only [PR, plen, pop, prd, prds, pwr, keptP, presAll, presOf, pone, Kd.w, Kd.spare, Obj.ver, peq, pparts, play, psl, pbnd, binV, intV, ↓reduceIte, Nat.reduceAdd, Nat.reduceSub, Nat.reduceEqDiff, Nat.reduceLT, Nat.reduceLeDiff, Nat.reduceMul, reduceCtorEq, plain, zeros, m122]
  refine V_count (fun i pt st n => i ≤ l.length ∧ (∀ j, j < i → p (l.getD j 0) = false) ∧ pt 0 = .sl l.length (pints l) ∧ pt 1 = .fn f caps ∧ pt 6 = .sl l.length (pints l) ∧ pt 7 = (PV.v (Value.int IntKind.i64 (l.length))) ∧ pt 8 = (PV.v (Value.int IntKind.i64 (i)))) l.length ⟨by omega, fun j hj => absurd hj (by omega), rfl, rfl, rfl, rfl, rfl⟩ ?_
  rintro i pt st n hi ⟨_, hno, e0, e1, e6, e7, e8⟩
  by_cases hlt : i < l.length
  · try simp (disch := omega) only [PR, plen, pop, prd, prds, pwr, keptP, presAll, presOf, pone, Kd.w, Kd.spare, Obj.ver, peq, pparts, play, psl, pbnd, binV, intV, ↓reduceIte, Nat.reduceAdd, Nat.reduceSub, Nat.reduceEqDiff, Nat.reduceLT, Nat.reduceLeDiff, Nat.reduceMul, reduceCtorEq, plain, zeros, e0, e1, e6, e7, e8]
    refine PAns.closed (hf _) (.cons (.v _) (hc _ _)) ?_
    cases hpx : p (l.getD i 0)
    · try simp (disch := omega) only [PR, plen, pop, prd, prds, pwr, keptP, presAll, presOf, pone, Kd.w, Kd.spare, Obj.ver, peq, pparts, play, psl, pbnd, binV, intV, ↓reduceIte, Nat.reduceAdd, Nat.reduceSub, Nat.reduceEqDiff, Nat.reduceLT, Nat.reduceLeDiff, Nat.reduceMul, reduceCtorEq, plain, zeros, e0, e1, e6, e7, e8]
      refine ⟨fun j hj => ?_, rfl⟩
      by_cases e : j = i
      · subst e; exact hpx
      · exact hno j (by omega)
    · try simp (disch := omega) only [PR, plen, pop, prd, prds, pwr, keptP, presAll, presOf, pone, Kd.w, Kd.spare, Obj.ver, peq, pparts, play, psl, pbnd, binV, intV, ↓reduceIte, Nat.reduceAdd, Nat.reduceSub, Nat.reduceEqDiff, Nat.reduceLT, Nat.reduceLeDiff, Nat.reduceMul, reduceCtorEq, plain, zeros, e0, e1, e6, e7, e8]
      have : l.findIdx? p = some i := by
        rw [List.findIdx?_eq_some_iff_getElem]
        refine ⟨hlt, by simpa [hlt] using hpx, fun j hj => ?_⟩
        have := hno j hj
        rw [List.getD_eq_getElem?_getD, List.getElem?_eq_getElem (by omega)] at this
        simpa using this
      rw [this]
      exact .v _
  · try simp (disch := omega) only [PR, plen, pop, prd, prds, pwr, keptP, presAll, presOf, pone, Kd.w, Kd.spare, Obj.ver, peq, pparts, play, psl, pbnd, binV, intV, ↓reduceIte, Nat.reduceAdd, Nat.reduceSub, Nat.reduceEqDiff, Nat.reduceLT, Nat.reduceLeDiff, Nat.reduceMul, reduceCtorEq, plain, zeros, e0, e1, e6, e7, e8]
    have : l.findIdx? p = none := by
      rw [List.findIdx?_eq_none_iff]
      intro x hx
      obtain ⟨j, hj, rfl⟩ := List.mem_iff_getElem.1 hx
      have := hno j (by omega)
      rw [List.getD_eq_getElem?_getD, List.getElem?_eq_getElem hj] at this
      simpa using this
    rw [this]
    exact .v _
theorem findIdx_any {l : List Int} {p : Int → Bool} : decide ((0 : Int) ≤ (match l.findIdx? p with | some i => (i : Int) | none => -1)) = l.any p := by
  cases h : l.findIdx? p with
  | none =>
    rw [List.findIdx?_eq_none_iff] at h
    have : l.any p = false := by rw [List.any_eq_false]; intro x hx; simp [h x hx]
    rw [this]
    rfl
  | some i =>
    rw [List.findIdx?_eq_some_iff_getElem] at h
    obtain ⟨h1, h2, _⟩ := h
    have : l.any p = true := List.any_eq_true.2 ⟨_, List.getElem_mem h1, h2⟩
    rw [this]
    simp
theorem containsFunc_c {l : List Int} {f : Nat} {caps : List PV} {p : Int → Bool} (hl : l.length < 9223372036854775807) (hf : ∀ x, Closed tab nopr f ((PV.v (Value.int IntKind.i64 (x))) :: caps) (PV.v (Value.bool (p x)))) (hc : PureL caps) : Closed tab nopr 68 [.sl l.length (pints l), .fn f caps] (PV.v (Value.bool (l.any p))) := by
  refine Closed.of (mf := m68) rfl rfl rfl ?_
  try simp (disch := omega) only [PR, plen, pop, prd, prds, pwr, keptP, presAll, presOf, pone, Kd.w, Kd.spare, Obj.ver, peq, pparts, play, psl, pbnd, binV, intV, ↓reduceIte, Nat.reduceAdd, Nat.reduceSub, Nat.reduceEqDiff, Nat.reduceLT, Nat.reduceLeDiff, Nat.reduceMul, reduceCtorEq, plain, zeros, m68]
  refine PAns.closed (indexFunc_c hl hf hc) (.cons (.sl _ _) (.cons (.fn _ rfl (hc _ _).2) .nil)) ?_
  try simp (disch := omega) only [PR, plen, pop, prd, prds, pwr, keptP, presAll, presOf, pone, Kd.w, Kd.spare, Obj.ver, peq, pparts, play, psl, pbnd, binV, intV, ↓reduceIte, Nat.reduceAdd, Nat.reduceSub, Nat.reduceEqDiff, Nat.reduceLT, Nat.reduceLeDiff, Nat.reduceMul, reduceCtorEq, plain, zeros]
  have := findIdx_any (l := l) (p := p)
  rw [← this]
  exact .v _
def firstNZ : List Int → Int
  | [] => 0
  | x :: l => if x = 0 then firstNZ l else x
theorem firstNZ_drop {l : List Int} {i : Nat} (h : ∀ j, j < i → l.getD j 0 = 0) (hi : i ≤ l.length) : firstNZ l = firstNZ (l.drop i) := by
  induction i generalizing l with
  | zero => rfl
  | succ i ih =>
    cases l with
    | nil => simp at hi
    | cons x l =>
      have := h 0 (by omega)
      simp at this
      simp only [firstNZ, this, if_true, List.drop_succ_cons]
      exact ih (fun j hj => by simpa using h (j + 1) (by omega)) (by simpa using hi)
theorem cmpOr_c {l : List Int} (hl : l.length < 9223372036854775807) : Closed tab nopr 66 [.sl l.length (pints l)] (PV.v (Value.int IntKind.i64 (firstNZ l))) := by
  refine Closed.of (mf := m66) rfl rfl rfl ?_
  try simp (disch := omega) only [PR, plen, pop, prd, prds, pwr, keptP, presAll, presOf, pone, Kd.w, Kd.spare, Obj.ver, peq, pparts, play, psl, pbnd, binV, intV, ↓reduceIte, Nat.reduceAdd, Nat.reduceSub, Nat.reduceEqDiff, Nat.reduceLT, Nat.reduceLeDiff, Nat.reduceMul, reduceCtorEq, plain, zeros, m66]
  refine V_count (fun i pt st n => i ≤ l.length ∧ (∀ j, j < i → l.getD j 0 = 0) ∧ pt 3 = (PV.v (Value.int IntKind.i64 (0))) ∧ pt 6 = .sl l.length (pints l) ∧ pt 7 = (PV.v (Value.int IntKind.i64 (l.length))) ∧ pt 8 = (PV.v (Value.int IntKind.i64 (i)))) l.length ⟨by omega, fun j hj => absurd hj (by omega), rfl, rfl, rfl, rfl⟩ ?_
  rintro i pt st n hi ⟨_, hno, e3, e6, e7, e8⟩
  by_cases hlt : i < l.length
  · have hd : firstNZ l = if l.getD i 0 = 0 then firstNZ (l.drop (i + 1)) else l.getD i 0 := by
      rw [firstNZ_drop hno hi, List.drop_eq_getElem_cons hlt, List.getD_eq_getElem?_getD, List.getElem?_eq_getElem hlt]
      rfl
    by_cases h0 : l.getD i 0 = 0
    · try simp (disch := omega) only [PR, plen, pop, prd, prds, pwr, keptP, presAll, presOf, pone, Kd.w, Kd.spare, Obj.ver, peq, pparts, play, psl, pbnd, binV, intV, ↓reduceIte, Nat.reduceAdd, Nat.reduceSub, Nat.reduceEqDiff, Nat.reduceLT, Nat.reduceLeDiff, Nat.reduceMul, reduceCtorEq, plain, zeros, e3, e6, e7, e8, h0]
      refine ⟨fun j hj => ?_, rfl⟩
      by_cases e : j = i
      · subst e; exact h0
      · exact hno j (by omega)
    · try simp (disch := omega) only [PR, plen, pop, prd, prds, pwr, keptP, presAll, presOf, pone, Kd.w, Kd.spare, Obj.ver, peq, pparts, play, psl, pbnd, binV, intV, ↓reduceIte, Nat.reduceAdd, Nat.reduceSub, Nat.reduceEqDiff, Nat.reduceLT, Nat.reduceLeDiff, Nat.reduceMul, reduceCtorEq, plain, zeros, e3, e6, e7, e8, h0]
      rw [hd, if_neg h0]
      exact .v _
  · try simp (disch := omega) only [PR, plen, pop, prd, prds, pwr, keptP, presAll, presOf, pone, Kd.w, Kd.spare, Obj.ver, peq, pparts, play, psl, pbnd, binV, intV, ↓reduceIte, Nat.reduceAdd, Nat.reduceSub, Nat.reduceEqDiff, Nat.reduceLT, Nat.reduceLeDiff, Nat.reduceMul, reduceCtorEq, plain, zeros, e3, e6, e7, e8]
    rw [firstNZ_drop hno hi, List.drop_eq_nil_of_le (by omega)]
    exact .v _
end Dm.YtmgehmhebnjaaaaGreatDoor
end
section
set_option maxRecDepth 100000
set_option linter.unusedSimpArgs false
namespace Dm.YtmgehmhebnjaaaaGreatDoor
open Go
def btw (n a b : Int) : Bool := decide (a ≤ n) && decide (n ≤ b)
theorem spans_c (n a b : Int) : Closed tab nopr 65 [(PV.v (Value.int IntKind.i64 (n))), (PV.v (Value.int IntKind.i64 (a))), (PV.v (Value.int IntKind.i64 (b)))] (PV.v (Value.bool (btw n a b))) := by
  refine Closed.of (mf := m65) rfl rfl rfl ?_
  unfold btw
  by_cases h : a ≤ n <;> try simp (disch := omega) only [PR, plen, pop, prd, prds, pwr, keptP, presAll, presOf, pone, Kd.w, Kd.spare, Obj.ver, peq, pparts, play, psl, pbnd, binV, intV, ↓reduceIte, Nat.reduceAdd, Nat.reduceSub, Nat.reduceEqDiff, Nat.reduceLT, Nat.reduceLeDiff, Nat.reduceMul, reduceCtorEq, plain, zeros, m65, Bool.false_and] <;> constructor
theorem between_c (n a b : Int) : Closed tab nopr 26 [(PV.v (Value.int IntKind.i64 (n))), (PV.v (Value.int IntKind.i64 (a))), (PV.v (Value.int IntKind.i64 (b)))] (PV.v (Value.bool (btw n a b))) := by
  refine Closed.of (mf := m26) rfl rfl rfl ?_
  unfold btw
  by_cases h : a ≤ n <;> try simp (disch := omega) only [PR, plen, pop, prd, prds, pwr, keptP, presAll, presOf, pone, Kd.w, Kd.spare, Obj.ver, peq, pparts, play, psl, pbnd, binV, intV, ↓reduceIte, Nat.reduceAdd, Nat.reduceSub, Nat.reduceEqDiff, Nat.reduceLT, Nat.reduceLeDiff, Nat.reduceMul, reduceCtorEq, plain, zeros, m26, Bool.false_and] <;> constructor
def odd (n : Int) : Bool := !btw n 0 4095
theorem odd_c (n : Int) : Closed tab nopr 64 [(PV.v (Value.int IntKind.i64 (n)))] (PV.v (Value.bool (odd n))) := by
  refine Closed.of (mf := m64) rfl rfl rfl ?_
  try simp (disch := omega) only [PR, plen, pop, prd, prds, pwr, keptP, presAll, presOf, pone, Kd.w, Kd.spare, Obj.ver, peq, pparts, play, psl, pbnd, binV, intV, ↓reduceIte, Nat.reduceAdd, Nat.reduceSub, Nat.reduceEqDiff, Nat.reduceLT, Nat.reduceLeDiff, Nat.reduceMul, reduceCtorEq, plain, zeros, m64]
  refine PAns.scalar (spans_c _ _ _) (.plain rfl) rfl ?_
  try simp (disch := omega) only [PR, plen, pop, prd, prds, pwr, keptP, presAll, presOf, pone, Kd.w, Kd.spare, Obj.ver, peq, pparts, play, psl, pbnd, binV, intV, ↓reduceIte, Nat.reduceAdd, Nat.reduceSub, Nat.reduceEqDiff, Nat.reduceLT, Nat.reduceLeDiff, Nat.reduceMul, reduceCtorEq, plain, zeros]
  exact .v _
def pword (p l : List Int) : PV := .agg [.sl p.length (pints p), .sl l.length (pints l)]
theorem pword_pure {ok : Nat → Bool → Prop} {st : St} (p l : List Int) : Pur ok st (pword p l) (pword p l) := .agg rfl (PurL.cons (.sl _ _) (.cons (.sl _ _) .nil)).2
def wordErr (p l : List Int) : Int := if l.length = 0 then 1 else if p.length + l.length > 60 then 2 else if p.any odd || l.any odd then 3 else 0
/-- Two numbers in a row of their own. -/
theorem pur_row2 {st : St} {i : Nat} {fz : Bool} {vr : Nat} {a b : Int} (h : st i = .cells fz .fix vr [(PV.v (Value.int IntKind.i64 (a))), (PV.v (Value.int IntKind.i64 (b)))]) : PurL anyRow st [.row i 0 2 2] [.sl 2 (pints [a, b])] :=
  .cons (.row (sz := 1) h trivial (.inl rfl) (Nat.le_refl 2) rfl (PurL.plain rfl).2) .nil
theorem checkWord_c {p l : List Int} (b1 : p.length ≤ 1000000) (b2 : l.length ≤ 1000000) : Closed tab nopr 15 [pword p l] (PV.v (Value.int IntKind.i64 (wordErr p l))) := by
  refine Closed.of (mf := m15) rfl rfl rfl ?_
  try simp (disch := omega) only [PR, plen, pop, prd, prds, pwr, keptP, presAll, presOf, pone, Kd.w, Kd.spare, Obj.ver, peq, pparts, play, psl, pbnd, binV, intV, ↓reduceIte, Nat.reduceAdd, Nat.reduceSub, Nat.reduceEqDiff, Nat.reduceLT, Nat.reduceLeDiff, Nat.reduceMul, reduceCtorEq, plain, zeros, m15, pword]
  refine PAns.scalar (wrong_c _ _) (.plain rfl) rfl ?_
  try simp (disch := omega) only [PR, plen, pop, prd, prds, pwr, keptP, presAll, presOf, pone, Kd.w, Kd.spare, Obj.ver, peq, pparts, play, psl, pbnd, binV, intV, ↓reduceIte, Nat.reduceAdd, Nat.reduceSub, Nat.reduceEqDiff, Nat.reduceLT, Nat.reduceLeDiff, Nat.reduceMul, reduceCtorEq, plain, zeros]
  refine PAns.scalar (wrong_c _ _) (.plain rfl) rfl ?_
  try simp (disch := omega) only [PR, plen, pop, prd, prds, pwr, keptP, presAll, presOf, pone, Kd.w, Kd.spare, Obj.ver, peq, pparts, play, psl, pbnd, binV, intV, ↓reduceIte, Nat.reduceAdd, Nat.reduceSub, Nat.reduceEqDiff, Nat.reduceLT, Nat.reduceLeDiff, Nat.reduceMul, reduceCtorEq, plain, zeros]
  refine PAns.scalar (cmpOr_c (l := [_, _]) (by simp)) (pur_row2 rfl) rfl ?_
  by_cases e0 : l.length = 0
  · try simp (disch := omega) only [PR, plen, pop, prd, prds, pwr, keptP, presAll, presOf, pone, Kd.w, Kd.spare, Obj.ver, peq, pparts, play, psl, pbnd, binV, intV, ↓reduceIte, Nat.reduceAdd, Nat.reduceSub, Nat.reduceEqDiff, Nat.reduceLT, Nat.reduceLeDiff, Nat.reduceMul, reduceCtorEq, plain, zeros, firstNZ, e0, wordErr]
    exact .v _
  · by_cases e60 : p.length + l.length > 60
    · try simp (disch := omega) only [PR, plen, pop, prd, prds, pwr, keptP, presAll, presOf, pone, Kd.w, Kd.spare, Obj.ver, peq, pparts, play, psl, pbnd, binV, intV, ↓reduceIte, Nat.reduceAdd, Nat.reduceSub, Nat.reduceEqDiff, Nat.reduceLT, Nat.reduceLeDiff, Nat.reduceMul, reduceCtorEq, plain, zeros, firstNZ, e0, wordErr, e60]
      exact .v _
    · try simp (disch := omega) only [PR, plen, pop, prd, prds, pwr, keptP, presAll, presOf, pone, Kd.w, Kd.spare, Obj.ver, peq, pparts, play, psl, pbnd, binV, intV, ↓reduceIte, Nat.reduceAdd, Nat.reduceSub, Nat.reduceEqDiff, Nat.reduceLT, Nat.reduceLeDiff, Nat.reduceMul, reduceCtorEq, plain, zeros, firstNZ, e0, wordErr, e60]
      refine PAns.scalar (containsFunc_c (l := p) (by omega) odd_c .nil) (by repeat (first | exact PurL.nil | refine PurL.cons ?_ ?_ | exact Pur.v _ | exact Pur.sl _ _ | exact Pur.ep _ | exact Pur.fn _ rfl PurL.nil.2 | exact pword_pure _ _)) rfl ?_
      cases h : p.any odd
      · try simp (disch := omega) only [PR, plen, pop, prd, prds, pwr, keptP, presAll, presOf, pone, Kd.w, Kd.spare, Obj.ver, peq, pparts, play, psl, pbnd, binV, intV, ↓reduceIte, Nat.reduceAdd, Nat.reduceSub, Nat.reduceEqDiff, Nat.reduceLT, Nat.reduceLeDiff, Nat.reduceMul, reduceCtorEq, plain, zeros]
        refine PAns.scalar (containsFunc_c (l := l) (by omega) odd_c .nil) (by repeat (first | exact PurL.nil | refine PurL.cons ?_ ?_ | exact Pur.v _ | exact Pur.sl _ _ | exact Pur.ep _ | exact Pur.fn _ rfl PurL.nil.2 | exact pword_pure _ _)) rfl ?_
        try simp (disch := omega) only [PR, plen, pop, prd, prds, pwr, keptP, presAll, presOf, pone, Kd.w, Kd.spare, Obj.ver, peq, pparts, play, psl, pbnd, binV, intV, ↓reduceIte, Nat.reduceAdd, Nat.reduceSub, Nat.reduceEqDiff, Nat.reduceLT, Nat.reduceLeDiff, Nat.reduceMul, reduceCtorEq, plain, zeros]
        refine PAns.scalar (wrong_c _ _) (.plain rfl) rfl ?_
        try simp (disch := omega) only [PR, plen, pop, prd, prds, pwr, keptP, presAll, presOf, pone, Kd.w, Kd.spare, Obj.ver, peq, pparts, play, psl, pbnd, binV, intV, ↓reduceIte, Nat.reduceAdd, Nat.reduceSub, Nat.reduceEqDiff, Nat.reduceLT, Nat.reduceLeDiff, Nat.reduceMul, reduceCtorEq, plain, zeros, Bool.false_or]
        exact .v _
      · try simp (disch := omega) only [PR, plen, pop, prd, prds, pwr, keptP, presAll, presOf, pone, Kd.w, Kd.spare, Obj.ver, peq, pparts, play, psl, pbnd, binV, intV, ↓reduceIte, Nat.reduceAdd, Nat.reduceSub, Nat.reduceEqDiff, Nat.reduceLT, Nat.reduceLeDiff, Nat.reduceMul, reduceCtorEq, plain, zeros]
        refine PAns.scalar (wrong_c _ _) (.plain rfl) rfl ?_
        try simp (disch := omega) only [PR, plen, pop, prd, prds, pwr, keptP, presAll, presOf, pone, Kd.w, Kd.spare, Obj.ver, peq, pparts, play, psl, pbnd, binV, intV, ↓reduceIte, Nat.reduceAdd, Nat.reduceSub, Nat.reduceEqDiff, Nat.reduceLT, Nat.reduceLeDiff, Nat.reduceMul, reduceCtorEq, plain, zeros, Bool.true_or]
        exact .v _
theorem short_c {p l : List Int} : Closed tab nopr 14 [pword p l] (PV.v (Value.bool (decide (p.length ≤ 70) && decide (l.length ≤ 70)))) := by
  refine Closed.of (mf := m14) rfl rfl rfl ?_
  by_cases h : p.length ≤ 70
  · by_cases h2 : l.length ≤ 70 <;> try simp (disch := omega) only [PR, plen, pop, prd, prds, pwr, keptP, presAll, presOf, pone, Kd.w, Kd.spare, Obj.ver, peq, pparts, play, psl, pbnd, binV, intV, ↓reduceIte, Nat.reduceAdd, Nat.reduceSub, Nat.reduceEqDiff, Nat.reduceLT, Nat.reduceLeDiff, Nat.reduceMul, reduceCtorEq, plain, zeros, m14, pword] <;> constructor
  · try simp (disch := omega) only [PR, plen, pop, prd, prds, pwr, keptP, presAll, presOf, pone, Kd.w, Kd.spare, Obj.ver, peq, pparts, play, psl, pbnd, binV, intV, ↓reduceIte, Nat.reduceAdd, Nat.reduceSub, Nat.reduceEqDiff, Nat.reduceLT, Nat.reduceLeDiff, Nat.reduceMul, reduceCtorEq, plain, zeros, m14, pword, Bool.false_and]
    constructor
/-- The letter of a word at a position. -/
def letterOf (ps ls : List Int) (i : Nat) : Int := if i < ps.length then ps.getD i 0 else ls.getD ((i - ps.length) % ls.length) 0
theorem letter_c {p l : List Int} (b1 : p.length ≤ 1000000) (b2 : l.length ≤ 1000000) (hne : 0 < l.length) (i : Nat) (hi : i < 4611686018427387904) : Closed tab nopr 69 [pword p l, (PV.v (Value.int IntKind.i64 (i)))] (PV.v (Value.int IntKind.i64 (letterOf p l i))) := by
  refine Closed.of (mf := m69) rfl rfl rfl ?_
  unfold letterOf
  by_cases h : i < p.length
  · try simp (disch := omega) only [PR, plen, pop, prd, prds, pwr, keptP, presAll, presOf, pone, Kd.w, Kd.spare, Obj.ver, peq, pparts, play, psl, pbnd, binV, intV, ↓reduceIte, Nat.reduceAdd, Nat.reduceSub, Nat.reduceEqDiff, Nat.reduceLT, Nat.reduceLeDiff, Nat.reduceMul, reduceCtorEq, plain, zeros, m69, pword]
    exact .v _
  · have hm : (((i - p.length : Nat) : Int)).tmod (l.length : Int) = (((i - p.length) % l.length : Nat) : Int) := (Int.ofNat_tmod _ _).symm
    have hs : (i : Int) - (p.length : Int) = ((i - p.length : Nat) : Int) := by omega
    have hz : ¬ ((l.length : Int) = 0) := by omega
    have hlt : (i - p.length) % l.length < l.length := Nat.mod_lt _ hne
    try simp (disch := omega) only [PR, plen, pop, prd, prds, pwr, keptP, presAll, presOf, pone, Kd.w, Kd.spare, Obj.ver, peq, pparts, play, psl, pbnd, binV, intV, ↓reduceIte, Nat.reduceAdd, Nat.reduceSub, Nat.reduceEqDiff, Nat.reduceLT, Nat.reduceLeDiff, Nat.reduceMul, reduceCtorEq, plain, zeros, m69, pword, hs, hm, hz]
    exact .v _
theorem letterOf_get {p l : List Int} {i : Nat} (hi : i < p.length + l.length) : (p ++ l).getD i 0 = letterOf p l i := by
  unfold letterOf
  rw [List.getD_eq_getElem?_getD, List.getElem?_append]
  split
  · rw [List.getD_eq_getElem?_getD]
  · rw [Nat.mod_eq_of_lt (by omega), List.getD_eq_getElem?_getD]
theorem refWordErr_c {p l : List Int} (b1 : p.length ≤ 1000000) (b2 : l.length ≤ 1000000) : Closed tab nopr 17 [pword p l] (PV.v (Value.int IntKind.i64 (wordErr p l))) := by
  refine Closed.of (mf := m17) rfl rfl rfl ?_
  by_cases e0 : l.length = 0
  · try simp (disch := omega) only [PR, plen, pop, prd, prds, pwr, keptP, presAll, presOf, pone, Kd.w, Kd.spare, Obj.ver, peq, pparts, play, psl, pbnd, binV, intV, ↓reduceIte, Nat.reduceAdd, Nat.reduceSub, Nat.reduceEqDiff, Nat.reduceLT, Nat.reduceLeDiff, Nat.reduceMul, reduceCtorEq, plain, zeros, m17, pword, wordErr, e0]
    exact .v _
  · by_cases e60 : p.length + l.length > 60
    · try simp (disch := omega) only [PR, plen, pop, prd, prds, pwr, keptP, presAll, presOf, pone, Kd.w, Kd.spare, Obj.ver, peq, pparts, play, psl, pbnd, binV, intV, ↓reduceIte, Nat.reduceAdd, Nat.reduceSub, Nat.reduceEqDiff, Nat.reduceLT, Nat.reduceLeDiff, Nat.reduceMul, reduceCtorEq, plain, zeros, m17, pword, wordErr, e0, e60]
      exact .v _
    · try simp (disch := omega) only [PR, plen, pop, prd, prds, pwr, keptP, presAll, presOf, pone, Kd.w, Kd.spare, Obj.ver, peq, pparts, play, psl, pbnd, binV, intV, ↓reduceIte, Nat.reduceAdd, Nat.reduceSub, Nat.reduceEqDiff, Nat.reduceLT, Nat.reduceLeDiff, Nat.reduceMul, reduceCtorEq, plain, zeros, m17, pword, wordErr, e0, e60]
      refine V_count (fun i pt st n => i ≤ p.length + l.length ∧ (∀ j, j < i → odd ((p ++ l).getD j 0) = false) ∧ pt 1 = .ptr 0 0 ∧ pt 3 = (PV.v (Value.int IntKind.i64 (i))) ∧ st 0 = .cells false .fix 0 [.sl p.length (pints p), .sl l.length (pints l)]) (p.length + l.length) ⟨by omega, fun j hj => absurd hj (by omega), rfl, rfl, rfl⟩ ?_
      rintro i pt st n hi ⟨_, hno, e1, e3, es⟩
      by_cases hlt : i < p.length + l.length
      · try simp (disch := omega) only [PR, plen, pop, prd, prds, pwr, keptP, presAll, presOf, pone, Kd.w, Kd.spare, Obj.ver, peq, pparts, play, psl, pbnd, binV, intV, ↓reduceIte, Nat.reduceAdd, Nat.reduceSub, Nat.reduceEqDiff, Nat.reduceLT, Nat.reduceLeDiff, Nat.reduceMul, reduceCtorEq, plain, zeros, e1, e3, es]
        refine PAns.scalar (letter_c b1 b2 (by omega) i (by omega)) (by repeat (first | exact PurL.nil | refine PurL.cons ?_ ?_ | exact Pur.v _ | exact Pur.sl _ _ | exact Pur.ep _ | exact Pur.fn _ rfl PurL.nil.2 | exact pword_pure _ _)) rfl ?_
        try simp (disch := omega) only [PR, plen, pop, prd, prds, pwr, keptP, presAll, presOf, pone, Kd.w, Kd.spare, Obj.ver, peq, pparts, play, psl, pbnd, binV, intV, ↓reduceIte, Nat.reduceAdd, Nat.reduceSub, Nat.reduceEqDiff, Nat.reduceLT, Nat.reduceLeDiff, Nat.reduceMul, reduceCtorEq, plain, zeros]
        refine PAns.scalar (between_c _ _ _) (.plain rfl) rfl ?_
        cases h : odd (letterOf p l i)
        · have hb : btw (letterOf p l i) 0 4095 = true := by simpa [odd] using h
          try simp (disch := omega) only [PR, plen, pop, prd, prds, pwr, keptP, presAll, presOf, pone, Kd.w, Kd.spare, Obj.ver, peq, pparts, play, psl, pbnd, binV, intV, ↓reduceIte, Nat.reduceAdd, Nat.reduceSub, Nat.reduceEqDiff, Nat.reduceLT, Nat.reduceLeDiff, Nat.reduceMul, reduceCtorEq, plain, zeros, e1, e3, es, hb]
          refine ⟨fun j hj => ?_, rfl⟩
          by_cases e : j = i
          · subst e; rw [letterOf_get hlt]; exact h
          · exact hno j (by omega)
        · have hb : btw (letterOf p l i) 0 4095 = false := by simpa only [odd, Bool.not_eq_true'] using h
          have : (p.any odd || l.any odd) = true := by
            rw [← List.any_append, List.any_eq_true]
            refine ⟨(p ++ l).getD i 0, ?_, by rw [letterOf_get hlt]; exact h⟩
            rw [List.getD_eq_getElem?_getD, List.getElem?_eq_getElem (by simpa using hlt)]
            exact List.getElem_mem _
          try simp (disch := omega) only [PR, plen, pop, prd, prds, pwr, keptP, presAll, presOf, pone, Kd.w, Kd.spare, Obj.ver, peq, pparts, play, psl, pbnd, binV, intV, ↓reduceIte, Nat.reduceAdd, Nat.reduceSub, Nat.reduceEqDiff, Nat.reduceLT, Nat.reduceLeDiff, Nat.reduceMul, reduceCtorEq, plain, zeros, e1, e3, es, hb, this]
          exact .v _
      · have : (p.any odd || l.any odd) = false := by
          rw [← List.any_append, List.any_eq_false]
          intro x hx
          obtain ⟨j, hj, rfl⟩ := List.mem_iff_getElem.1 hx
          have h2 := hno j (by rw [List.length_append] at hj; omega)
          rw [List.getD_eq_getElem?_getD, List.getElem?_eq_getElem hj] at h2
          simpa using h2
        try simp (disch := omega) only [PR, plen, pop, prd, prds, pwr, keptP, presAll, presOf, pone, Kd.w, Kd.spare, Obj.ver, peq, pparts, play, psl, pbnd, binV, intV, ↓reduceIte, Nat.reduceAdd, Nat.reduceSub, Nat.reduceEqDiff, Nat.reduceLT, Nat.reduceLeDiff, Nat.reduceMul, reduceCtorEq, plain, zeros, e1, e3, es, this]
        exact .v _
theorem equalInts_c {a b : List Int} (ha : a.length < 9223372036854775807) : Closed tab nopr 80 [.sl a.length (pints a), .sl b.length (pints b)] (PV.v (Value.bool (decide (a = b)))) := by
  refine Closed.of (mf := m80) rfl rfl rfl ?_
  by_cases hl : a.length = b.length
  · try simp (disch := omega) only [PR, plen, pop, prd, prds, pwr, keptP, presAll, presOf, pone, Kd.w, Kd.spare, Obj.ver, peq, pparts, play, psl, pbnd, binV, intV, ↓reduceIte, Nat.reduceAdd, Nat.reduceSub, Nat.reduceEqDiff, Nat.reduceLT, Nat.reduceLeDiff, Nat.reduceMul, reduceCtorEq, plain, zeros, m80, hl]
    refine V_count (fun i pt st n => i ≤ b.length ∧ (∀ j, j < i → a.getD j 0 = b.getD j 0) ∧ pt 0 = .sl b.length (pints a) ∧ pt 1 = .sl b.length (pints b) ∧ pt 5 = (PV.v (Value.int IntKind.i64 (i)))) b.length ⟨by omega, fun j hj => absurd hj (by omega), rfl, rfl, rfl⟩ ?_
    rintro i pt st n hi ⟨_, hno, e0, e1, e5⟩
    by_cases hlt : i < b.length
    · by_cases h : a.getD i 0 = b.getD i 0
      · try simp (disch := omega) only [PR, plen, pop, prd, prds, pwr, keptP, presAll, presOf, pone, Kd.w, Kd.spare, Obj.ver, peq, pparts, play, psl, pbnd, binV, intV, ↓reduceIte, Nat.reduceAdd, Nat.reduceSub, Nat.reduceEqDiff, Nat.reduceLT, Nat.reduceLeDiff, Nat.reduceMul, reduceCtorEq, plain, zeros, e0, e1, e5, h]
        refine ⟨fun j hj => ?_, rfl⟩
        by_cases e : j = i
        · subst e; exact h
        · exact hno j (by omega)
      · have hd : decide (a = b) = false := by rw [decide_eq_false_iff_not]; rintro rfl; exact h rfl
        try simp (disch := omega) only [PR, plen, pop, prd, prds, pwr, keptP, presAll, presOf, pone, Kd.w, Kd.spare, Obj.ver, peq, pparts, play, psl, pbnd, binV, intV, ↓reduceIte, Nat.reduceAdd, Nat.reduceSub, Nat.reduceEqDiff, Nat.reduceLT, Nat.reduceLeDiff, Nat.reduceMul, reduceCtorEq, plain, zeros, e0, e1, e5, h, hd]
        exact .v _
    · have hd : decide (a = b) = true := by
        rw [decide_eq_true_eq]
        apply List.ext_getElem hl
        intro j h1 h2
        have := hno j (by omega)
        simpa [List.getD_eq_getElem?_getD, h1, h2] using this
      try simp (disch := omega) only [PR, plen, pop, prd, prds, pwr, keptP, presAll, presOf, pone, Kd.w, Kd.spare, Obj.ver, peq, pparts, play, psl, pbnd, binV, intV, ↓reduceIte, Nat.reduceAdd, Nat.reduceSub, Nat.reduceEqDiff, Nat.reduceLT, Nat.reduceLeDiff, Nat.reduceMul, reduceCtorEq, plain, zeros, e0, e1, e5, hd]
      exact .v _
  · have hd : decide (a = b) = false := by rw [decide_eq_false_iff_not]; rintro rfl; exact hl rfl
    try simp (disch := omega) only [PR, plen, pop, prd, prds, pwr, keptP, presAll, presOf, pone, Kd.w, Kd.spare, Obj.ver, peq, pparts, play, psl, pbnd, binV, intV, ↓reduceIte, Nat.reduceAdd, Nat.reduceSub, Nat.reduceEqDiff, Nat.reduceLT, Nat.reduceLeDiff, Nat.reduceMul, reduceCtorEq, plain, zeros, m80, hd]
    exact .v _
theorem sameWord_c {p l p2 l2 : List Int} (b1 : p.length ≤ 1000000) (b2 : l.length ≤ 1000000) : Closed tab nopr 33 [pword p l, pword p2 l2] (PV.v (Value.bool (decide (p = p2) && decide (l = l2)))) := by
  refine Closed.of (mf := m33) rfl rfl rfl ?_
  try simp (disch := omega) only [PR, plen, pop, prd, prds, pwr, keptP, presAll, presOf, pone, Kd.w, Kd.spare, Obj.ver, peq, pparts, play, psl, pbnd, binV, intV, ↓reduceIte, Nat.reduceAdd, Nat.reduceSub, Nat.reduceEqDiff, Nat.reduceLT, Nat.reduceLeDiff, Nat.reduceMul, reduceCtorEq, plain, zeros, m33, pword]
  refine PAns.scalar (equalInts_c (a := p) (b := p2) (by omega)) (by repeat (first | exact PurL.nil | refine PurL.cons ?_ ?_ | exact Pur.v _ | exact Pur.sl _ _ | exact Pur.ep _ | exact Pur.fn _ rfl PurL.nil.2 | exact pword_pure _ _)) rfl ?_
  by_cases h : p = p2
  · have hd : decide (p = p2) = true := by simpa using h
    try simp (disch := omega) only [PR, plen, pop, prd, prds, pwr, keptP, presAll, presOf, pone, Kd.w, Kd.spare, Obj.ver, peq, pparts, play, psl, pbnd, binV, intV, ↓reduceIte, Nat.reduceAdd, Nat.reduceSub, Nat.reduceEqDiff, Nat.reduceLT, Nat.reduceLeDiff, Nat.reduceMul, reduceCtorEq, plain, zeros, hd]
    refine PAns.scalar (equalInts_c (a := l) (b := l2) (by omega)) (by repeat (first | exact PurL.nil | refine PurL.cons ?_ ?_ | exact Pur.v _ | exact Pur.sl _ _ | exact Pur.ep _ | exact Pur.fn _ rfl PurL.nil.2 | exact pword_pure _ _)) rfl ?_
    try simp (disch := omega) only [PR, plen, pop, prd, prds, pwr, keptP, presAll, presOf, pone, Kd.w, Kd.spare, Obj.ver, peq, pparts, play, psl, pbnd, binV, intV, ↓reduceIte, Nat.reduceAdd, Nat.reduceSub, Nat.reduceEqDiff, Nat.reduceLT, Nat.reduceLeDiff, Nat.reduceMul, reduceCtorEq, plain, zeros]
    exact .v _
  · have hd : decide (p = p2) = false := by simpa using h
    try simp (disch := omega) only [PR, plen, pop, prd, prds, pwr, keptP, presAll, presOf, pone, Kd.w, Kd.spare, Obj.ver, peq, pparts, play, psl, pbnd, binV, intV, ↓reduceIte, Nat.reduceAdd, Nat.reduceSub, Nat.reduceEqDiff, Nat.reduceLT, Nat.reduceLeDiff, Nat.reduceMul, reduceCtorEq, plain, zeros, hd, Bool.false_and]
    exact .v _
theorem ownWord_c {p l : List Int} (b1 : p.length ≤ 1000000) (b2 : l.length ≤ 1000000) : Closed tab nopr 16 [pword p l] (pword p l) := by
  refine Closed.of (mf := m16) rfl rfl rfl ?_
  try simp (disch := omega) only [PR, plen, pop, prd, prds, pwr, keptP, presAll, presOf, pone, Kd.w, Kd.spare, Obj.ver, peq, pparts, play, psl, pbnd, binV, intV, ↓reduceIte, Nat.reduceAdd, Nat.reduceSub, Nat.reduceEqDiff, Nat.reduceLT, Nat.reduceLeDiff, Nat.reduceMul, reduceCtorEq, plain, zeros, m16, pword]
  refine PAns.freshV (ownInts_c (l := p) (by omega)) (by repeat (first | exact PurL.nil | refine PurL.cons ?_ ?_ | exact Pur.v _ | exact Pur.sl _ _ | exact Pur.ep _ | exact Pur.fn _ rfl PurL.nil.2 | exact pword_pure _ _)) pints_V fun p1 st1 n1 h1 hn1 hk1 hw1 => ?_
  try simp (disch := omega) only [PR, plen, pop, prd, prds, pwr, keptP, presAll, presOf, pone, Kd.w, Kd.spare, Obj.ver, peq, pparts, play, psl, pbnd, binV, intV, ↓reduceIte, Nat.reduceAdd, Nat.reduceSub, Nat.reduceEqDiff, Nat.reduceLT, Nat.reduceLeDiff, Nat.reduceMul, reduceCtorEq, plain, zeros, hk1]
  refine PAns.freshV (ownInts_c (l := l) (by omega)) (by repeat (first | exact PurL.nil | refine PurL.cons ?_ ?_ | exact Pur.v _ | exact Pur.sl _ _ | exact Pur.ep _ | exact Pur.fn _ rfl PurL.nil.2 | exact pword_pure _ _)) pints_V fun p2 st2 n2 h2 hn2 hk2 hw2 => ?_
  try simp (disch := omega) only [PR, plen, pop, prd, prds, pwr, keptP, presAll, presOf, pone, Kd.w, Kd.spare, Obj.ver, peq, pparts, play, psl, pbnd, binV, intV, ↓reduceIte, Nat.reduceAdd, Nat.reduceSub, Nat.reduceEqDiff, Nat.reduceLT, Nat.reduceLeDiff, Nat.reduceMul, reduceCtorEq, plain, zeros, h1.pc, h2.pc, h1.pf, h2.pf, hk1, hk2]
  have g1 := h1.keep (st' := upd st2 1 (.cells false .fix 1 [p1, p2])) hn2 fun i o m c e => by
    have := hw1 _ _ _ _ e
    rw [upd_ne (by omega), hk2 i (h1.lt e)]
  have g2 := h2.keep (st' := upd st2 1 (.cells false .fix 1 [p1, p2])) (Nat.le_refl _) fun i o m c e => by
    have := hw2 _ _ _ _ e
    rw [upd_ne (by omega)]
  exact .agg rfl (PurL.cons (g1.pur (fun _ => trivial) (.plain pints_V)) (.cons (g2.pur (fun _ => trivial) (.plain pints_V)) .nil)).2
end Dm.YtmgehmhebnjaaaaGreatDoor
end
section
set_option maxRecDepth 100000
set_option linter.unusedSimpArgs false
namespace Dm.YtmgehmhebnjaaaaGreatDoor
open Go
/-- An append to a new, empty row. -/
theorem app_new {H : Heap} {e e0 bytes m : Nat} {new : List Value} (hl : new.length = m) (hb : m * bytes ≤ 140737488355328) :
    ∃ v H', appV (H ++ [.cells [] e0 .fix 0]) e 1 bytes (.slice (some ⟨H.length, 0, none⟩) 0 0) m new = some (v, H') ∧ More H H' ∧
      ∃ b kd, v = .slice (some ⟨b, 0, none⟩) m m ∧ H.length ≤ b ∧ (∃ e', H'[b]? = some (.cells new e' kd 0)) ∧ (kd = .fix ∨ kd = .loose 1) := by
  by_cases h0 : m = 0
  · subst h0
    have : new = [] := List.eq_nil_of_length_eq_zero hl
    subst this
    refine ⟨.slice (some ⟨H.length, 0, none⟩) 0 0, H ++ [.cells [] e0 .fix 0], by simp [appV], More.add _ _, H.length, .fix, rfl, Nat.le_refl _, ⟨e0, by simp⟩, .inl rfl⟩
  · refine ⟨.slice (some ⟨H.length + 1, 0, none⟩) m m, (H ++ [.cells [] e0 .fix 0]) ++ [.cells new e (.loose 1) 0], ?_, ⟨[.cells [] e0 .fix 0, .cells new e (.loose 1) 0], by simp⟩, H.length + 1, .loose 1, rfl, by omega, ⟨e, by simp⟩, .inr rfl⟩
    have h1 : ¬ m ≤ 0 := by omega
    simp only [appV, Nat.zero_add, h1, if_false, hb, if_true, Nat.zero_mul]
    have h2 : rds (H ++ [.cells [] e0 .fix 0]) H.length 0 0 = some [] := by simp [rds]
    have h3 : kdAt (H ++ [.cells [] e0 .fix 0]) H.length = .fix := by simp [kdAt]
    simp only [h2, h3, Kd.spare, List.nil_append, List.length_append, List.length_cons, List.length_nil]
theorem cloneInt_c {l : List Int} (hl : l.length ≤ 1000000000) : ClosedF tab nopr 78 [.sl l.length (pints l)] 1 l.length (pints l) := by
  intro B H as hB hA
  obtain ⟨s, rfl⟩ : ∃ s, as = [s] := by
    obtain ⟨h1, _⟩ := hA
    match as, h1 with
    | [s], _ => exact ⟨s, rfl⟩
  have hs := hA.2 0 _ _ rfl rfl
  refine Ans.fn (mf := m78) rfl rfl ?_
  rcases hs.slc (sz := 1) (by simp [pints_length]) with ⟨c, rfl, h0⟩ | ⟨a, cs', c, rfl, hr, q1, q2, q3⟩
  · simp only [W_seq, W_reg, W_dreg, W_skip, W_ite, W_blk, W_exit, wIte_true, wIte_false, InBlk_normal, InBlk_ret, InBlk_exit, Then_exit, Fun_normal, Wos_mv, Wos_bin, Wos_pick, Wos_chk, Wos_eq, Wos_not, Wos_neg, Wos_cvt, Wos_fld, Wos_flds, Wos_fa, Wos_ia, Wos_ix, Wos_ld, Wos_ld_k, Wos_lds, Wos_lds_k, Wos_len, Wos_slen, Wos_ext, Wos_iface, Wos_fn, Wos_call, Wos_nil, Wos_guard, guardOf, wIf, Nrm_eq, Then_normal, W_ret, Then_ret, Fun_ret, ev, opV, put, ptr, wSt_some, wSt_ite, wSt_map, tgtOf_fn, tgtOf_yield, wTgt_some, List.map_cons, List.map_nil, List.length_cons, List.length_nil, List.replicate, List.cons_append, List.nil_append, List.append_nil, List.getD_cons_succ, List.getD_cons_zero, List.set_cons_succ, List.set_cons_zero, binV, intV, Option.map_some, beq_self_eq_true, if_true, if_false, Nat.reduceAdd, Nat.reduceSub, Nat.reduceEqDiff, resAll, resOf, one, Option.some.injEq, exists_eq_left', Round_exit, Round_ret, Round_normal, List.all_nil, true_and, reduceCtorEq, eq_self, List.toList_toArray, List.getElem?_cons_zero, List.getElem?_cons_succ, kept, List.all_cons, Bool.and_true, Bool.true_and, wKeep_some, wKeep_ite, wKeep_map, decide_eq_true_eq, decide_true, Bool.and_self, eqV, Option.isNone_none, Option.isNone_some, Bool.false_eq_true, Nat.lt_add_one, m78]
    exact ⟨More.refl H, by simp [pints_length], .inl ⟨rfl, h0⟩⟩
  · simp only [W_seq, W_reg, W_dreg, W_skip, W_ite, W_blk, W_exit, wIte_true, wIte_false, InBlk_normal, InBlk_ret, InBlk_exit, Then_exit, Fun_normal, Wos_mv, Wos_bin, Wos_pick, Wos_chk, Wos_eq, Wos_not, Wos_neg, Wos_cvt, Wos_fld, Wos_flds, Wos_fa, Wos_ia, Wos_ix, Wos_ld, Wos_ld_k, Wos_lds, Wos_lds_k, Wos_len, Wos_slen, Wos_ext, Wos_iface, Wos_fn, Wos_call, Wos_nil, Wos_guard, guardOf, wIf, Nrm_eq, Then_normal, W_ret, Then_ret, Fun_ret, ev, opV, put, ptr, wSt_some, wSt_ite, wSt_map, tgtOf_fn, tgtOf_yield, wTgt_some, List.map_cons, List.map_nil, List.length_cons, List.length_nil, List.replicate, List.cons_append, List.nil_append, List.append_nil, List.getD_cons_succ, List.getD_cons_zero, List.set_cons_succ, List.set_cons_zero, binV, intV, Option.map_some, beq_self_eq_true, if_true, if_false, Nat.reduceAdd, Nat.reduceSub, Nat.reduceEqDiff, resAll, resOf, one, Option.some.injEq, exists_eq_left', Round_exit, Round_ret, Round_normal, List.all_nil, true_and, reduceCtorEq, eq_self, List.toList_toArray, List.getElem?_cons_zero, List.getElem?_cons_succ, kept, List.all_cons, Bool.and_true, Bool.true_and, wKeep_some, wKeep_ite, wKeep_map, decide_eq_true_eq, decide_true, Bool.and_self, eqV, Option.isNone_none, Option.isNone_some, Bool.false_eq_true, Nat.lt_add_one, m78]
    refine lit_ok (cs := []) rfl rfl ?_
    simp only [W_seq, W_reg, W_dreg, W_skip, W_ite, W_blk, W_exit, wIte_true, wIte_false, InBlk_normal, InBlk_ret, InBlk_exit, Then_exit, Fun_normal, Wos_mv, Wos_bin, Wos_pick, Wos_chk, Wos_eq, Wos_not, Wos_neg, Wos_cvt, Wos_fld, Wos_flds, Wos_fa, Wos_ia, Wos_ix, Wos_ld, Wos_ld_k, Wos_lds, Wos_lds_k, Wos_len, Wos_slen, Wos_ext, Wos_iface, Wos_fn, Wos_call, Wos_nil, Wos_guard, guardOf, wIf, Nrm_eq, Then_normal, W_ret, Then_ret, Fun_ret, ev, opV, put, ptr, wSt_some, wSt_ite, wSt_map, tgtOf_fn, tgtOf_yield, wTgt_some, List.map_cons, List.map_nil, List.length_cons, List.length_nil, List.replicate, List.cons_append, List.nil_append, List.append_nil, List.getD_cons_succ, List.getD_cons_zero, List.set_cons_succ, List.set_cons_zero, binV, intV, Option.map_some, beq_self_eq_true, if_true, if_false, Nat.reduceAdd, Nat.reduceSub, Nat.reduceEqDiff, resAll, resOf, one, Option.some.injEq, exists_eq_left', Round_exit, Round_ret, Round_normal, List.all_nil, true_and, reduceCtorEq, eq_self, List.toList_toArray, List.getElem?_cons_zero, List.getElem?_cons_succ, kept, List.all_cons, Bool.and_true, Bool.true_and, wKeep_some, wKeep_ite, wKeep_map, decide_eq_true_eq, decide_true, Bool.and_self, eqV, Option.isNone_none, Option.isNone_some, Bool.false_eq_true, Nat.lt_add_one]
    rw [Wos_app]
    have q2' : ∀ o, srcCells (H ++ [o]) 1 l.length (.slice (some a) l.length c) = some cs' := by
      intro o
      obtain ⟨b, o', sp⟩ := a
      cases sp with
      | some k => exact q2
      | none =>
        simp only [srcCells] at q2 ⊢
        split
        · rename_i h; rw [if_pos h] at q2; exact q2
        · rename_i h; rw [if_neg h] at q2; exact (More.add H [o]).rds q2
    obtain ⟨v, H', z1, z2, b, kd, rfl, z3, ⟨e', z4⟩, z5⟩ := app_new (H := H) (e := 3) (e0 := 3) (bytes := 8) (new := cs') (m := l.length) (by omega) (by omega)
    simp only [W_seq, W_reg, W_dreg, W_skip, W_ite, W_blk, W_exit, wIte_true, wIte_false, InBlk_normal, InBlk_ret, InBlk_exit, Then_exit, Fun_normal, Wos_mv, Wos_bin, Wos_pick, Wos_chk, Wos_eq, Wos_not, Wos_neg, Wos_cvt, Wos_fld, Wos_flds, Wos_fa, Wos_ia, Wos_ix, Wos_ld, Wos_ld_k, Wos_lds, Wos_lds_k, Wos_len, Wos_slen, Wos_ext, Wos_iface, Wos_fn, Wos_call, Wos_nil, Wos_guard, guardOf, wIf, Nrm_eq, Then_normal, W_ret, Then_ret, Fun_ret, ev, opV, put, ptr, wSt_some, wSt_ite, wSt_map, tgtOf_fn, tgtOf_yield, wTgt_some, List.map_cons, List.map_nil, List.length_cons, List.length_nil, List.replicate, List.cons_append, List.nil_append, List.append_nil, List.getD_cons_succ, List.getD_cons_zero, List.set_cons_succ, List.set_cons_zero, binV, intV, Option.map_some, beq_self_eq_true, if_true, if_false, Nat.reduceAdd, Nat.reduceSub, Nat.reduceEqDiff, resAll, resOf, one, Option.some.injEq, exists_eq_left', Round_exit, Round_ret, Round_normal, List.all_nil, true_and, reduceCtorEq, eq_self, List.toList_toArray, List.getElem?_cons_zero, List.getElem?_cons_succ, kept, List.all_cons, Bool.and_true, Bool.true_and, wKeep_some, wKeep_ite, wKeep_map, decide_eq_true_eq, decide_true, Bool.and_self, eqV, Option.isNone_none, Option.isNone_some, Bool.false_eq_true, Nat.lt_add_one, q1, q2', q3, z1]
    refine ⟨z2, by simp [pints_length], .inr ⟨b, l.length, [], cs', e', kd, 0, rfl, Nat.le_refl _, by omega, z3, z4, by simp [pints_length], z5, rfl, ?_⟩⟩
    rw [List.append_nil]
    exact RepV.plainAll pints_V hr.1 hr.2
theorem cloneBool_c {l : List Bool} (hl : l.length ≤ 1000000000) : ClosedF tab nopr 71 [.sl l.length (pbools l)] 1 l.length (pbools l) := by
  intro B H as hB hA
  obtain ⟨s, rfl⟩ : ∃ s, as = [s] := by
    obtain ⟨h1, _⟩ := hA
    match as, h1 with
    | [s], _ => exact ⟨s, rfl⟩
  have hs := hA.2 0 _ _ rfl rfl
  refine Ans.fn (mf := m71) rfl rfl ?_
  rcases hs.slc (sz := 1) (by simp [pbools_length]) with ⟨c, rfl, h0⟩ | ⟨a, cs', c, rfl, hr, q1, q2, q3⟩
  · simp only [W_seq, W_reg, W_dreg, W_skip, W_ite, W_blk, W_exit, wIte_true, wIte_false, InBlk_normal, InBlk_ret, InBlk_exit, Then_exit, Fun_normal, Wos_mv, Wos_bin, Wos_pick, Wos_chk, Wos_eq, Wos_not, Wos_neg, Wos_cvt, Wos_fld, Wos_flds, Wos_fa, Wos_ia, Wos_ix, Wos_ld, Wos_ld_k, Wos_lds, Wos_lds_k, Wos_len, Wos_slen, Wos_ext, Wos_iface, Wos_fn, Wos_call, Wos_nil, Wos_guard, guardOf, wIf, Nrm_eq, Then_normal, W_ret, Then_ret, Fun_ret, ev, opV, put, ptr, wSt_some, wSt_ite, wSt_map, tgtOf_fn, tgtOf_yield, wTgt_some, List.map_cons, List.map_nil, List.length_cons, List.length_nil, List.replicate, List.cons_append, List.nil_append, List.append_nil, List.getD_cons_succ, List.getD_cons_zero, List.set_cons_succ, List.set_cons_zero, binV, intV, Option.map_some, beq_self_eq_true, if_true, if_false, Nat.reduceAdd, Nat.reduceSub, Nat.reduceEqDiff, resAll, resOf, one, Option.some.injEq, exists_eq_left', Round_exit, Round_ret, Round_normal, List.all_nil, true_and, reduceCtorEq, eq_self, List.toList_toArray, List.getElem?_cons_zero, List.getElem?_cons_succ, kept, List.all_cons, Bool.and_true, Bool.true_and, wKeep_some, wKeep_ite, wKeep_map, decide_eq_true_eq, decide_true, Bool.and_self, eqV, Option.isNone_none, Option.isNone_some, Bool.false_eq_true, Nat.lt_add_one, m71]
    exact ⟨More.refl H, by simp [pbools_length], .inl ⟨rfl, h0⟩⟩
  · simp only [W_seq, W_reg, W_dreg, W_skip, W_ite, W_blk, W_exit, wIte_true, wIte_false, InBlk_normal, InBlk_ret, InBlk_exit, Then_exit, Fun_normal, Wos_mv, Wos_bin, Wos_pick, Wos_chk, Wos_eq, Wos_not, Wos_neg, Wos_cvt, Wos_fld, Wos_flds, Wos_fa, Wos_ia, Wos_ix, Wos_ld, Wos_ld_k, Wos_lds, Wos_lds_k, Wos_len, Wos_slen, Wos_ext, Wos_iface, Wos_fn, Wos_call, Wos_nil, Wos_guard, guardOf, wIf, Nrm_eq, Then_normal, W_ret, Then_ret, Fun_ret, ev, opV, put, ptr, wSt_some, wSt_ite, wSt_map, tgtOf_fn, tgtOf_yield, wTgt_some, List.map_cons, List.map_nil, List.length_cons, List.length_nil, List.replicate, List.cons_append, List.nil_append, List.append_nil, List.getD_cons_succ, List.getD_cons_zero, List.set_cons_succ, List.set_cons_zero, binV, intV, Option.map_some, beq_self_eq_true, if_true, if_false, Nat.reduceAdd, Nat.reduceSub, Nat.reduceEqDiff, resAll, resOf, one, Option.some.injEq, exists_eq_left', Round_exit, Round_ret, Round_normal, List.all_nil, true_and, reduceCtorEq, eq_self, List.toList_toArray, List.getElem?_cons_zero, List.getElem?_cons_succ, kept, List.all_cons, Bool.and_true, Bool.true_and, wKeep_some, wKeep_ite, wKeep_map, decide_eq_true_eq, decide_true, Bool.and_self, eqV, Option.isNone_none, Option.isNone_some, Bool.false_eq_true, Nat.lt_add_one, m71]
    refine lit_ok (cs := []) rfl rfl ?_
    simp only [W_seq, W_reg, W_dreg, W_skip, W_ite, W_blk, W_exit, wIte_true, wIte_false, InBlk_normal, InBlk_ret, InBlk_exit, Then_exit, Fun_normal, Wos_mv, Wos_bin, Wos_pick, Wos_chk, Wos_eq, Wos_not, Wos_neg, Wos_cvt, Wos_fld, Wos_flds, Wos_fa, Wos_ia, Wos_ix, Wos_ld, Wos_ld_k, Wos_lds, Wos_lds_k, Wos_len, Wos_slen, Wos_ext, Wos_iface, Wos_fn, Wos_call, Wos_nil, Wos_guard, guardOf, wIf, Nrm_eq, Then_normal, W_ret, Then_ret, Fun_ret, ev, opV, put, ptr, wSt_some, wSt_ite, wSt_map, tgtOf_fn, tgtOf_yield, wTgt_some, List.map_cons, List.map_nil, List.length_cons, List.length_nil, List.replicate, List.cons_append, List.nil_append, List.append_nil, List.getD_cons_succ, List.getD_cons_zero, List.set_cons_succ, List.set_cons_zero, binV, intV, Option.map_some, beq_self_eq_true, if_true, if_false, Nat.reduceAdd, Nat.reduceSub, Nat.reduceEqDiff, resAll, resOf, one, Option.some.injEq, exists_eq_left', Round_exit, Round_ret, Round_normal, List.all_nil, true_and, reduceCtorEq, eq_self, List.toList_toArray, List.getElem?_cons_zero, List.getElem?_cons_succ, kept, List.all_cons, Bool.and_true, Bool.true_and, wKeep_some, wKeep_ite, wKeep_map, decide_eq_true_eq, decide_true, Bool.and_self, eqV, Option.isNone_none, Option.isNone_some, Bool.false_eq_true, Nat.lt_add_one]
    rw [Wos_app]
    have q2' : ∀ o, srcCells (H ++ [o]) 1 l.length (.slice (some a) l.length c) = some cs' := by
      intro o
      obtain ⟨b, o', sp⟩ := a
      cases sp with
      | some k => exact q2
      | none =>
        simp only [srcCells] at q2 ⊢
        split
        · rename_i h; rw [if_pos h] at q2; exact q2
        · rename_i h; rw [if_neg h] at q2; exact (More.add H [o]).rds q2
    obtain ⟨v, H', z1, z2, b, kd, rfl, z3, ⟨e', z4⟩, z5⟩ := app_new (H := H) (e := 4) (e0 := 4) (bytes := 1) (new := cs') (m := l.length) (by omega) (by omega)
    simp only [W_seq, W_reg, W_dreg, W_skip, W_ite, W_blk, W_exit, wIte_true, wIte_false, InBlk_normal, InBlk_ret, InBlk_exit, Then_exit, Fun_normal, Wos_mv, Wos_bin, Wos_pick, Wos_chk, Wos_eq, Wos_not, Wos_neg, Wos_cvt, Wos_fld, Wos_flds, Wos_fa, Wos_ia, Wos_ix, Wos_ld, Wos_ld_k, Wos_lds, Wos_lds_k, Wos_len, Wos_slen, Wos_ext, Wos_iface, Wos_fn, Wos_call, Wos_nil, Wos_guard, guardOf, wIf, Nrm_eq, Then_normal, W_ret, Then_ret, Fun_ret, ev, opV, put, ptr, wSt_some, wSt_ite, wSt_map, tgtOf_fn, tgtOf_yield, wTgt_some, List.map_cons, List.map_nil, List.length_cons, List.length_nil, List.replicate, List.cons_append, List.nil_append, List.append_nil, List.getD_cons_succ, List.getD_cons_zero, List.set_cons_succ, List.set_cons_zero, binV, intV, Option.map_some, beq_self_eq_true, if_true, if_false, Nat.reduceAdd, Nat.reduceSub, Nat.reduceEqDiff, resAll, resOf, one, Option.some.injEq, exists_eq_left', Round_exit, Round_ret, Round_normal, List.all_nil, true_and, reduceCtorEq, eq_self, List.toList_toArray, List.getElem?_cons_zero, List.getElem?_cons_succ, kept, List.all_cons, Bool.and_true, Bool.true_and, wKeep_some, wKeep_ite, wKeep_map, decide_eq_true_eq, decide_true, Bool.and_self, eqV, Option.isNone_none, Option.isNone_some, Bool.false_eq_true, Nat.lt_add_one, q1, q2', q3, z1]
    refine ⟨z2, by simp [pbools_length], .inr ⟨b, l.length, [], cs', e', kd, 0, rfl, Nat.le_refl _, by omega, z3, z4, by simp [pbools_length], z5, rfl, ?_⟩⟩
    rw [List.append_nil]
    exact RepV.plainAll pbools_V hr.1 hr.2
theorem equalInt_c {a b : List Int} (ha : a.length < 9223372036854775807) : Closed tab nopr 136 [.sl a.length (pints a), .sl b.length (pints b)] (PV.v (Value.bool (decide (a = b)))) := by
  refine Closed.of (mf := m136) rfl rfl rfl ?_
  by_cases hl : a.length = b.length
  · try simp (disch := omega) only [PR, plen, pop, prd, prds, pwr, keptP, presAll, presOf, pone, Kd.w, Kd.spare, Obj.ver, peq, pparts, play, psl, pbnd, binV, intV, ↓reduceIte, Nat.reduceAdd, Nat.reduceSub, Nat.reduceEqDiff, Nat.reduceLT, Nat.reduceLeDiff, Nat.reduceMul, reduceCtorEq, plain, zeros, m136, hl]
    refine V_count (fun i pt st n => i ≤ b.length ∧ (∀ j, j < i → a.getD j 0 = b.getD j 0) ∧ pt 0 = .sl b.length (pints a) ∧ pt 1 = .sl b.length (pints b) ∧ pt 12 = (PV.v (Value.int IntKind.i64 (b.length))) ∧ pt 13 = (PV.v (Value.int IntKind.i64 (i)))) b.length ⟨by omega, fun j hj => absurd hj (by omega), rfl, rfl, rfl, rfl⟩ ?_
    rintro i pt st n hi ⟨_, hno, e0, e1, e12, e13⟩
    by_cases hlt : i < b.length
    · by_cases h : a.getD i 0 = b.getD i 0
      · try simp (disch := omega) only [PR, plen, pop, prd, prds, pwr, keptP, presAll, presOf, pone, Kd.w, Kd.spare, Obj.ver, peq, pparts, play, psl, pbnd, binV, intV, ↓reduceIte, Nat.reduceAdd, Nat.reduceSub, Nat.reduceEqDiff, Nat.reduceLT, Nat.reduceLeDiff, Nat.reduceMul, reduceCtorEq, plain, zeros, e0, e1, e12, e13, h]
        refine ⟨fun j hj => ?_, rfl⟩
        by_cases e : j = i
        · subst e; exact h
        · exact hno j (by omega)
      · have hd : decide (a = b) = false := by rw [decide_eq_false_iff_not]; rintro rfl; exact h rfl
        try simp (disch := omega) only [PR, plen, pop, prd, prds, pwr, keptP, presAll, presOf, pone, Kd.w, Kd.spare, Obj.ver, peq, pparts, play, psl, pbnd, binV, intV, ↓reduceIte, Nat.reduceAdd, Nat.reduceSub, Nat.reduceEqDiff, Nat.reduceLT, Nat.reduceLeDiff, Nat.reduceMul, reduceCtorEq, plain, zeros, e0, e1, e12, e13, h, hd]
        exact .v _
    · have hd : decide (a = b) = true := by
        rw [decide_eq_true_eq]
        apply List.ext_getElem hl
        intro j h1 h2
        have := hno j (by omega)
        simpa [List.getD_eq_getElem?_getD, h1, h2] using this
      try simp (disch := omega) only [PR, plen, pop, prd, prds, pwr, keptP, presAll, presOf, pone, Kd.w, Kd.spare, Obj.ver, peq, pparts, play, psl, pbnd, binV, intV, ↓reduceIte, Nat.reduceAdd, Nat.reduceSub, Nat.reduceEqDiff, Nat.reduceLT, Nat.reduceLeDiff, Nat.reduceMul, reduceCtorEq, plain, zeros, e0, e1, e12, e13, hd]
      exact .v _
  · have hd : decide (a = b) = false := by rw [decide_eq_false_iff_not]; rintro rfl; exact hl rfl
    try simp (disch := omega) only [PR, plen, pop, prd, prds, pwr, keptP, presAll, presOf, pone, Kd.w, Kd.spare, Obj.ver, peq, pparts, play, psl, pbnd, binV, intV, ↓reduceIte, Nat.reduceAdd, Nat.reduceSub, Nat.reduceEqDiff, Nat.reduceLT, Nat.reduceLeDiff, Nat.reduceMul, reduceCtorEq, plain, zeros, m136, hd]
    exact .v _
theorem u64_lo (x : Nat) (h : x < 4294967296) : IntKind.u64.wrap ((BitVec.ofInt IntKind.u64.bits (x : Int) &&& BitVec.ofInt IntKind.u64.bits 4294967295).toNat : Nat) = x := by
  have h1 : (BitVec.ofInt IntKind.u64.bits (x : Int)).toNat = x := by
    show (BitVec.ofInt 64 (x : Int)).toNat = x
    rw [BitVec.ofInt_natCast, BitVec.toNat_ofNat]
    omega
  have h2 : (BitVec.ofInt IntKind.u64.bits 4294967295).toNat = 2 ^ 32 - 1 := rfl
  rw [BitVec.toNat_and, h1, h2, Nat.and_two_pow_sub_one_eq_mod, Nat.mod_eq_of_lt h]
  simp only [IntKind.wrap, IntKind.bits, IntKind.signed]
  simp
  omega
theorem u64_wrap (x : Nat) (h : x < 18446744073709551616) : IntKind.u64.wrap (x : Int) = x := by
  simp only [IntKind.wrap, IntKind.bits, IntKind.signed]
  simp
  omega
theorem u64_hi (x : Nat) (h : x < 4294967296) : ((x : Int)).fdiv (2 ^ min (Int.toNat 32) IntKind.u64.bits) = 0 := by
  show ((x : Int)).fdiv (2 ^ 32) = 0
  rw [Int.fdiv_eq_ediv_of_nonneg _ (by decide)]
  omega
/-- The product of two small numbers does not pass 64 bits. -/
theorem mul64_c {a b : Nat} (ha : a ≤ 60000) (hb : b ≤ 60000) : Closed tab nopr 174 [.v (.int .u64 a), .v (.int .u64 b)] (.tup [.v (.int .u64 0), .v (.int .u64 (a * b : Nat))]) := by
  have hab : a * b ≤ 60000 * 60000 := Nat.mul_le_mul ha hb
  refine Closed.of (mf := m174) rfl rfl rfl ?_
  try simp (disch := omega) only [PR, plen, pop, prd, prds, pwr, keptP, presAll, presOf, pone, Kd.w, Kd.spare, Obj.ver, peq, pparts, play, psl, pbnd, binV, intV, ↓reduceIte, Nat.reduceAdd, Nat.reduceSub, Nat.reduceEqDiff, Nat.reduceLT, Nat.reduceLeDiff, Nat.reduceMul, reduceCtorEq, plain, zeros, m174, shV]
  have e1 : (a : Int) * (b : Int) = ((a * b : Nat) : Int) := by simp
  have z : (0 : Int) = ((0 : Nat) : Int) := rfl
  rw [u64_lo a (by omega), u64_lo b (by omega), u64_hi a (by omega), u64_hi b (by omega), e1, u64_wrap (a * b) (by omega), u64_hi (a * b) (by omega)]
  have w0 : IntKind.u64.wrap 0 = 0 := rfl
  have f0 : (0 : Int).fdiv (2 ^ min (Int.toNat 32) IntKind.u64.bits) = 0 := rfl
  have l0 : IntKind.u64.wrap ((BitVec.ofInt IntKind.u64.bits 0 &&& BitVec.ofInt IntKind.u64.bits 4294967295).toNat : Nat) = 0 := rfl
  simp only [Int.mul_zero, Int.zero_mul, Int.add_zero, w0, f0, l0]
  exact .tup rfl (PurL.plain rfl).2
theorem mul_c {a b : Nat} (ha : a ≤ 60000) (hb : b ≤ 60000) : Closed tab nopr 156 [.v (.int .u64 a), .v (.int .u64 b)] (.tup [.v (.int .u64 0), .v (.int .u64 (a * b : Nat))]) := by
  refine Closed.of (mf := m156) rfl rfl rfl ?_
  try simp (disch := omega) only [PR, plen, pop, prd, prds, pwr, keptP, presAll, presOf, pone, Kd.w, Kd.spare, Obj.ver, peq, pparts, play, psl, pbnd, binV, intV, ↓reduceIte, Nat.reduceAdd, Nat.reduceSub, Nat.reduceEqDiff, Nat.reduceLT, Nat.reduceLeDiff, Nat.reduceMul, reduceCtorEq, plain, zeros, m156]
  refine PAns.scalar (mul64_c ha hb) (.plain rfl) rfl ?_
  try simp (disch := omega) only [PR, plen, pop, prd, prds, pwr, keptP, presAll, presOf, pone, Kd.w, Kd.spare, Obj.ver, peq, pparts, play, psl, pbnd, binV, intV, ↓reduceIte, Nat.reduceAdd, Nat.reduceSub, Nat.reduceEqDiff, Nat.reduceLT, Nat.reduceLeDiff, Nat.reduceMul, reduceCtorEq, plain, zeros]
  exact .tup rfl (PurL.plain rfl).2
/-- A list, so many times. -/
def times {α : Type} (l : List α) : Nat → List α
  | 0 => []
  | k + 1 => l ++ times l k
theorem times_length {α : Type} (l : List α) (k : Nat) : (times l k).length = l.length * k := by
  induction k with
  | zero => rfl
  | succ k ih => simp [times, ih, Nat.mul_succ]; omega
theorem times_get {l : List Int} {k j : Nat} (h : j < l.length * k) : (times l k).getD j 0 = l.getD (j % l.length) 0 := by
  induction k generalizing j with
  | zero => simp at h
  | succ k ih =>
    rw [List.getD_eq_getElem?_getD, times, List.getElem?_append]
    split
    · rename_i hj
      rw [Nat.mod_eq_of_lt hj, List.getD_eq_getElem?_getD]
    · rename_i hj
      rw [Nat.mul_succ] at h
      rw [← List.getD_eq_getElem?_getD, ih (by omega), ← Nat.mod_eq_sub_mod (by omega)]
theorem getD_take_append {a b : List Int} {o j : Nat} (ho : o ≤ a.length) : (a.take o ++ b).getD j 0 = if j < o then a.getD j 0 else b.getD (j - o) 0 := by
  rw [List.getD_eq_getElem?_getD, List.getElem?_append]
  have : (a.take o).length = o := by simp; omega
  rw [this]
  split
  · rename_i h; rw [List.getElem?_take, if_pos h, List.getD_eq_getElem?_getD]
  · rw [List.getD_eq_getElem?_getD]
theorem repeatInt_c {l : List Int} {k : Nat} (hl : l.length ≤ 60000) (hk : k ≤ 60000) : ClosedF tab nopr 113 [.sl l.length (pints l), (PV.v (Value.int IntKind.i64 (k)))] 1 (l.length * k) (pints (times l k)) := by
  refine ClosedF.of (mf := m113) rfl rfl rfl ?_
  try simp (disch := omega) only [PR, plen, pop, prd, prds, pwr, keptP, presAll, presOf, pone, Kd.w, Kd.spare, Obj.ver, peq, pparts, play, psl, pbnd, binV, intV, ↓reduceIte, Nat.reduceAdd, Nat.reduceSub, Nat.reduceEqDiff, Nat.reduceLT, Nat.reduceLeDiff, Nat.reduceMul, reduceCtorEq, plain, zeros, m113]
  rw [u64_wrap _ (by omega), u64_wrap _ (by omega)]
  have hN : l.length * k ≤ 60000 * 60000 := Nat.mul_le_mul hl hk
  refine PAns.scalar (mul_c hl hk) (.plain rfl) rfl ?_
  have hc : IntKind.i64.wrap ((l.length * k : Nat) : Int) = ((l.length * k : Nat) : Int) := wrap_id (by omega) (by omega)
  generalize hNN : l.length * k = N at *
  try simp (disch := omega) only [PR, plen, pop, prd, prds, pwr, keptP, presAll, presOf, pone, Kd.w, Kd.spare, Obj.ver, peq, pparts, play, psl, pbnd, binV, intV, ↓reduceIte, Nat.reduceAdd, Nat.reduceSub, Nat.reduceEqDiff, Nat.reduceLT, Nat.reduceLeDiff, Nat.reduceMul, reduceCtorEq, plain, zeros, hc]
  have hz : (zeros [Value.int IntKind.i64 0] N).map PV.v = pints (List.replicate N 0) := by
    clear hNN hc hN
    induction N with
    | zero => rfl
    | succ N ih => simp only [zeros, List.cons_append, List.nil_append, List.map_cons, ih, List.replicate_succ, pints]
  try simp (disch := omega) only [PR, plen, pop, prd, prds, pwr, keptP, presAll, presOf, pone, Kd.w, Kd.spare, Obj.ver, peq, pparts, play, psl, pbnd, binV, intV, ↓reduceIte, Nat.reduceAdd, Nat.reduceSub, Nat.reduceEqDiff, Nat.reduceLT, Nat.reduceLeDiff, Nat.reduceMul, reduceCtorEq, plain, zeros, hz]
  refine cpy_ints (p := .sl l.length (pints l)) (new := l.take (min l.length N)) (L := List.replicate N 0) (kd := .fix) (vr := 0) rfl rfl rfl ?_ (by simp) rfl rfl (by simp; omega) fun st' v' hs _ => ?_
  · have h2 : min l.length N ≤ l.length := Nat.min_le_left _ _
    simp only [pcop, pints_length, Nat.mul_one, h2, and_self, if_true, pints_take]
  try simp (disch := omega) only [PR, plen, pop, prd, prds, pwr, keptP, presAll, presOf, pone, Kd.w, Kd.spare, Obj.ver, peq, pparts, play, psl, pbnd, binV, intV, ↓reduceIte, Nat.reduceAdd, Nat.reduceSub, Nat.reduceEqDiff, Nat.reduceLT, Nat.reduceLeDiff, Nat.reduceMul, reduceCtorEq, plain, zeros]
  have hdiv : N = 0 ∨ (1 ≤ k ∧ 1 ≤ l.length ∧ l.length ≤ N) := by
    by_cases h0 : k = 0
    · subst h0; left; simpa using hNN.symm
    · by_cases h1 : l.length = 0
      · rw [h1] at hNN; left; simpa using hNN.symm
      · right; refine ⟨by omega, by omega, ?_⟩; rw [← hNN]; exact Nat.le_mul_of_pos_right _ (by omega)
  have hper : ∀ j, j < N → (times l k).getD j 0 = l.getD (j % l.length) 0 := fun j hj => times_get (by rw [hNN]; exact hj)
  refine V_loop (fun r pt st n => ∃ m L v, r = N - m ∧ m ≤ N ∧ (m = N ∨ (l.length ∣ m ∧ 0 < m)) ∧ L.length = N ∧ (∀ j, j < m → L.getD j 0 = l.getD (j % l.length) 0) ∧ pt 7 = .row 0 0 N N ∧ pt 8 = (PV.v (Value.int IntKind.i64 (m))) ∧ st 0 = .cells false .fix v (pints L)) (N - min l.length N) ⟨min l.length N, _, v', rfl, Nat.min_le_right _ _, ?_, ?_, ?_, rfl, rfl, hs⟩ ?_
  · rcases hdiv with h | ⟨h1, h2, h3⟩
    · left; omega
    · right; rw [Nat.min_eq_left h3]; exact ⟨Nat.dvd_refl _, h2⟩
  · simp; omega
  · intro j hj
    have hj1 : j < l.length := by omega
    rw [Nat.mod_eq_of_lt hj1, List.take_zero, List.nil_append, List.getD_eq_getElem?_getD, List.getElem?_append_left (by simp; omega), List.getElem?_take, if_pos hj, List.getD_eq_getElem?_getD]
  rintro r pt st n ⟨m, L, v, rfl, hm, hd, hL, hLj, e7, e8, es⟩
  by_cases hlt : m < N
  · obtain ⟨hdv, hm0⟩ := hd.resolve_left (by omega)
    have hmne : ¬ N = m := by omega
    have hN0 : ¬ N = 0 := by omega
    try simp (disch := omega) only [PR, plen, pop, prd, prds, pwr, keptP, presAll, presOf, pone, Kd.w, Kd.spare, Obj.ver, peq, pparts, play, psl, pbnd, binV, intV, ↓reduceIte, Nat.reduceAdd, Nat.reduceSub, Nat.reduceEqDiff, Nat.reduceLT, Nat.reduceLeDiff, Nat.reduceMul, reduceCtorEq, plain, zeros, e7, e8, es, hmne, hN0]
    refine cpy_ints (i := 0) (o := m) (dl := N - m) (sl := m) (p := .row 0 0 m N) (new := (L.take m).take (min m (N - m))) (L := L) (kd := .fix) (vr := v) (by rfl) (by rfl) rfl ?_ (by simp; omega) es rfl (by simp; omega) fun st2 v2 hs2 _ => ?_
    · simp only [pcop, prds, es, Nat.mul_one, pints_length]
      split
      · rename_i h0; rw [h0]; simp [pints]
      · rw [if_pos (by omega), List.drop_zero, pints_take, List.take_take, Nat.min_eq_left (Nat.min_le_left m (N - m))]
    have hw2 : IntKind.i64.wrap ((m : Int) + ((min m (N - m) : Nat) : Int)) = ((m + min m (N - m) : Nat) : Int) := wrap_id (by omega) (by omega)
    try simp (disch := omega) only [PR, plen, pop, prd, prds, pwr, keptP, presAll, presOf, pone, Kd.w, Kd.spare, Obj.ver, peq, pparts, play, psl, pbnd, binV, intV, ↓reduceIte, Nat.reduceAdd, Nat.reduceSub, Nat.reduceEqDiff, Nat.reduceLT, Nat.reduceLeDiff, Nat.reduceMul, reduceCtorEq, plain, zeros, e7, e8, es, hs2, hw2]
    have hnl : ((L.take m).take (min m (N - m))).length = min m (N - m) := by simp; omega
    refine ⟨N - (m + min m (N - m)), by omega, m + min m (N - m), _, v2, rfl, by omega, ?_, ?_, ?_, rfl, rfl⟩
    · by_cases h2 : m ≤ N - m
      · right; rw [Nat.min_eq_left h2]; exact ⟨Nat.dvd_add hdv hdv, by omega⟩
      · left; omega
    · simp; omega
    · intro j hj
      rw [hnl, List.append_assoc, getD_take_append (by omega)]
      split
      · rename_i h; exact hLj j h
      · rename_i h
        rw [List.getD_eq_getElem?_getD, List.getElem?_append_left (by rw [hnl]; omega), List.getElem?_take, if_pos (by omega), List.getElem?_take, if_pos (by omega), ← List.getD_eq_getElem?_getD, hLj _ (by omega)]
        congr 1
        obtain ⟨q, rfl⟩ := hdv
        exact (Nat.sub_mul_mod (by omega)).trans rfl
  · have hmN : m = N := by omega
    subst hmN
    try simp (disch := omega) only [PR, plen, pop, prd, prds, pwr, keptP, presAll, presOf, pone, Kd.w, Kd.spare, Obj.ver, peq, pparts, play, psl, pbnd, binV, intV, ↓reduceIte, Nat.reduceAdd, Nat.reduceSub, Nat.reduceEqDiff, Nat.reduceLT, Nat.reduceLeDiff, Nat.reduceMul, reduceCtorEq, plain, zeros, e7, e8, es]
    have hLt : L = times l k := by
      apply List.ext_getElem (by rw [hL, times_length, hNN])
      intro j h1 h2
      have a1 := hLj j (by omega)
      have a2 := hper j (by omega)
      rw [← a2, List.getD_eq_getElem?_getD, List.getD_eq_getElem?_getD, List.getElem?_eq_getElem h1, List.getElem?_eq_getElem h2] at a1
      exact a1
    subst hLt
    exact ⟨by rw [pints_length, hL, Nat.mul_one], .inr ⟨0, m, .fix, v, _, [], rfl, es, by simp [pints_length, hL], .inl rfl, rfl, by rw [List.append_nil]; exact .plain pints_V⟩⟩
end Dm.YtmgehmhebnjaaaaGreatDoor
end
section
set_option maxRecDepth 100000
set_option linter.unusedSimpArgs false
namespace Dm.YtmgehmhebnjaaaaGreatDoor
open Go
theorem zeros_pints (N : Nat) : (zeros [Value.int IntKind.i64 0] N).map PV.v = pints (List.replicate N 0) := by
  induction N with
  | zero => rfl
  | succ N ih => simp only [zeros, List.cons_append, List.nil_append, List.map_cons, ih, List.replicate_succ, pints]
theorem growInt_c {k : Nat} (hk : k ≤ 1000000000) : ClosedF tab nopr 137 [.v (.slice none 0 0), (PV.v (Value.int IntKind.i64 (k)))] 1 0 [] := by
  refine ClosedF.of (mf := m137) rfl rfl rfl ?_
  by_cases h0 : k = 0
  · subst h0
    try simp (disch := omega) only [PR, plen, pop, prd, prds, pwr, keptP, presAll, presOf, pone, Kd.w, Kd.spare, Obj.ver, peq, pparts, play, psl, pbnd, binV, intV, ↓reduceIte, Nat.reduceAdd, Nat.reduceSub, Nat.reduceEqDiff, Nat.reduceLT, Nat.reduceLeDiff, Nat.reduceMul, reduceCtorEq, plain, zeros, m137]
    exact ⟨rfl, .inl ⟨rfl, rfl⟩⟩
  · have e1 : (k : Int) - (0 - 0) = k := by omega
    have e0 : IntKind.i64.wrap (0 - 0) = 0 := rfl
    have e2 : (k : Int) - 0 = k := by omega
    try simp (disch := omega) only [PR, plen, pop, prd, prds, pwr, keptP, presAll, presOf, pone, Kd.w, Kd.spare, Obj.ver, peq, pparts, play, psl, pbnd, binV, intV, ↓reduceIte, Nat.reduceAdd, Nat.reduceSub, Nat.reduceEqDiff, Nat.reduceLT, Nat.reduceLeDiff, Nat.reduceMul, reduceCtorEq, plain, zeros, m137, e0, e1, e2]
    show pGo (pop _ _ _ (.appz 3 1 8 [.int .i64 0] (.t 20) (.t 21))) _ _ _ _ _
    have hkb : (k : Int) * 8 ≤ 281474976710656 := by omega
    have hkb2 : k * 8 ≤ 140737488355328 := by omega
    have e4 : IntKind.i64.wrap 0 = 0 := rfl
    try simp (disch := omega) only [PR, plen, pop, prd, prds, pwr, keptP, presAll, presOf, pone, Kd.w, Kd.spare, Obj.ver, peq, pparts, play, psl, pbnd, binV, intV, ↓reduceIte, Nat.reduceAdd, Nat.reduceSub, Nat.reduceEqDiff, Nat.reduceLT, Nat.reduceLeDiff, Nat.reduceMul, reduceCtorEq, plain, zeros, papp, pnil, hkb, hkb2, h0, zeros_pints]
    refine ⟨rfl, .inr ⟨0, k, .loose 1, 0, _, pints (List.replicate k 0), rfl, rfl, by simp [pints_length], .inr rfl, pints_V, .plain pints_V⟩⟩
/-- Lists of whole numbers, one behind the other. -/
def plists (ls : List (List Int)) : List PV := ls.map fun l => .sl l.length (pints l)
theorem plists_length {ls : List (List Int)} : (plists ls).length = ls.length := by simp [plists]
theorem psub_lists {ls : List (List Int)} {j : Nat} (h : j < ls.length) : psub (plists ls) j 1 = some [.sl (ls.getD j []).length (pints (ls.getD j []))] := by
  rw [psub_one, plists, List.getElem?_map, List.getD_eq_getElem?_getD, List.getElem?_eq_getElem h]; rfl
theorem flatten_take_succ {ls : List (List Int)} {i : Nat} (h : i < ls.length) : (ls.take (i + 1)).flatten = (ls.take i).flatten ++ ls.getD i [] := by
  rw [List.take_add_one, List.getElem?_eq_getElem h, List.flatten_append, List.getD_eq_getElem?_getD, List.getElem?_eq_getElem h]
  simp
theorem flatten_take_le {ls : List (List Int)} (i : Nat) : (ls.take i).flatten.length ≤ ls.flatten.length := by
  conv => rhs; rw [← List.take_append_drop i ls, List.flatten_append, List.length_append]
  omega
theorem concatInt_c {ls : List (List Int)} (h1 : ls.length ≤ 1000000) (h2 : ls.flatten.length ≤ 1000000) : ClosedF tab nopr 84 [.sl ls.length (plists ls)] 1 ls.flatten.length (pints ls.flatten) := by
  refine ClosedF.of (mf := m84) rfl rfl rfl ?_
  try simp (disch := omega) only [PR, plen, pop, prd, prds, pwr, keptP, presAll, presOf, pone, Kd.w, Kd.spare, Obj.ver, peq, pparts, play, psl, pbnd, binV, intV, ↓reduceIte, Nat.reduceAdd, Nat.reduceSub, Nat.reduceEqDiff, Nat.reduceLT, Nat.reduceLeDiff, Nat.reduceMul, reduceCtorEq, plain, zeros, m84]
  refine V_count (fun i pt st n => i ≤ ls.length ∧ pt 0 = .sl ls.length (plists ls) ∧ pt 3 = (PV.v (Value.int IntKind.i64 ((ls.take i).flatten.length))) ∧ pt 9 = .sl ls.length (plists ls) ∧ pt 10 = (PV.v (Value.int IntKind.i64 (ls.length))) ∧ pt 11 = (PV.v (Value.int IntKind.i64 (i)))) ls.length ⟨by omega, rfl, rfl, rfl, rfl, rfl⟩ ?_
  rintro i pt st n hi ⟨_, e0, e3, e9, e10, e11⟩
  have hle := flatten_take_le (ls := ls) i
  by_cases hlt : i < ls.length
  · have hle' := flatten_take_le (ls := ls) (i + 1)
    rw [flatten_take_succ hlt, List.length_append] at hle'
    try simp (disch := omega) only [PR, plen, pop, prd, prds, pwr, keptP, presAll, presOf, pone, Kd.w, Kd.spare, Obj.ver, peq, pparts, play, psl, pbnd, binV, intV, ↓reduceIte, Nat.reduceAdd, Nat.reduceSub, Nat.reduceEqDiff, Nat.reduceLT, Nat.reduceLeDiff, Nat.reduceMul, reduceCtorEq, plain, zeros, e0, e3, e9, e10, e11, psub_lists, flatten_take_succ, List.length_append]
    exact ⟨rfl, rfl⟩
  · have hi' : i = ls.length := by omega
    subst hi'
    rw [List.take_length] at e3
    try simp (disch := omega) only [PR, plen, pop, prd, prds, pwr, keptP, presAll, presOf, pone, Kd.w, Kd.spare, Obj.ver, peq, pparts, play, psl, pbnd, binV, intV, ↓reduceIte, Nat.reduceAdd, Nat.reduceSub, Nat.reduceEqDiff, Nat.reduceLT, Nat.reduceLeDiff, Nat.reduceMul, reduceCtorEq, plain, zeros, e0, e3, e9, e10, e11]
    refine PAns.freshV (growInt_c (k := ls.flatten.length) (by omega)) (by repeat (first | exact PurL.nil | refine PurL.cons ?_ ?_ | exact Pur.v _ | exact Pur.sl _ _ | exact Pur.ep _ | exact Pur.fn _ rfl PurL.nil.2 | exact pword_pure _ _)) rfl fun p1 st1 n1 g1 hn1 hk1 hw1 => ?_
    try simp (disch := omega) only [PR, plen, pop, prd, prds, pwr, keptP, presAll, presOf, pone, Kd.w, Kd.spare, Obj.ver, peq, pparts, play, psl, pbnd, binV, intV, ↓reduceIte, Nat.reduceAdd, Nat.reduceSub, Nat.reduceEqDiff, Nat.reduceLT, Nat.reduceLeDiff, Nat.reduceMul, reduceCtorEq, plain, zeros, e0]
    refine V_count (fun i pt st n => i ≤ ls.length ∧ pt 25 = .sl ls.length (plists ls) ∧ pt 26 = (PV.v (Value.int IntKind.i64 (ls.length))) ∧ pt 27 = (PV.v (Value.int IntKind.i64 (i))) ∧ Lst st n (pt 6) 1 (ls.take i).flatten.length (pints (ls.take i).flatten)) ls.length ⟨by omega, rfl, rfl, rfl, by simpa [pints, upd_eq] using g1⟩ ?_
    rintro i pt st n hi ⟨_, e25, e26, e27, hL⟩
    have hle := flatten_take_le (ls := ls) i
    by_cases hlt : i < ls.length
    · have hle' := flatten_take_le (ls := ls) (i + 1)
      rw [flatten_take_succ hlt, List.length_append] at hle'
      try simp (disch := omega) only [PR, plen, pop, prd, prds, pwr, keptP, presAll, presOf, pone, Kd.w, Kd.spare, Obj.ver, peq, pparts, play, psl, pbnd, binV, intV, ↓reduceIte, Nat.reduceAdd, Nat.reduceSub, Nat.reduceEqDiff, Nat.reduceLT, Nat.reduceLeDiff, Nat.reduceMul, reduceCtorEq, plain, zeros, e25, e26, e27, psub_lists]
      refine app_lst (k := (ls.getD i []).length) (new := pints (ls.getD i [])) (q := .sl (ls.getD i []).length (pints (ls.getD i []))) hL rfl rfl (by simp [psrc, pints_length]) (by simp [pints_length]) pints_flat (by omega) (by omega) (by omega) fun p' st' n' h _ _ _ => ?_
      rw [pints_append] at h
      try simp (disch := omega) only [PR, plen, pop, prd, prds, pwr, keptP, presAll, presOf, pone, Kd.w, Kd.spare, Obj.ver, peq, pparts, play, psl, pbnd, binV, intV, ↓reduceIte, Nat.reduceAdd, Nat.reduceSub, Nat.reduceEqDiff, Nat.reduceLT, Nat.reduceLeDiff, Nat.reduceMul, reduceCtorEq, plain, zeros, e25, e26, e27, flatten_take_succ, List.length_append]
      exact ⟨rfl, h⟩
    · have hi' : i = ls.length := by omega
      subst hi'
      rw [List.take_length] at hL
      try simp (disch := omega) only [PR, plen, pop, prd, prds, pwr, keptP, presAll, presOf, pone, Kd.w, Kd.spare, Obj.ver, peq, pparts, play, psl, pbnd, binV, intV, ↓reduceIte, Nat.reduceAdd, Nat.reduceSub, Nat.reduceEqDiff, Nat.reduceLT, Nat.reduceLeDiff, Nat.reduceMul, reduceCtorEq, plain, zeros, e25, e26, e27]
      exact hL.lstP pints_V
/-- Without what is equal to the one before. -/
def onceTo (l : List Int) : Nat → List Int
  | 0 => []
  | m + 1 => onceTo l m ++ (if m = 0 ∨ l.getD m 0 ≠ l.getD (m - 1) 0 then [l.getD m 0] else [])
def once (l : List Int) : List Int := onceTo l l.length
theorem onceTo_le (l : List Int) (m : Nat) : (onceTo l m).length ≤ m := by
  induction m with
  | zero => exact Nat.le_refl _
  | succ m ih =>
    simp only [onceTo, List.length_append]
    split <;> simp <;> omega
theorem take_succ_getD {l : List Int} {m : Nat} (h : m < l.length) : l.take (m + 1) = l.take m ++ [l.getD m 0] := by
  rw [List.take_add_one, List.getElem?_eq_getElem h, List.getD_eq_getElem?_getD, List.getElem?_eq_getElem h]; rfl
theorem onceTo_all {l : List Int} {m : Nat} (hm : m ≤ l.length) (h : ∀ j, 1 ≤ j → j < m → l.getD j 0 ≠ l.getD (j - 1) 0) : onceTo l m = l.take m := by
  induction m with
  | zero => rfl
  | succ m ih =>
    rw [onceTo, ih (by omega) (fun j h1 h2 => h j h1 (by omega)), take_succ_getD (by omega)]
    rw [if_pos]
    by_cases h0 : m = 0
    · exact .inl h0
    · exact .inr (h m (by omega) (by omega))
theorem compactInt_p {p : PV} {l : List Int} {st : St} {n : Nat} {Q : PV → St → Nat → Prop} (hl : l.length ≤ 1000000) (h : Lst st n p 1 l.length (pints l))
    (hQ : ∀ p' st', Lst st' n p' 1 (once l).length (pints (once l)) → (∀ i, i < n → (∀ o m c, p ≠ .row i o m c) → st' i = st i) → (∀ i o m c, p' = .row i o m c → ∃ o m, p = .row i o m c) → Q p' st' n) : PAns tab nopr (.fn 83) [p] st n Q := by
  refine PAns.fn (mf := m83) rfl rfl rfl ?_
  by_cases h2 : l.length < 2
  · have e : once l = l := by
      unfold once
      rw [onceTo_all (Nat.le_refl _) (fun j h1 h3 => by omega), List.take_length]
    have hq := hQ p st (by rw [e]; exact h) (fun _ _ _ => rfl) (fun i o m c e => ⟨_, _, e⟩)
    rcases h.2 with ⟨rfl, h0⟩ | ⟨i, c, kd, vr, ex, rfl, q1, q2, q3, q4, q5, q6, q7⟩
    · try simp (disch := omega) only [PR, plen, pop, prd, prds, pwr, keptP, presAll, presOf, pone, Kd.w, Kd.spare, Obj.ver, peq, pparts, play, psl, pbnd, binV, intV, ↓reduceIte, Nat.reduceAdd, Nat.reduceSub, Nat.reduceEqDiff, Nat.reduceLT, Nat.reduceLeDiff, Nat.reduceMul, reduceCtorEq, plain, zeros, m83, pnil]
      exact hq
    · try simp (disch := omega) only [PR, plen, pop, prd, prds, pwr, keptP, presAll, presOf, pone, Kd.w, Kd.spare, Obj.ver, peq, pparts, play, psl, pbnd, binV, intV, ↓reduceIte, Nat.reduceAdd, Nat.reduceSub, Nat.reduceEqDiff, Nat.reduceLT, Nat.reduceLeDiff, Nat.reduceMul, reduceCtorEq, plain, zeros, m83]
      exact hq
  · rcases h.2 with ⟨rfl, h0⟩ | ⟨i, c, kd, vr, ex, rfl, q1, q2, q3, q4, q5, q6, q7⟩
    · omega
    have hkw : kd.w = true := by rcases q6 with q | q <;> (subst q; rfl)
    try simp (disch := omega) only [PR, plen, pop, prd, prds, pwr, keptP, presAll, presOf, pone, Kd.w, Kd.spare, Obj.ver, peq, pparts, play, psl, pbnd, binV, intV, ↓reduceIte, Nat.reduceAdd, Nat.reduceSub, Nat.reduceEqDiff, Nat.reduceLT, Nat.reduceLeDiff, Nat.reduceMul, reduceCtorEq, plain, zeros, m83]
    refine V_count (fun j pt st' n' => j + 1 ≤ l.length ∧ (∀ k, 1 ≤ k → k ≤ j → l.getD k 0 ≠ l.getD (k - 1) 0) ∧ pt 0 = .row i 0 l.length c ∧ pt 3 = (PV.v (Value.int IntKind.i64 ((j + 1 : Nat)))) ∧ st' = st ∧ n' = n) (l.length - 1) ⟨by omega, fun k h1 h2 => by omega, rfl, rfl, rfl, rfl⟩ ?_
    rintro j pt st' n' hj ⟨hj1, hno, e0, e3, rfl, rfl⟩
    have ew : IntKind.i64.wrap (((j + 1 : Nat) : Int) - 1) = (j : Int) := by rw [wrap_id (by omega) (by omega)]; omega
    by_cases hlt : j + 1 < l.length
    · by_cases heq : l.getD (j + 1) 0 = l.getD j 0
      · have hp1 := psl_own (h := l.length) (l := j + 1) (m := c) (o := 0) q4 q6 (by omega)
        simp only [Nat.zero_add, Nat.mul_one] at hp1
        try simp (disch := omega) only [PR, plen, pop, prd, prds, keptP, presAll, presOf, pone, Kd.w, Kd.spare, Obj.ver, peq, pparts, play, pbnd, binV, intV, ↓reduceIte, Nat.reduceAdd, Nat.reduceSub, Nat.reduceEqDiff, Nat.reduceLT, Nat.reduceLeDiff, Nat.reduceMul, reduceCtorEq, plain, zeros, e0, e3, ew, q4, heq, hp1]
        have ho1 : onceTo l (j + 1 + 1) = l.take (j + 1) := by
          rw [onceTo, onceTo_all (by omega) (fun k h1 h2 => hno k h1 (by omega)), if_neg, List.append_nil]
          simp only [Nat.add_sub_cancel]
          rintro (h | h)
          · omega
          · exact h heq
        refine V_count (fun b pt2 st2 n2 => ∃ L v, b + 1 ≤ l.length - (j + 1) ∧ L.length = l.length ∧ L.take (onceTo l (j + 1 + b + 1)).length = onceTo l (j + 1 + b + 1) ∧ (onceTo l (j + 1 + b + 1)).length ≤ j + 1 + b ∧ (∀ q, j + 1 + b ≤ q → q < l.length → L.getD q 0 = l.getD q 0) ∧
          pt2 0 = .row i 0 l.length c ∧ pt2 3 = (PV.v (Value.int IntKind.i64 ((onceTo l (j + 1 + b + 1)).length))) ∧ pt2 4 = .row i (j + 1) (l.length - (j + 1)) (c - (j + 1)) ∧ pt2 5 = (PV.v (Value.int IntKind.i64 ((b + 1 : Nat)))) ∧ st2 i = .cells false kd v (pints L ++ ex) ∧ (∀ q, q ≠ i → st2 q = st' q) ∧ n2 = n') (l.length - (j + 1) - 1) ⟨l, vr, by omega, rfl, ?_, ?_, fun _ _ _ => rfl, ?_, ?_, ?_, rfl, q4, fun _ _ => rfl, rfl⟩ ?_
        · rw [Nat.add_zero, ho1, List.length_take, Nat.min_eq_left (by omega)]
        · rw [Nat.add_zero, ho1, List.length_take]; omega
        · simp only [upd_eq]; simp [e0]
        · rw [Nat.add_zero, ho1, List.length_take, Nat.min_eq_left (by omega)]; simp only [upd_eq]; simp [e3]
        · simp only [upd_eq]; simp
        rintro b pt2 st2 n2 hb ⟨L, v, hb1, hL, hLt, hk, hLq, e0, e3, e4, e5, es, eo, rfl⟩
        generalize hK : (onceTo l (j + 1 + b + 1)).length = K at *
        have ew2 : IntKind.i64.wrap (((b + 1 : Nat) : Int) - 1) = (b : Int) := by rw [wrap_id (by omega) (by omega)]; omega
        by_cases hlt2 : b + 1 < l.length - (j + 1)
        · have g1 : L.getD (j + 1 + (b + 1)) 0 = l.getD (j + 1 + b + 1) 0 := hLq (j + 1 + b + 1) (by omega) (by omega)
          have g2 := hLq (j + 1 + b) (by omega) (by omega)
          by_cases heq2 : l.getD (j + 1 + b + 1) 0 = l.getD (j + 1 + b) 0
          · have ho2 : onceTo l (j + 1 + (b + 1) + 1) = onceTo l (j + 1 + b + 1) := by
              show onceTo l (j + 1 + b + 1 + 1) = _
              rw [onceTo, if_neg, List.append_nil]
              simp only [Nat.add_sub_cancel]
              rintro (h | h)
              · omega
              · exact h heq2
            try simp (disch := omega) only [PR, plen, pop, prd, prds, keptP, presAll, presOf, pone, Kd.w, Kd.spare, Obj.ver, peq, pparts, play, pbnd, binV, intV, ↓reduceIte, Nat.reduceAdd, Nat.reduceSub, Nat.reduceEqDiff, Nat.reduceLT, Nat.reduceLeDiff, Nat.reduceMul, reduceCtorEq, plain, zeros, e0, e3, e4, e5, ew2, es, g1, g2, heq2]
            refine ⟨L, v, hL, ?_, ?_, fun q h1 h2 => hLq q (by omega) h2, ?_, rfl, rfl, eo⟩
            · rw [ho2, hK]; exact hLt
            · rw [ho2, hK]; omega
            · rw [ho2, hK]
          · have ho2 : onceTo l (j + 1 + (b + 1) + 1) = onceTo l (j + 1 + b + 1) ++ [l.getD (j + 1 + b + 1) 0] := by
              show onceTo l (j + 1 + b + 1 + 1) = _
              rw [onceTo, if_pos]
              exact .inr heq2
            have hw : pwr st2 i (0 + K) [(PV.v (Value.int IntKind.i64 (l.getD (j + 1 + b + 1) 0)))] = some (upd st2 i (.cells false kd (v + 1) (pints (L.take K ++ [l.getD (j + 1 + b + 1) 0] ++ L.drop (K + 1)) ++ ex))) := by
              simp only [pwr, es, Nat.zero_add]
              rw [if_pos ⟨hkw, by simp [pints_length]; omega, rfl⟩]
              congr 3
              rw [List.take_append_of_le_length (by simp [pints_length]; omega), List.drop_append_of_le_length (by simp [pints_length]; omega), pints_take, pints_drop, ← List.append_assoc]
              congr 1
              simp [pints]
            simp only [Nat.zero_add] at hw
            try simp (disch := omega) only [PR, plen, pop, prd, prds, keptP, presAll, presOf, pone, Kd.w, Kd.spare, Obj.ver, peq, pparts, play, pbnd, binV, intV, ↓reduceIte, Nat.reduceAdd, Nat.reduceSub, Nat.reduceEqDiff, Nat.reduceLT, Nat.reduceLeDiff, Nat.reduceMul, reduceCtorEq, plain, zeros, e0, e3, e4, e5, ew2, es, g1, g2, heq2, hw]
            have hKL : (L.take K).length = K := by simp; omega
            refine ⟨L.take K ++ [l.getD (j + 1 + b + 1) 0] ++ L.drop (K + 1), v + 1, ?_, ?_, ?_, fun q h1 h2 => ?_, ?_, rfl, rfl, fun q hq => ?_⟩
            · simp; omega
            · rw [ho2, List.length_append, hK, ← hLt]
              rw [List.take_append_of_le_length (by simp; omega), List.take_of_length_le (by simp; omega)]
            · rw [ho2, List.length_append, hK]; simp; omega
            · rw [List.append_assoc, List.getD_eq_getElem?_getD, List.getElem?_append_right (by omega), hKL, List.getElem?_append]
              by_cases hqk : q = K
              · omega
              · rw [if_neg (by simp; omega), List.getElem?_drop]
                have : K + 1 + (q - K - [l.getD (j + 1 + b + 1) 0].length) = q := by simp; omega
                rw [this, ← List.getD_eq_getElem?_getD]
                exact hLq q (by omega) h2
            · rw [ho2, List.length_append, hK]; rfl
            · rw [if_neg hq]; exact eo q hq
        · have hbl : j + 1 + b + 1 = l.length := by omega
          rw [hbl] at hLt hK
          have hp2 := psl_own (h := l.length) (l := K) (m := c) (o := 0) es q6 (by omega)
          simp only [Nat.zero_add, Nat.mul_one] at hp2
          have hw : pwr st2 i K (pints (List.replicate (l.length - K) 0)) = some (upd st2 i (.cells false kd (v + 1) (pints (L.take K) ++ (pints (List.replicate (l.length - K) 0) ++ ex)))) := by
            simp only [pwr, es]
            rw [if_pos ⟨hkw, by simp [pints_length]; omega, pints_flat⟩]
            congr 3
            rw [List.take_append_of_le_length (by simp [pints_length]; omega), List.append_assoc, pints_take]
            congr 2
            have : K + (pints (List.replicate (l.length - K) 0)).length = (pints L).length := by simp [pints_length]; omega
            rw [this, List.drop_left]
          have hmne : ¬ l.length - K = 0 := by omega
          have hp3 := fun vr2 cs => psl_own (st := upd st2 i (.cells false kd vr2 cs)) (h := K) (l := 0) (m := c) (o := 0) (upd_same _ _ _) q6 (by omega)
          simp only [Nat.zero_add, Nat.mul_one, Nat.sub_zero] at hp3
          try simp (disch := omega) only [PR, plen, pop, prd, prds, keptP, presAll, presOf, pone, Kd.w, Kd.spare, Obj.ver, peq, pparts, play, pbnd, binV, intV, ↓reduceIte, Nat.reduceAdd, Nat.reduceSub, Nat.reduceEqDiff, Nat.reduceLT, Nat.reduceLeDiff, Nat.reduceMul, reduceCtorEq, plain, zeros, e0, e3, e4, e5, es, hp2, pOp_clr, zeros_pints, hmne, hw, hp3]
          rw [hLt]
          refine hQ _ _ ⟨by simp [pints_length], .inr ⟨i, c, kd, v + 1, pints (List.replicate (l.length - K) 0) ++ ex, by rw [← hK]; rfl, q1, by rw [← hK] at *; unfold once; omega, q3, upd_same _ _ _, ?_, q6, ?_⟩⟩ (fun q _ hne => ?_) (fun i' o m c' e => ?_)
          · unfold once
            simp only [List.length_append, pints_length, List.length_replicate, Nat.mul_one] at q5 ⊢
            omega
          · rw [List.all_append, pints_V, q7]; rfl
          · rw [upd_ne (fun e => by subst e; exact hne _ _ _ rfl)]
            exact eo q (fun e => by subst e; exact hne _ _ _ rfl)
          · cases e; exact ⟨_, _, rfl⟩
      · try simp (disch := omega) only [PR, plen, pop, prd, prds, pwr, keptP, presAll, presOf, pone, Kd.w, Kd.spare, Obj.ver, peq, pparts, play, psl, pbnd, binV, intV, ↓reduceIte, Nat.reduceAdd, Nat.reduceSub, Nat.reduceEqDiff, Nat.reduceLT, Nat.reduceLeDiff, Nat.reduceMul, reduceCtorEq, plain, zeros, e0, e3, ew, q4, heq]
        refine ⟨fun k h1 h2 => ?_, rfl⟩
        by_cases hk : k = j + 1
        · subst hk; exact heq
        · exact hno k h1 (by omega)
    · try simp (disch := omega) only [PR, plen, pop, prd, prds, pwr, keptP, presAll, presOf, pone, Kd.w, Kd.spare, Obj.ver, peq, pparts, play, psl, pbnd, binV, intV, ↓reduceIte, Nat.reduceAdd, Nat.reduceSub, Nat.reduceEqDiff, Nat.reduceLT, Nat.reduceLeDiff, Nat.reduceMul, reduceCtorEq, plain, zeros, e0, e3]
      have e : once l = l := by
        unfold once
        rw [onceTo_all (Nat.le_refl _) (fun k h1 h3 => hno k h1 (by omega)), List.take_length]
      exact hQ _ _ (by rw [e]; exact h) (fun _ _ _ => rfl) (fun i o m c e => ⟨_, _, e⟩)
end Dm.YtmgehmhebnjaaaaGreatDoor
end
section
set_option maxRecDepth 100000
set_option linter.unusedSimpArgs false
namespace Dm.YtmgehmhebnjaaaaGreatDoor
open Go
/-- Does a list repeat after so many? -/
def Per (l : List Int) (k : Nat) : Prop := l.length % k = 0 ∧ times (l.take k) (l.length / k) = l
/-- The first after how many a list repeats. -/
def IsRoot (l : List Int) (k : Nat) : Prop := 1 ≤ k ∧ k ≤ l.length ∧ Per l k ∧ ∀ j, 1 ≤ j → j < k → ¬ Per l j
theorem Per.self (l : List Int) (h : 0 < l.length) : Per l l.length := ⟨Nat.mod_self _, by rw [Nat.div_self h, List.take_length]; simp [times]⟩
theorem IsRoot.uniq {l : List Int} {j k : Nat} (h : IsRoot l j) (h2 : IsRoot l k) : j = k := by
  rcases Nat.lt_trichotomy j k with q | q | q
  · exact absurd h.2.2.1 (h2.2.2.2 j h.1 q)
  · exact q
  · exact absurd h2.2.2.1 (h.2.2.2 k h2.1 q)
/-- The loop goes back into the prefix. -/
def roll : Nat → List Int → List Int → List Int × List Int
  | 0, p, l => (p, l)
  | k + 1, p, l => if 0 < p.length ∧ p.getD (p.length - 1) 0 = l.getD (l.length - 1) 0 then roll k (p.take (p.length - 1)) (l.getD (l.length - 1) 0 :: l.take (l.length - 1)) else (p, l)
theorem roll_stop {k : Nat} {p l : List Int} (h : ¬ (0 < p.length ∧ p.getD (p.length - 1) 0 = l.getD (l.length - 1) 0)) : roll k p l = (p, l) := by
  cases k with
  | zero => rfl
  | succ k => rw [roll, if_neg h]
theorem shortest_c {p l : List Int} (b1 : p.length ≤ 1000) (b2 : l.length ≤ 1000) (hne : 0 < l.length) {k : Nat} (hk : IsRoot l k) : Closed tab nopr 82 [pword p l] (pword (roll p.length p (l.take k)).1 (roll p.length p (l.take k)).2) := by
  refine Closed.of (mf := m82) rfl rfl rfl ?_
  try simp (disch := omega) only [PR, plen, pop, prd, prds, pwr, keptP, presAll, presOf, pone, Kd.w, Kd.spare, Obj.ver, peq, pparts, play, psl, pbnd, binV, intV, ↓reduceIte, Nat.reduceAdd, Nat.reduceSub, Nat.reduceEqDiff, Nat.reduceLT, Nat.reduceLeDiff, Nat.reduceMul, reduceCtorEq, plain, zeros, m82, pword]
  refine PAns.freshV (cloneInt_c (l := p) (by omega)) (by repeat (first | exact PurL.nil | refine PurL.cons ?_ ?_ | exact Pur.v _ | exact Pur.sl _ _ | exact Pur.ep _ | exact Pur.fn _ rfl PurL.nil.2 | exact pword_pure _ _)) pints_V fun p1 st1 n1 h1 hn1 hk1 hw1 => ?_
  try simp (disch := omega) only [PR, plen, pop, prd, prds, pwr, keptP, presAll, presOf, pone, Kd.w, Kd.spare, Obj.ver, peq, pparts, play, psl, pbnd, binV, intV, ↓reduceIte, Nat.reduceAdd, Nat.reduceSub, Nat.reduceEqDiff, Nat.reduceLT, Nat.reduceLeDiff, Nat.reduceMul, reduceCtorEq, plain, zeros, hk1]
  refine PAns.freshV (cloneInt_c (l := l) (by omega)) (by repeat (first | exact PurL.nil | refine PurL.cons ?_ ?_ | exact Pur.v _ | exact Pur.sl _ _ | exact Pur.ep _ | exact Pur.fn _ rfl PurL.nil.2 | exact pword_pure _ _)) pints_V fun p2 st2 n2 h2 hn2 hk2 hw2 => ?_
  try simp (disch := omega) only [PR, plen, pop, prd, prds, pwr, keptP, presAll, presOf, pone, Kd.w, Kd.spare, Obj.ver, peq, pparts, play, psl, pbnd, binV, intV, ↓reduceIte, Nat.reduceAdd, Nat.reduceSub, Nat.reduceEqDiff, Nat.reduceLT, Nat.reduceLeDiff, Nat.reduceMul, reduceCtorEq, plain, zeros, hk1, hk2]
  have g1 : Lst st2 n2 p1 1 p.length (pints p) := h1.keep hn2 fun i o m c e => hk2 i (h1.lt e)
  rcases h2.2 with ⟨rfl, h0⟩ | ⟨i, c, kd, vr, ex, rfl, q1, q2, q3, q4, q5, q6, q7⟩
  · omega
  refine V_cut (fun pt st n => ∃ m, l.take m = l.take k ∧ m ≤ l.length ∧ 1 ≤ m ∧ pt 2 = .ptr 1 0 ∧ pt 3 = p1 ∧ pt 4 = .row i 0 m c ∧ n2 ≤ n ∧ ∀ j, j < n2 → st j = st2 j) ?_ ?_
  · refine V_count (fun j pt st n => j + 1 ≤ l.length ∧ (∀ q, 1 ≤ q → q ≤ j → ¬ Per l q) ∧ pt 2 = .ptr 1 0 ∧ pt 3 = p1 ∧ pt 4 = .row i 0 l.length c ∧ pt 5 = (PV.v (Value.int IntKind.i64 ((j + 1 : Nat)))) ∧ n2 ≤ n ∧ ∀ j, j < n2 → st j = st2 j) (l.length - 1) ⟨by omega, fun q h1 h2 => by omega, rfl, rfl, rfl, rfl, Nat.le_refl _, fun _ _ => rfl⟩ ?_
    rintro j pt st n hj ⟨hj1, hno, e2, e3, e4, e5, hn, hst⟩
    have es := (hst i q1).trans q4
    by_cases hlt : j + 1 < l.length
    · have hm : ((l.length : Int)).tmod ((j + 1 : Nat) : Int) = ((l.length % (j + 1) : Nat) : Int) := (Int.ofNat_tmod _ _).symm
      have hd : ((l.length : Int)).tdiv ((j + 1 : Nat) : Int) = ((l.length / (j + 1) : Nat) : Int) := (Int.ofNat_tdiv _ _).symm
      have hz : ¬ (((j + 1 : Nat) : Int) = 0) := by omega
      have hdl : l.length / (j + 1) ≤ l.length := Nat.div_le_self _ _
      have hP : Per l (j + 1) ↔ (l.length % (j + 1) = 0 ∧ times (l.take (j + 1)) (l.length / (j + 1)) = l) := Iff.rfl
      have hDm : l.length % (j + 1) = 0 → (j + 1) * (l.length / (j + 1)) = l.length := fun h => Nat.mul_div_cancel' (Nat.dvd_of_mod_eq_zero h)
      generalize l.length / (j + 1) = D at *
      generalize l.length % (j + 1) = M at *
      have hwd : IntKind.i64.wrap (D : Int) = (D : Int) := wrap_id (by omega) (by omega)
      have hp := psl_own (h := j + 1) (l := 0) (m := c) (o := 0) es q6 (by omega)
      simp only [Nat.zero_add, Nat.zero_mul, Nat.sub_zero] at hp
      by_cases hmod : M = 0
      · try simp (disch := omega) only [PR, plen, pop, prd, prds, keptP, presAll, presOf, pone, Kd.w, Kd.spare, Obj.ver, peq, pparts, play, pbnd, binV, intV, ↓reduceIte, Nat.reduceAdd, Nat.reduceSub, Nat.reduceEqDiff, Nat.reduceLT, Nat.reduceLeDiff, Nat.reduceMul, reduceCtorEq, plain, zeros, e2, e3, e4, e5, hm, hd, hz, hmod, hwd, hp, es]
        refine PAns.freshV (repeatInt_c (l := l.take (j + 1)) (k := D) (by simp; omega) (by omega)) (.cons (pur_part es q6 (by omega)) (by repeat (first | exact PurL.nil | refine PurL.cons ?_ ?_ | exact Pur.v _ | exact Pur.sl _ _ | exact Pur.ep _ | exact Pur.fn _ rfl PurL.nil.2 | exact pword_pure _ _))) pints_V fun p3 st3 n3 h3 hn3 hk3 hw3 => ?_
        try simp (disch := omega) only [PR, plen, pop, prd, prds, keptP, presAll, presOf, pone, Kd.w, Kd.spare, Obj.ver, peq, pparts, play, pbnd, binV, intV, ↓reduceIte, Nat.reduceAdd, Nat.reduceSub, Nat.reduceEqDiff, Nat.reduceLT, Nat.reduceLeDiff, Nat.reduceMul, reduceCtorEq, plain, zeros, e2, e3, e4, e5]
        have es3 : st3 i = .cells false kd vr (pints l ++ ex) := (hk3 i (by omega)).trans es
        have hlen3 : (times (l.take (j + 1)) D).length = (l.take (j + 1)).length * D := times_length _ _
        refine PAns.scalar (equalInt_c (a := times (l.take (j + 1)) D) (b := l) (by rw [hlen3, List.length_take, Nat.min_eq_left (by omega), hDm hmod]; omega)) (.cons (by rw [hlen3]; exact h3.pur (fun _ => trivial) (.plain pints_V)) (.cons (by have := pur_part (c := c) es3 q6 (Nat.le_refl l.length); rwa [List.take_length] at this) .nil)) rfl ?_
        by_cases hper : times (l.take (j + 1)) D = l
        · have hd2 : decide (times (l.take (j + 1)) D = l) = true := by simpa using hper
          have hp3 := psl_own (h := j + 1) (l := 0) (m := c) (o := 0) es3 q6 (by omega)
          simp only [Nat.zero_add, Nat.zero_mul, Nat.sub_zero] at hp3
          have hkj : k = j + 1 := hk.uniq ⟨by omega, by omega, hP.2 ⟨hmod, hper⟩, fun q h1 h2 => hno q h1 (by omega)⟩
          try simp (disch := omega) only [PR, plen, pop, prd, prds, keptP, presAll, presOf, pone, Kd.w, Kd.spare, Obj.ver, peq, pparts, play, pbnd, binV, intV, ↓reduceIte, Nat.reduceAdd, Nat.reduceSub, Nat.reduceEqDiff, Nat.reduceLT, Nat.reduceLeDiff, Nat.reduceMul, reduceCtorEq, plain, zeros, e2, e3, e4, e5, hd2, hp3]
          exact ⟨j + 1, by rw [hkj], by omega, by omega, rfl, fun q hq => (hk3 q (by omega)).trans (hst q hq)⟩
        · have hd2 : decide (times (l.take (j + 1)) D = l) = false := by simpa using hper
          try simp (disch := omega) only [PR, plen, pop, prd, prds, keptP, presAll, presOf, pone, Kd.w, Kd.spare, Obj.ver, peq, pparts, play, pbnd, binV, intV, ↓reduceIte, Nat.reduceAdd, Nat.reduceSub, Nat.reduceEqDiff, Nat.reduceLT, Nat.reduceLeDiff, Nat.reduceMul, reduceCtorEq, plain, zeros, e2, e3, e4, e5, hd2]
          refine ⟨fun q h1 h2 => ?_, rfl, fun q hq => (hk3 q (by omega)).trans (hst q hq)⟩
          by_cases hq : q = j + 1
          · subst hq; exact fun hp => hper (hP.1 hp).2
          · exact hno q h1 (by omega)
      · have hmi : ((M : Nat) : Int) ≠ 0 := by omega
        try simp (disch := omega) only [PR, plen, pop, prd, prds, keptP, presAll, presOf, pone, Kd.w, Kd.spare, Obj.ver, peq, pparts, play, pbnd, binV, intV, ↓reduceIte, Nat.reduceAdd, Nat.reduceSub, Nat.reduceEqDiff, Nat.reduceLT, Nat.reduceLeDiff, Nat.reduceMul, reduceCtorEq, plain, zeros, e2, e3, e4, e5, hm, hd, hz, hmod, hmi]
        refine ⟨fun q h1 h2 => ?_, rfl, hst⟩
        by_cases hq : q = j + 1
        · subst hq; exact fun hp => hmod (hP.1 hp).1
        · exact hno q h1 (by omega)
    · have hjl : j + 1 = l.length := by omega
      have hkl : k = l.length := hk.uniq ⟨by omega, by omega, Per.self l hne, fun q h1 h2 => hno q h1 (by omega)⟩
      try simp (disch := omega) only [PR, plen, pop, prd, prds, keptP, presAll, presOf, pone, Kd.w, Kd.spare, Obj.ver, peq, pparts, play, pbnd, binV, intV, ↓reduceIte, Nat.reduceAdd, Nat.reduceSub, Nat.reduceEqDiff, Nat.reduceLT, Nat.reduceLeDiff, Nat.reduceMul, reduceCtorEq, plain, zeros, e2, e3, e4, e5]
      exact ⟨l.length, by rw [hkl], by omega, by omega, rfl, hst⟩
  rintro pt st n ⟨m, hm, hml, hm1, e2, e3, e4, hn, hst⟩
  have gp : Lst st n p1 1 p.length (pints p) := g1.keep hn fun i o m c e => hst i (g1.lt e)
  have gl0 : Lst st n (.row i 0 l.length c) 1 l.length (pints l) := h2.keep hn fun i o m c e => hst i (h2.lt e)
  have gl := gl0.cut hml
  have s1 : st 1 = .cells false .fix 0 [.v (.slice none 0 0), .v (.slice none 0 0)] := by
    rw [hst 1 (by omega), hk2 1 (by omega), hk1 1 (by omega)]; rfl
  have w1 : NewP 2 p1 := hw1
  have w2 : NewP 2 (.row i 0 m c) := fun i' o m c e => by cases e; have := hw2 _ _ _ _ rfl; omega
  have hml2 : (l.take k).length = m := by rw [← hm]; simp; omega
  try simp (disch := omega) only [PR, plen, pop, prd, prds, keptP, presAll, presOf, pone, Kd.w, Kd.spare, Obj.ver, peq, pparts, play, pbnd, binV, intV, ↓reduceIte, Nat.reduceAdd, Nat.reduceSub, Nat.reduceEqDiff, Nat.reduceLT, Nat.reduceLeDiff, Nat.reduceMul, reduceCtorEq, plain, zeros]
  refine V_cut (fun pt st n => ∃ pp ll, (pp, ll) = roll p.length p (l.take k) ∧ pt 2 = .ptr 1 0 ∧ Lst st n (pt 3) 1 pp.length (pints pp) ∧ Lst st n (pt 4) 1 ll.length (pints ll) ∧ NewP 2 (pt 3) ∧ NewP 2 (pt 4) ∧ st 1 = .cells false .fix 0 [.v (.slice none 0 0), .v (.slice none 0 0)] ∧ 2 ≤ n) ?_ ?_
  · refine V_loop (fun r pt st n => ∃ pp ll, roll r pp ll = roll p.length p (l.take k) ∧ r = pp.length ∧ pp.length ≤ 1000 ∧ ll.length ≤ 1000 ∧ 0 < ll.length ∧ pt 2 = .ptr 1 0 ∧ Lst st n (pt 3) 1 pp.length (pints pp) ∧ Lst st n (pt 4) 1 ll.length (pints ll) ∧ NewP 2 (pt 3) ∧ NewP 2 (pt 4) ∧ st 1 = .cells false .fix 0 [.v (.slice none 0 0), .v (.slice none 0 0)] ∧ 2 ≤ n) p.length
      ⟨p, l.take k, rfl, rfl, b1, by omega, by omega, e2, by rw [e3]; exact gp, by rw [e4, hml2, ← hm]; exact gl, by rw [e3]; exact w1, by rw [e4]; exact w2, s1, by omega⟩ ?_
    rintro r pt st n ⟨pp, ll, hr, rfl, c1, c2, c3, e2, l3, l4, z3, z4, s1, hn2⟩
    generalize hP3 : pt 3 = P3 at *
    generalize hP4 : pt 4 = P4 at *
    obtain ⟨i4, d4, kd4, v4, ex4, rfl, y1, y2, y3, y4, y5, y6⟩ := l4.row' c3
    have wl : IntKind.i64.wrap ((ll.length : Int) - 1) = ((ll.length - 1 : Nat) : Int) := by rw [wrap_id (by omega) (by omega)]; omega
    by_cases h0 : 0 < pp.length
    · obtain ⟨i3, d3, kd3, v3, ex3, rfl, x1, x2, x3, x4, x5, x6⟩ := l3.row' h0
      have wp : IntKind.i64.wrap ((pp.length : Int) - 1) = ((pp.length - 1 : Nat) : Int) := by rw [wrap_id (by omega) (by omega)]; omega
      by_cases heq : pp.getD (pp.length - 1) 0 = ll.getD (ll.length - 1) 0
      · have hq3 := psl_own (h := pp.length - 1) (l := 0) (m := d3) (o := 0) x4 x5 (by omega)
        have y4' : ∀ o, (upd st n o) i4 = .cells false kd4 v4 (pints ll ++ ex4) := fun o => by rw [upd_ne (by omega)]; exact y4
        have hq4 := fun o => psl_own (st := upd st n o) (h := ll.length - 1) (l := 0) (m := d4) (o := 0) (y4' o) y5 (by omega)
        have ne3 : ¬ i3 = n := by omega
        have ne4 : ¬ i4 = n := by omega
        simp only [Nat.zero_add, Nat.zero_mul, Nat.sub_zero] at hq3 hq4
        try simp (disch := omega) only [PR, plen, pop, prd, prds, keptP, presAll, presOf, pone, Kd.w, Kd.spare, Obj.ver, peq, pparts, play, pbnd, binV, intV, ↓reduceIte, Nat.reduceAdd, Nat.reduceSub, Nat.reduceEqDiff, Nat.reduceLT, Nat.reduceLeDiff, Nat.reduceMul, reduceCtorEq, plain, zeros, hP3, hP4, e2, x4, y4, wp, wl, heq, hq3, hq4, ne3, ne4]
        refine app_lst (m := 1) (k := ll.length - 1) (cs := pints [ll.getD (ll.length - 1) 0]) (new := pints (ll.take (ll.length - 1))) (p := .row n 0 1 1) (q := .row i4 0 (ll.length - 1) d4) ⟨rfl, .inr ⟨n, 1, .fix, 0, [], rfl, by omega, by omega, by omega, upd_same _ _ _, rfl, .inl rfl, rfl⟩⟩ rfl rfl ?_ (by simp [pints_length]) pints_flat (by omega) (by omega) (by omega) fun p' st' n' hA hA1 hA2 hA3 => ?_
        · simp only [psrc, prds, y4']
          split
          · rename_i h0; have : ll.length - 1 = 0 := by omega
            rw [this]; simp [pints]
          · rw [if_pos (by simp [pints_length]; omega), List.drop_zero, Nat.mul_one, List.take_append_of_le_length (by simp [pints_length]), pints_take]; rfl
        have k3 : st' i3 = st i3 := by rw [hA2 i3 (by omega) (fun o m c e => by cases e; exact ne3 rfl), upd_ne ne3]
        have k1' : st' 1 = st 1 := by rw [hA2 1 (by omega) (fun o m c e => by cases e; omega), upd_ne (by omega)]
        try simp (disch := omega) only [PR, plen, pop, prd, prds, keptP, presAll, presOf, pone, Kd.w, Kd.spare, Obj.ver, peq, pparts, play, pbnd, binV, intV, ↓reduceIte, Nat.reduceAdd, Nat.reduceSub, Nat.reduceEqDiff, Nat.reduceLT, Nat.reduceLeDiff, Nat.reduceMul, reduceCtorEq, plain, zeros, hP3, hP4, e2, k3, x4, ne3]
        have hcut := (l3.cut (q := pp.length - 1) (by omega)).keep (st' := st') (n' := n') (by omega) fun i o m c e => by cases e; exact k3
        have hlen : 1 + (ll.length - 1) = ([ll.getD (ll.length - 1) 0] ++ ll.take (ll.length - 1)).length := by simp; omega
        rw [pints_append, hlen] at hA
        have hroll : roll pp.length pp ll = roll (pp.length - 1) (pp.take (pp.length - 1)) (ll.getD (ll.length - 1) 0 :: ll.take (ll.length - 1)) := by
          obtain ⟨q, hq⟩ : ∃ q, pp.length = q + 1 := ⟨pp.length - 1, by omega⟩
          conv => lhs; rw [hq, roll]
          rw [if_pos ⟨h0, heq⟩]
          have : pp.length - 1 = q := by omega
          rw [this]
        have htl : (pp.take (pp.length - 1)).length = pp.length - 1 := by simp
        rw [List.singleton_append] at hA
        refine ⟨pp.length - 1, by omega, pp.take (pp.length - 1), ll.getD (ll.length - 1) 0 :: ll.take (ll.length - 1), by rw [← hr, hroll], htl.symm, by omega, by simp; omega, by simp, by rw [htl]; exact hcut, hA, fun i o m c e => ?_, fun i o m c e => ?_, k1'.trans s1⟩
        · cases e; exact z3 _ _ _ _ rfl
        · rcases hA3 i o m c e with ⟨o', m', c', e'⟩ | h
          · cases e'; omega
          · omega
      · try simp (disch := omega) only [PR, plen, pop, prd, prds, keptP, presAll, presOf, pone, Kd.w, Kd.spare, Obj.ver, peq, pparts, play, pbnd, binV, intV, ↓reduceIte, Nat.reduceAdd, Nat.reduceSub, Nat.reduceEqDiff, Nat.reduceLT, Nat.reduceLeDiff, Nat.reduceMul, reduceCtorEq, plain, zeros, hP3, hP4, e2, x4, y4, wp, wl, heq]
        exact ⟨pp, ll, by rw [← hr, roll_stop (fun h => heq h.2)], l3, l4, z3, z4, s1⟩
    · have hp0 : pp.length = 0 := by omega
      rcases l3.2 with ⟨rfl, _⟩ | ⟨i3, d3, kd3, v3, ex3, rfl, x1, x2, x3, x4, x5, x6, x7⟩
      · try simp (disch := omega) only [PR, plen, pop, prd, prds, keptP, presAll, presOf, pone, Kd.w, Kd.spare, Obj.ver, peq, pparts, play, pbnd, binV, intV, ↓reduceIte, Nat.reduceAdd, Nat.reduceSub, Nat.reduceEqDiff, Nat.reduceLT, Nat.reduceLeDiff, Nat.reduceMul, reduceCtorEq, plain, zeros, hP3, hP4, e2, pnil]
        exact ⟨pp, ll, by rw [← hr, roll_stop (fun h => h0 h.1)], l3, l4, z3, z4, s1⟩
      · have l3' := l3
        rw [hp0] at l3'
        try simp (disch := omega) only [PR, plen, pop, prd, prds, keptP, presAll, presOf, pone, Kd.w, Kd.spare, Obj.ver, peq, pparts, play, pbnd, binV, intV, ↓reduceIte, Nat.reduceAdd, Nat.reduceSub, Nat.reduceEqDiff, Nat.reduceLT, Nat.reduceLeDiff, Nat.reduceMul, reduceCtorEq, plain, zeros, hP3, hP4, e2, hp0]
        exact ⟨pp, ll, by rw [← hr]; exact (roll_stop (fun h => h0 h.1)).symm, by rw [hp0]; exact l3', l4, fun i o m c e => z3 i o m c (by rw [hp0]; exact e), z4, s1⟩
  rintro pt st n ⟨pp, ll, hr, e2, l3, l4, z3, z4, s1, hn2⟩
  try simp (disch := omega) only [PR, plen, pop, prd, prds, pwr, keptP, presAll, presOf, pone, Kd.w, Kd.spare, Obj.ver, peq, pparts, play, psl, pbnd, binV, intV, ↓reduceIte, Nat.reduceAdd, Nat.reduceSub, Nat.reduceEqDiff, Nat.reduceLT, Nat.reduceLeDiff, Nat.reduceMul, reduceCtorEq, plain, zeros, e2, s1, l3.pc, l4.pc, l3.pf, l4.pf]
  have g3 := l3.keep (st' := upd st 1 (.cells false .fix 1 [pt 3, pt 4])) (Nat.le_refl n) fun i o m c e => upd_ne (by have := z3 _ _ _ _ e; omega)
  have g4 := l4.keep (st' := upd st 1 (.cells false .fix 1 [pt 3, pt 4])) (Nat.le_refl n) fun i o m c e => upd_ne (by have := z4 _ _ _ _ e; omega)
  rw [← hr]
  exact .agg rfl (PurL.cons (g3.pur (fun _ => trivial) (.plain pints_V)) (.cons (g4.pur (fun _ => trivial) (.plain pints_V)) .nil)).2
end Dm.YtmgehmhebnjaaaaGreatDoor
end
section
set_option maxRecDepth 100000
set_option linter.unusedSimpArgs false
namespace Dm.YtmgehmhebnjaaaaGreatDoor
open Go
theorem root_exists {l : List Int} (h : 0 < l.length) : ∃ k, IsRoot l k := by
  suffices H : ∀ m, ∀ k, k ≤ m → 1 ≤ k → k ≤ l.length → Per l k → ∃ k, IsRoot l k from H l.length l.length (Nat.le_refl _) h (Nat.le_refl _) (Per.self l h)
  intro m
  induction m with
  | zero => intro k h1 h2; omega
  | succ m ih =>
    intro k h1 h2 h3 h4
    by_cases hq : ∃ j, 1 ≤ j ∧ j < k ∧ Per l j
    · obtain ⟨j, q1, q2, q3⟩ := hq
      exact ih j (by omega) q1 (by omega) q3
    · exact ⟨k, h2, h3, h4, fun j q1 q2 q3 => hq ⟨j, q1, q2, q3⟩⟩
open Classical in
/-- After how many a list first repeats. -/
noncomputable def rootOf (l : List Int) : Nat := if h : ∃ k, IsRoot l k then Classical.choose h else 0
theorem rootOf_spec {l : List Int} (h : 0 < l.length) : IsRoot l (rootOf l) := by
  unfold rootOf
  rw [dif_pos (root_exists h)]
  exact Classical.choose_spec (root_exists h)
/-- The shortest form. -/
noncomputable def shortF (p l : List Int) : List Int × List Int := roll p.length p (l.take (rootOf l))
theorem wordErr_pos {p l : List Int} (h : wordErr p l = 0) : 0 < l.length := by
  unfold wordErr at h
  split at h
  · cases h
  · omega
theorem lassoShortest_c {p l : List Int} (b1 : p.length ≤ 1000) (b2 : l.length ≤ 1000) : Closed tab nopr 31 [pword p l] (.tup [if wordErr p l = 0 then pword (shortF p l).1 (shortF p l).2 else pword [] [], (PV.v (Value.int IntKind.i64 (wordErr p l)))]) := by
  refine Closed.of (mf := m31) rfl rfl rfl ?_
  try simp (disch := omega) only [PR, plen, pop, prd, prds, pwr, keptP, presAll, presOf, pone, Kd.w, Kd.spare, Obj.ver, peq, pparts, play, psl, pbnd, binV, intV, ↓reduceIte, Nat.reduceAdd, Nat.reduceSub, Nat.reduceEqDiff, Nat.reduceLT, Nat.reduceLeDiff, Nat.reduceMul, reduceCtorEq, plain, zeros, m31, pword]
  refine PAns.scalar (checkWord_c (p := p) (l := l) (by omega) (by omega)) (by repeat (first | exact PurL.nil | refine PurL.cons ?_ ?_ | exact Pur.v _ | exact Pur.sl _ _ | exact Pur.ep _ | exact Pur.fn _ rfl PurL.nil.2 | exact pword_pure _ _)) rfl ?_
  by_cases h : wordErr p l = 0
  · try simp (disch := omega) only [PR, plen, pop, prd, prds, pwr, keptP, presAll, presOf, pone, Kd.w, Kd.spare, Obj.ver, peq, pparts, play, psl, pbnd, binV, intV, ↓reduceIte, Nat.reduceAdd, Nat.reduceSub, Nat.reduceEqDiff, Nat.reduceLT, Nat.reduceLeDiff, Nat.reduceMul, reduceCtorEq, plain, zeros, h, if_true]
    refine PAns.closed (shortest_c b1 b2 (wordErr_pos h) (rootOf_spec (wordErr_pos h))) (by repeat (first | exact PurL.nil | refine PurL.cons ?_ ?_ | exact Pur.v _ | exact Pur.sl _ _ | exact Pur.ep _ | exact Pur.fn _ rfl PurL.nil.2 | exact pword_pure _ _)) ?_
    try simp (disch := omega) only [PR, plen, pop, prd, prds, pwr, keptP, presAll, presOf, pone, Kd.w, Kd.spare, Obj.ver, peq, pparts, play, psl, pbnd, binV, intV, ↓reduceIte, Nat.reduceAdd, Nat.reduceSub, Nat.reduceEqDiff, Nat.reduceLT, Nat.reduceLeDiff, Nat.reduceMul, reduceCtorEq, plain, zeros, pword]
    exact .tup rfl (PurL.cons (.agg rfl (PurL.cons (.sl _ _) (.cons (.sl _ _) .nil)).2) (.cons (.v _) .nil)).2
  · try simp (disch := omega) only [PR, plen, pop, prd, prds, pwr, keptP, presAll, presOf, pone, Kd.w, Kd.spare, Obj.ver, peq, pparts, play, psl, pbnd, binV, intV, ↓reduceIte, Nat.reduceAdd, Nat.reduceSub, Nat.reduceEqDiff, Nat.reduceLT, Nat.reduceLeDiff, Nat.reduceMul, reduceCtorEq, plain, zeros, h, if_false]
    have z : ∀ st, Pur anyRow st (.v (.slice none 0 0)) (.sl 0 (pints [])) := fun st => (Lst.nil (st := st) (n := 0) 1).pur (fun _ => trivial) .nil
    have z2 : ∀ st, Pur anyRow st (.agg [.v (.slice none 0 0), .v (.slice none 0 0)]) (.agg [.sl 0 (pints []), .sl 0 (pints [])]) := fun st => .agg rfl (PurL.cons (z st) (.cons (z st) .nil)).2
    exact .tup rfl (PurL.cons (z2 _) (.cons (.v _) .nil)).2
theorem refOnce_c {l : List Int} (hl : l.length ≤ 1000000) : ClosedF tab nopr 85 [.sl l.length (pints l)] 1 (once l).length (pints (once l)) := by
  refine ClosedF.of (mf := m85) rfl rfl rfl ?_
  try simp (disch := omega) only [PR, plen, pop, prd, prds, pwr, keptP, presAll, presOf, pone, Kd.w, Kd.spare, Obj.ver, peq, pparts, play, psl, pbnd, binV, intV, ↓reduceIte, Nat.reduceAdd, Nat.reduceSub, Nat.reduceEqDiff, Nat.reduceLT, Nat.reduceLeDiff, Nat.reduceMul, reduceCtorEq, plain, zeros, m85]
  refine V_count (fun i pt st n => i ≤ l.length ∧ pt 0 = .sl l.length (pints l) ∧ pt 4 = (PV.v (Value.int IntKind.i64 (i))) ∧ Lst st n (pt 3) 1 (onceTo l i).length (pints (onceTo l i))) l.length ⟨by omega, rfl, rfl, .nil 1⟩ ?_
  rintro i pt st n hi ⟨_, e0, e4, hL⟩
  have hle := onceTo_le l i
  by_cases hlt : i < l.length
  · by_cases h0 : i = 0
    · subst h0
      try simp (disch := omega) only [PR, plen, pop, prd, prds, pwr, keptP, presAll, presOf, pone, Kd.w, Kd.spare, Obj.ver, peq, pparts, play, psl, pbnd, binV, intV, ↓reduceIte, Nat.reduceAdd, Nat.reduceSub, Nat.reduceEqDiff, Nat.reduceLT, Nat.reduceLeDiff, Nat.reduceMul, reduceCtorEq, plain, zeros, e0, e4]
      refine app_lst (m := 0) (k := 1) (cs := []) (new := pints [l.getD 0 0]) (p := pt 3) (q := .row n 0 1 1) (hL.keep (by omega) fun i o m c e => upd_ne (by have := hL.lt e; omega)) rfl rfl (by simp [psrc, prds, upd_same, pints]) rfl rfl (by omega) (by omega) (by omega) fun p' st' n' h _ _ _ => ?_
      try simp (disch := omega) only [PR, plen, pop, prd, prds, pwr, keptP, presAll, presOf, pone, Kd.w, Kd.spare, Obj.ver, peq, pparts, play, psl, pbnd, binV, intV, ↓reduceIte, Nat.reduceAdd, Nat.reduceSub, Nat.reduceEqDiff, Nat.reduceLT, Nat.reduceLeDiff, Nat.reduceMul, reduceCtorEq, plain, zeros, e0, e4]
      exact ⟨rfl, h⟩
    · have ew : IntKind.i64.wrap ((i : Int) - 1) = ((i - 1 : Nat) : Int) := by rw [wrap_id (by omega) (by omega)]; omega
      by_cases heq : l.getD i 0 = l.getD (i - 1) 0
      · try simp (disch := omega) only [PR, plen, pop, prd, prds, pwr, keptP, presAll, presOf, pone, Kd.w, Kd.spare, Obj.ver, peq, pparts, play, psl, pbnd, binV, intV, ↓reduceIte, Nat.reduceAdd, Nat.reduceSub, Nat.reduceEqDiff, Nat.reduceLT, Nat.reduceLeDiff, Nat.reduceMul, reduceCtorEq, plain, zeros, e0, e4, ew, heq, psubi]
        have ho : onceTo l (i + 1) = onceTo l i := by rw [onceTo, if_neg (by rintro (h | h); exact h0 h; exact h heq), List.append_nil]
        rw [ho]
        exact ⟨rfl, hL⟩
      · try simp (disch := omega) only [PR, plen, pop, prd, prds, pwr, keptP, presAll, presOf, pone, Kd.w, Kd.spare, Obj.ver, peq, pparts, play, psl, pbnd, binV, intV, ↓reduceIte, Nat.reduceAdd, Nat.reduceSub, Nat.reduceEqDiff, Nat.reduceLT, Nat.reduceLeDiff, Nat.reduceMul, reduceCtorEq, plain, zeros, e0, e4, ew, heq, psubi]
        have ho : onceTo l (i + 1) = onceTo l i ++ [l.getD i 0] := by rw [onceTo, if_pos (.inr heq)]
        refine app_lst (k := 1) (new := pints [l.getD i 0]) (p := pt 3) (q := .row n 0 1 1) (hL.keep (by omega) fun i o m c e => upd_ne (by have := hL.lt e; omega)) rfl rfl (by simp [psrc, prds, upd_same, pints]) rfl rfl (by omega) (by omega) (by omega) fun p' st' n' h _ _ _ => ?_
        try simp (disch := omega) only [PR, plen, pop, prd, prds, pwr, keptP, presAll, presOf, pone, Kd.w, Kd.spare, Obj.ver, peq, pparts, play, psl, pbnd, binV, intV, ↓reduceIte, Nat.reduceAdd, Nat.reduceSub, Nat.reduceEqDiff, Nat.reduceLT, Nat.reduceLeDiff, Nat.reduceMul, reduceCtorEq, plain, zeros, e0, e4]
        rw [pints_append] at h
        rw [ho, List.length_append]
        exact ⟨rfl, h⟩
  · have hi' : i = l.length := by omega
    subst hi'
    try simp (disch := omega) only [PR, plen, pop, prd, prds, pwr, keptP, presAll, presOf, pone, Kd.w, Kd.spare, Obj.ver, peq, pparts, play, psl, pbnd, binV, intV, ↓reduceIte, Nat.reduceAdd, Nat.reduceSub, Nat.reduceEqDiff, Nat.reduceLT, Nat.reduceLeDiff, Nat.reduceMul, reduceCtorEq, plain, zeros, e0, e4]
    exact hL.lstP pints_V
end Dm.YtmgehmhebnjaaaaGreatDoor
end
section
set_option maxRecDepth 100000
set_option linter.unusedSimpArgs false
namespace Dm.YtmgehmhebnjaaaaGreatDoor
open Go
theorem per_iff {l : List Int} {k : Nat} (h1 : 1 ≤ k) (h2 : k ≤ l.length) : Per l k ↔ (l.length % k = 0 ∧ ∀ j, k ≤ j → j < l.length → l.getD j 0 = l.getD (j - k) 0) := by
  unfold Per
  constructor
  · rintro ⟨hm, ht⟩
    refine ⟨hm, fun j a b => ?_⟩
    have hD : k * (l.length / k) = l.length := Nat.mul_div_cancel' (Nat.dvd_of_mod_eq_zero hm)
    have hk : (l.take k).length = k := by simp; omega
    have g : ∀ i, i < l.length → l.getD i 0 = (l.take k).getD (i % k) 0 := fun i hi => by
      have := times_get (l := l.take k) (k := l.length / k) (j := i) (by rw [hk, hD]; exact hi)
      rw [ht, hk] at this
      exact this
    rw [g j b, g (j - k) (by omega)]
    congr 1
    exact (Nat.mod_eq_sub_mod a)
  · rintro ⟨hm, hp⟩
    refine ⟨hm, ?_⟩
    have hD : k * (l.length / k) = l.length := Nat.mul_div_cancel' (Nat.dvd_of_mod_eq_zero hm)
    have hk : (l.take k).length = k := by simp; omega
    have hlen : (times (l.take k) (l.length / k)).length = l.length := by rw [times_length, hk, hD]
    have gp : ∀ i, i < l.length → l.getD i 0 = l.getD (i % k) 0 := by
      intro i
      induction i using Nat.strongRecOn with
      | ind i ih =>
        intro hi
        by_cases hik : i < k
        · rw [Nat.mod_eq_of_lt hik]
        · rw [hp i (by omega) hi, ih (i - k) (by omega) (by omega), ← Nat.mod_eq_sub_mod (by omega)]
    apply List.ext_getElem hlen
    intro i a b
    have e := times_get (l := l.take k) (k := l.length / k) (j := i) (by rw [hk, hD]; exact b)
    rw [List.getD_eq_getElem?_getD, List.getElem?_eq_getElem a, hk] at e
    have e2 := gp i b
    rw [List.getD_eq_getElem?_getD, List.getElem?_eq_getElem b] at e2
    have hlt : i % k < k := Nat.mod_lt _ (by omega)
    have e3 : (l.take k).getD (i % k) 0 = l.getD (i % k) 0 := by
      rw [List.getD_eq_getElem?_getD, List.getD_eq_getElem?_getD, List.getElem?_take_of_lt hlt]
    simp only [Option.getD_some] at e e2
    rw [e, e2, e3]
instance {l : List Int} {k : Nat} : Decidable (Per l k) := by unfold Per; infer_instance
theorem refShortest_c {p l : List Int} (b1 : p.length ≤ 1000) (b2 : l.length ≤ 1000) (hne : 0 < l.length) {k : Nat} (hk : IsRoot l k) : Closed tab nopr 34 [pword p l] (pword (roll p.length p (l.take k)).1 (roll p.length p (l.take k)).2) := by
  refine Closed.of (mf := m34) rfl rfl rfl ?_
  try simp (disch := omega) only [PR, plen, pop, prd, prds, pwr, keptP, presAll, presOf, pone, Kd.w, Kd.spare, Obj.ver, peq, pparts, play, psl, pbnd, binV, intV, ↓reduceIte, Nat.reduceAdd, Nat.reduceSub, Nat.reduceEqDiff, Nat.reduceLT, Nat.reduceLeDiff, Nat.reduceMul, reduceCtorEq, plain, zeros, m34, pword]
  refine PAns.freshV (ownInts_c (l := l) (by omega)) (by repeat (first | exact PurL.nil | refine PurL.cons ?_ ?_ | exact Pur.v _ | exact Pur.sl _ _ | exact Pur.ep _ | exact Pur.fn _ rfl PurL.nil.2 | exact pword_pure _ _)) pints_V fun p2 st2 n2 h2 hn2 hk2 hw2 => ?_
  rcases h2.2 with ⟨rfl, h0⟩ | ⟨i, c, kd, vr, ex, rfl, q1, q2, q3, q4, q5, q6, q7⟩
  · omega
  try simp (disch := omega) only [PR, plen, pop, prd, prds, pwr, keptP, presAll, presOf, pone, Kd.w, Kd.spare, Obj.ver, peq, pparts, play, psl, pbnd, binV, intV, ↓reduceIte, Nat.reduceAdd, Nat.reduceSub, Nat.reduceEqDiff, Nat.reduceLT, Nat.reduceLeDiff, Nat.reduceMul, reduceCtorEq, plain, zeros, hk2]
  refine V_cut (fun pt st n => ∃ m, l.take m = l.take k ∧ m ≤ l.length ∧ 1 ≤ m ∧ pt 1 = .ptr 0 0 ∧ pt 2 = .ptr 1 0 ∧ pt 3 = .row i 0 m c ∧ n2 ≤ n ∧ ∀ j, j < n2 → st j = st2 j) ?_ ?_
  · refine V_count (fun j pt st n => j + 1 ≤ l.length ∧ (∀ q, 1 ≤ q → q ≤ j → ¬ Per l q) ∧ pt 1 = .ptr 0 0 ∧ pt 2 = .ptr 1 0 ∧ pt 3 = .row i 0 l.length c ∧ pt 4 = (PV.v (Value.int IntKind.i64 ((j + 1 : Nat)))) ∧ n2 ≤ n ∧ ∀ j, j < n2 → st j = st2 j) (l.length - 1) ⟨by omega, fun q h1 h2 => by omega, rfl, rfl, rfl, rfl, Nat.le_refl _, fun _ _ => rfl⟩ ?_
    rintro j pt st n hj ⟨hj1, hno, e1, e2, e3, e4, hn, hst⟩
    have es := (hst i q1).trans q4
    have hm : ((l.length : Int)).tmod ((j + 1 : Nat) : Int) = ((l.length % (j + 1) : Nat) : Int) := (Int.ofNat_tmod _ _).symm
    have hz : ¬ (((j + 1 : Nat) : Int) = 0) := by omega
    have hP := per_iff (l := l) (k := j + 1) (by omega) (by omega)
    try simp (disch := omega) only [PR, plen, pop, prd, prds, keptP, presAll, presOf, pone, Kd.w, Kd.spare, Obj.ver, peq, pparts, play, pbnd, binV, intV, ↓reduceIte, Nat.reduceAdd, Nat.reduceSub, Nat.reduceEqDiff, Nat.reduceLT, Nat.reduceLeDiff, Nat.reduceMul, reduceCtorEq, plain, zeros, e1, e2, e3, e4, hm, hz]
    refine V_cut (fun pt st n => pt 1 = .ptr 0 0 ∧ pt 2 = .ptr 1 0 ∧ pt 3 = .row i 0 l.length c ∧ pt 4 = (PV.v (Value.int IntKind.i64 ((j + 1 : Nat)))) ∧ pt 5 = (PV.v (Value.bool (decide (Per l (j + 1))))) ∧ n2 ≤ n ∧ ∀ j, j < n2 → st j = st2 j) ?_ ?_
    · generalize l.length % (j + 1) = M at *
      refine V_count (fun b pt st n => j + 1 + b ≤ l.length ∧ (∃ v : Bool, pt 5 = (PV.v (Value.bool (v))) ∧ (v = true ↔ (M = 0 ∧ ∀ q, j + 1 ≤ q → q < j + 1 + b → l.getD q 0 = l.getD (q - (j + 1)) 0))) ∧ pt 1 = .ptr 0 0 ∧ pt 2 = .ptr 1 0 ∧ pt 3 = .row i 0 l.length c ∧ pt 4 = (PV.v (Value.int IntKind.i64 ((j + 1 : Nat)))) ∧ pt 6 = (PV.v (Value.int IntKind.i64 ((j + 1 + b : Nat)))) ∧ n2 ≤ n ∧ ∀ j, j < n2 → st j = st2 j) (l.length - (j + 1)) ?_ ?_
      · refine ⟨by omega, ⟨((M : Int) == 0), rfl, ?_⟩, e1, e2, e3, e4, rfl, hn, hst⟩
        constructor
        · intro h
          have : (M : Int) = 0 := by simpa using h
          exact ⟨by omega, fun q h1 h2 => absurd h2 (by omega)⟩
        · rintro ⟨h, _⟩
          subst h
          rfl
      rintro b pt st n hb ⟨hb1, ⟨v, e5, hv⟩, e1, e2, e3, e4, e6, hn, hst⟩
      have es := (hst i q1).trans q4
      have ew : IntKind.i64.wrap (((j + 1 + b : Nat) : Int) - ((j + 1 : Nat) : Int)) = (b : Int) := by rw [wrap_id (by omega) (by omega)]; omega
      by_cases hlt : j + 1 + b < l.length
      · cases v
        · have hnp : ¬ Per l (j + 1) := fun h => by
            have := hP.1 h
            exact Bool.noConfusion (hv.2 ⟨this.1, fun q h1 h2 => this.2 q h1 (by omega)⟩)
          try simp (disch := omega) only [PR, plen, pop, prd, prds, keptP, presAll, presOf, pone, Kd.w, Kd.spare, Obj.ver, peq, pparts, play, pbnd, binV, intV, ↓reduceIte, Nat.reduceAdd, Nat.reduceSub, Nat.reduceEqDiff, Nat.reduceLT, Nat.reduceLeDiff, Nat.reduceMul, reduceCtorEq, plain, zeros, e1, e2, e3, e4, e5, e6, es]
          exact ⟨by rw [decide_eq_false hnp], hst⟩
        · try simp (disch := omega) only [PR, plen, pop, prd, prds, keptP, presAll, presOf, pone, Kd.w, Kd.spare, Obj.ver, peq, pparts, play, pbnd, binV, intV, ↓reduceIte, Nat.reduceAdd, Nat.reduceSub, Nat.reduceEqDiff, Nat.reduceLT, Nat.reduceLeDiff, Nat.reduceMul, reduceCtorEq, plain, zeros, e1, e2, e3, e4, e5, e6, es, ew]
          have hv1 := hv.1 rfl
          refine ⟨⟨_, rfl, ?_⟩, by congr 2, hst⟩
          constructor
          · intro h
            have h' : l.getD (j + 1 + b) 0 = l.getD b 0 := by simpa using h
            refine ⟨hv1.1, fun q h1 h2 => ?_⟩
            by_cases hq : q = j + 1 + b
            · subst hq
              rw [h']
              congr 1
              omega
            · exact hv1.2 q h1 (by omega)
          · rintro ⟨_, h⟩
            have := h (j + 1 + b) (by omega) (by omega)
            have e : j + 1 + b - (j + 1) = b := by omega
            rw [e] at this
            simpa using this
      · cases v
        · have hnp : ¬ Per l (j + 1) := fun h => by
            have := hP.1 h
            exact Bool.noConfusion (hv.2 ⟨this.1, fun q h1 h2 => this.2 q h1 (by omega)⟩)
          try simp (disch := omega) only [PR, plen, pop, prd, prds, keptP, presAll, presOf, pone, Kd.w, Kd.spare, Obj.ver, peq, pparts, play, pbnd, binV, intV, ↓reduceIte, Nat.reduceAdd, Nat.reduceSub, Nat.reduceEqDiff, Nat.reduceLT, Nat.reduceLeDiff, Nat.reduceMul, reduceCtorEq, plain, zeros, e1, e2, e3, e4, e5, e6, es]
          exact ⟨by rw [decide_eq_false hnp], hst⟩
        · have hv1 := hv.1 rfl
          have hnp : Per l (j + 1) := hP.2 ⟨hv1.1, fun q h1 h2 => hv1.2 q h1 (by omega)⟩
          try simp (disch := omega) only [PR, plen, pop, prd, prds, keptP, presAll, presOf, pone, Kd.w, Kd.spare, Obj.ver, peq, pparts, play, pbnd, binV, intV, ↓reduceIte, Nat.reduceAdd, Nat.reduceSub, Nat.reduceEqDiff, Nat.reduceLT, Nat.reduceLeDiff, Nat.reduceMul, reduceCtorEq, plain, zeros, e1, e2, e3, e4, e5, e6, es]
          exact ⟨by rw [decide_eq_true hnp], hst⟩
    · rintro pt st n ⟨e1, e2, e3, e4, e5, hn, hst⟩
      have es := (hst i q1).trans q4
      by_cases hper : Per l (j + 1)
      · have hd2 : decide (Per l (j + 1)) = true := by simpa using hper
        have hp3 := psl_own (h := j + 1) (l := 0) (m := c) (o := 0) es q6 (by omega)
        simp only [Nat.zero_add, Nat.zero_mul, Nat.sub_zero] at hp3
        have hkj : k = j + 1 := hk.uniq ⟨by omega, by omega, hper, fun q h1 h2 => hno q h1 (by omega)⟩
        try simp (disch := omega) only [PR, plen, pop, prd, prds, keptP, presAll, presOf, pone, Kd.w, Kd.spare, Obj.ver, peq, pparts, play, pbnd, binV, intV, ↓reduceIte, Nat.reduceAdd, Nat.reduceSub, Nat.reduceEqDiff, Nat.reduceLT, Nat.reduceLeDiff, Nat.reduceMul, reduceCtorEq, plain, zeros, e1, e2, e3, e4, e5, hd2, hp3]
        exact ⟨j + 1, by rw [hkj], by omega, by omega, rfl, hst⟩
      · have hd2 : decide (Per l (j + 1)) = false := by simpa using hper
        have hjl : j + 1 < l.length := by
          apply Decidable.byContradiction
          intro hc
          have : j + 1 = l.length := by omega
          exact hper (this ▸ Per.self l hne)
        try simp (disch := omega) only [PR, plen, pop, prd, prds, keptP, presAll, presOf, pone, Kd.w, Kd.spare, Obj.ver, peq, pparts, play, pbnd, binV, intV, ↓reduceIte, Nat.reduceAdd, Nat.reduceSub, Nat.reduceEqDiff, Nat.reduceLT, Nat.reduceLeDiff, Nat.reduceMul, reduceCtorEq, plain, zeros, e1, e2, e3, e4, e5, hd2]
        refine ⟨fun q h1 h2 => ?_, rfl, hst⟩
        by_cases hq : q = j + 1
        · subst hq; exact hper
        · exact hno q h1 (by omega)
  rintro pt st n ⟨m, hm, hml, hm1, e1, e2, e3, hn, hst⟩
  have gl0 : Lst st n (.row i 0 l.length c) 1 l.length (pints l) := h2.keep hn fun i o m c e => hst i (h2.lt e)
  have gl := gl0.cut hml
  have s0 : st 0 = .cells false .fix 0 [.sl p.length (pints p), .sl l.length (pints l)] := by
    rw [hst 0 (by omega), hk2 0 (by omega)]; rfl
  have s1 : st 1 = .cells false .fix 0 [.v (.slice none 0 0), .v (.slice none 0 0)] := by
    rw [hst 1 (by omega), hk2 1 (by omega)]; rfl
  have w2 : NewP 2 (.row i 0 m c) := fun i' o m c e => by cases e; have := hw2 _ _ _ _ rfl; omega
  have hml2 : (l.take k).length = m := by rw [← hm]; simp; omega
  try simp (disch := omega) only [PR, plen, pop, prd, prds, keptP, presAll, presOf, pone, Kd.w, Kd.spare, Obj.ver, peq, pparts, play, pbnd, binV, intV, ↓reduceIte, Nat.reduceAdd, Nat.reduceSub, Nat.reduceEqDiff, Nat.reduceLT, Nat.reduceLeDiff, Nat.reduceMul, reduceCtorEq, plain, zeros, e1, e2, e3, s0]
  refine PAns.freshV (ownInts_c (l := p) (by omega)) (by repeat (first | exact PurL.nil | refine PurL.cons ?_ ?_ | exact Pur.v _ | exact Pur.sl _ _ | exact Pur.ep _ | exact Pur.fn _ rfl PurL.nil.2 | exact pword_pure _ _)) pints_V fun p1 st1 n1 h1 hn1 hk1 hw1 => ?_
  have gp : Lst st1 n1 (.row i 0 m c) 1 m (pints (l.take m)) := gl.keep hn1 fun i o m c e => hk1 i (gl.lt e)
  have hw1' : NewP 2 p1 := fun i' o m c e => by have := hw1 _ _ _ _ e; omega
  have s1' : st1 1 = .cells false .fix 0 [.v (.slice none 0 0), .v (.slice none 0 0)] := by rw [hk1 1 (by omega), s1]
  try simp (disch := omega) only [PR, plen, pop, prd, prds, keptP, presAll, presOf, pone, Kd.w, Kd.spare, Obj.ver, peq, pparts, play, pbnd, binV, intV, ↓reduceIte, Nat.reduceAdd, Nat.reduceSub, Nat.reduceEqDiff, Nat.reduceLT, Nat.reduceLeDiff, Nat.reduceMul, reduceCtorEq, plain, zeros]
  refine V_cut (fun pt st n => ∃ pp ll, (pp, ll) = roll p.length p (l.take k) ∧ pt 2 = .ptr 1 0 ∧ Lst st n (pt 7) 1 pp.length (pints pp) ∧ Lst st n (pt 3) 1 ll.length (pints ll) ∧ NewP 2 (pt 7) ∧ NewP 2 (pt 3) ∧ st 1 = .cells false .fix 0 [.v (.slice none 0 0), .v (.slice none 0 0)] ∧ 2 ≤ n) ?_ ?_
  · refine V_loop (fun r pt st n => ∃ pp ll, roll r pp ll = roll p.length p (l.take k) ∧ r = pp.length ∧ pp.length ≤ 1000 ∧ ll.length ≤ 1000 ∧ 0 < ll.length ∧ pt 2 = .ptr 1 0 ∧ Lst st n (pt 7) 1 pp.length (pints pp) ∧ Lst st n (pt 3) 1 ll.length (pints ll) ∧ NewP 2 (pt 7) ∧ NewP 2 (pt 3) ∧ st 1 = .cells false .fix 0 [.v (.slice none 0 0), .v (.slice none 0 0)] ∧ 2 ≤ n) p.length
      ⟨p, l.take k, rfl, rfl, b1, by omega, by omega, e2, h1, show Lst st1 n1 (pt 3) 1 (l.take k).length (pints (l.take k)) by rw [e3, hml2, ← hm]; exact gp, hw1', show NewP 2 (pt 3) by rw [e3]; exact w2, s1', by omega⟩ ?_
    rintro r pt st n ⟨pp, ll, hr, rfl, c1, c2, c3, e2, l3, l4, z3, z4, s1, hn2⟩
    generalize hP3 : pt 7 = P3 at *
    generalize hP4 : pt 3 = P4 at *
    obtain ⟨i4, d4, kd4, v4, ex4, rfl, y1, y2, y3, y4, y5, y6⟩ := l4.row' c3
    have wl : IntKind.i64.wrap ((ll.length : Int) - 1) = ((ll.length - 1 : Nat) : Int) := by rw [wrap_id (by omega) (by omega)]; omega
    by_cases h0 : 0 < pp.length
    · obtain ⟨i3, d3, kd3, v3, ex3, rfl, x1, x2, x3, x4, x5, x6⟩ := l3.row' h0
      have wp : IntKind.i64.wrap ((pp.length : Int) - 1) = ((pp.length - 1 : Nat) : Int) := by rw [wrap_id (by omega) (by omega)]; omega
      by_cases heq : pp.getD (pp.length - 1) 0 = ll.getD (ll.length - 1) 0
      · have hq3 := psl_own (h := pp.length - 1) (l := 0) (m := d3) (o := 0) x4 x5 (by omega)
        have y4' : ∀ o, (upd st n o) i4 = .cells false kd4 v4 (pints ll ++ ex4) := fun o => by rw [upd_ne (by omega)]; exact y4
        have hq4 := fun o => psl_own (st := upd st n o) (h := ll.length - 1) (l := 0) (m := d4) (o := 0) (y4' o) y5 (by omega)
        have ne3 : ¬ i3 = n := by omega
        have ne4 : ¬ i4 = n := by omega
        simp only [Nat.zero_add, Nat.zero_mul, Nat.sub_zero] at hq3 hq4
        try simp (disch := omega) only [PR, plen, pop, prd, prds, keptP, presAll, presOf, pone, Kd.w, Kd.spare, Obj.ver, peq, pparts, play, pbnd, binV, intV, ↓reduceIte, Nat.reduceAdd, Nat.reduceSub, Nat.reduceEqDiff, Nat.reduceLT, Nat.reduceLeDiff, Nat.reduceMul, reduceCtorEq, plain, zeros, hP3, hP4, e2, x4, y4, wp, wl, heq, hq3, hq4, ne3, ne4]
        refine app_lst (m := 1) (k := ll.length - 1) (cs := pints [ll.getD (ll.length - 1) 0]) (new := pints (ll.take (ll.length - 1))) (p := .row n 0 1 1) (q := .row i4 0 (ll.length - 1) d4) ⟨rfl, .inr ⟨n, 1, .fix, 0, [], rfl, by omega, by omega, by omega, upd_same _ _ _, rfl, .inl rfl, rfl⟩⟩ rfl rfl ?_ (by simp [pints_length]) pints_flat (by omega) (by omega) (by omega) fun p' st' n' hA hA1 hA2 hA3 => ?_
        · simp only [psrc, prds, y4']
          split
          · rename_i h0; have : ll.length - 1 = 0 := by omega
            rw [this]; simp [pints]
          · rw [if_pos (by simp [pints_length]; omega), List.drop_zero, Nat.mul_one, List.take_append_of_le_length (by simp [pints_length]), pints_take]; rfl
        have k3 : st' i3 = st i3 := by rw [hA2 i3 (by omega) (fun o m c e => by cases e; exact ne3 rfl), upd_ne ne3]
        have k1' : st' 1 = st 1 := by rw [hA2 1 (by omega) (fun o m c e => by cases e; omega), upd_ne (by omega)]
        have hq5 := psl_own (h := pp.length - 1) (l := 0) (m := d3) (o := 0) (k3.trans x4) x5 (by omega)
        simp only [Nat.zero_add, Nat.zero_mul, Nat.sub_zero] at hq5
        try simp (disch := omega) only [PR, plen, pop, prd, prds, keptP, presAll, presOf, pone, Kd.w, Kd.spare, Obj.ver, peq, pparts, play, pbnd, binV, intV, ↓reduceIte, Nat.reduceAdd, Nat.reduceSub, Nat.reduceEqDiff, Nat.reduceLT, Nat.reduceLeDiff, Nat.reduceMul, reduceCtorEq, plain, zeros, hP3, hP4, e2, k3, x4, ne3, wp, hq5]
        have hcut := (l3.cut (q := pp.length - 1) (by omega)).keep (st' := st') (n' := n') (by omega) fun i o m c e => by cases e; exact k3
        have hlen : 1 + (ll.length - 1) = ([ll.getD (ll.length - 1) 0] ++ ll.take (ll.length - 1)).length := by simp; omega
        rw [pints_append, hlen] at hA
        have hroll : roll pp.length pp ll = roll (pp.length - 1) (pp.take (pp.length - 1)) (ll.getD (ll.length - 1) 0 :: ll.take (ll.length - 1)) := by
          obtain ⟨q, hq⟩ : ∃ q, pp.length = q + 1 := ⟨pp.length - 1, by omega⟩
          conv => lhs; rw [hq, roll]
          rw [if_pos ⟨h0, heq⟩]
          have : pp.length - 1 = q := by omega
          rw [this]
        have htl : (pp.take (pp.length - 1)).length = pp.length - 1 := by simp
        rw [List.singleton_append] at hA
        refine ⟨pp.length - 1, by omega, pp.take (pp.length - 1), ll.getD (ll.length - 1) 0 :: ll.take (ll.length - 1), by rw [← hr, hroll], htl.symm, by omega, by simp; omega, by simp, by rw [htl]; exact hcut, hA, fun i o m c e => ?_, fun i o m c e => ?_, k1'.trans s1⟩
        · cases e; exact z3 _ _ _ _ rfl
        · rcases hA3 i o m c e with ⟨o', m', c', e'⟩ | h
          · cases e'; omega
          · omega
      · try simp (disch := omega) only [PR, plen, pop, prd, prds, keptP, presAll, presOf, pone, Kd.w, Kd.spare, Obj.ver, peq, pparts, play, pbnd, binV, intV, ↓reduceIte, Nat.reduceAdd, Nat.reduceSub, Nat.reduceEqDiff, Nat.reduceLT, Nat.reduceLeDiff, Nat.reduceMul, reduceCtorEq, plain, zeros, hP3, hP4, e2, x4, y4, wp, wl, heq]
        exact ⟨pp, ll, by rw [← hr, roll_stop (fun h => heq h.2)], l3, l4, z3, z4, s1⟩
    · have hp0 : pp.length = 0 := by omega
      rcases l3.2 with ⟨rfl, _⟩ | ⟨i3, d3, kd3, v3, ex3, rfl, x1, x2, x3, x4, x5, x6, x7⟩
      · try simp (disch := omega) only [PR, plen, pop, prd, prds, keptP, presAll, presOf, pone, Kd.w, Kd.spare, Obj.ver, peq, pparts, play, pbnd, binV, intV, ↓reduceIte, Nat.reduceAdd, Nat.reduceSub, Nat.reduceEqDiff, Nat.reduceLT, Nat.reduceLeDiff, Nat.reduceMul, reduceCtorEq, plain, zeros, hP3, hP4, e2, pnil]
        exact ⟨pp, ll, by rw [← hr, roll_stop (fun h => h0 h.1)], l3, l4, z3, z4, s1⟩
      · have l3' := l3
        rw [hp0] at l3'
        try simp (disch := omega) only [PR, plen, pop, prd, prds, keptP, presAll, presOf, pone, Kd.w, Kd.spare, Obj.ver, peq, pparts, play, pbnd, binV, intV, ↓reduceIte, Nat.reduceAdd, Nat.reduceSub, Nat.reduceEqDiff, Nat.reduceLT, Nat.reduceLeDiff, Nat.reduceMul, reduceCtorEq, plain, zeros, hP3, hP4, e2, hp0]
        exact ⟨pp, ll, by rw [← hr]; exact (roll_stop (fun h => h0 h.1)).symm, by rw [hp0]; exact l3', l4, fun i o m c e => z3 i o m c (by rw [hp0]; exact e), z4, s1⟩
  rintro pt st n ⟨pp, ll, hr, e2, l3, l4, z3, z4, s1, hn2⟩
  try simp (disch := omega) only [PR, plen, pop, prd, prds, pwr, keptP, presAll, presOf, pone, Kd.w, Kd.spare, Obj.ver, peq, pparts, play, psl, pbnd, binV, intV, ↓reduceIte, Nat.reduceAdd, Nat.reduceSub, Nat.reduceEqDiff, Nat.reduceLT, Nat.reduceLeDiff, Nat.reduceMul, reduceCtorEq, plain, zeros, e2, s1, l3.pc, l4.pc, l3.pf, l4.pf]
  have g3 := l3.keep (st' := upd st 1 (.cells false .fix 1 [pt 7, pt 3])) (Nat.le_refl n) fun i o m c e => upd_ne (by have := z3 _ _ _ _ e; omega)
  have g4 := l4.keep (st' := upd st 1 (.cells false .fix 1 [pt 7, pt 3])) (Nat.le_refl n) fun i o m c e => upd_ne (by have := z4 _ _ _ _ e; omega)
  rw [← hr]
  exact .agg rfl (PurL.cons (g3.pur (fun _ => trivial) (.plain pints_V)) (.cons (g4.pur (fun _ => trivial) (.plain pints_V)) .nil)).2
end Dm.YtmgehmhebnjaaaaGreatDoor
end
section
set_option maxRecDepth 100000
set_option linter.unusedSimpArgs false
namespace Dm.YtmgehmhebnjaaaaGreatDoor
open Go
/-- The letters of the loop that differ from the one before, the loop being closed. -/
def loopS (l : List Int) : List Int := (once (l.getD (l.length - 1) 0 :: l)).drop 1
/-- The word without stuttering, not yet in its shortest form. -/
def unsF (p l : List Int) : List Int × List Int := if (loopS l).length = 0 then ((once (p ++ l)).take ((once (p ++ l)).length - 1), [l.getD (l.length - 1) 0]) else (once (p ++ l), loopS l)
theorem once_le (l : List Int) : (once l).length ≤ l.length := onceTo_le l l.length
theorem once_pos {l : List Int} (h : 0 < l.length) : 0 < (once l).length := by
  obtain ⟨k, hk⟩ : ∃ k, l.length = k + 1 := ⟨l.length - 1, by omega⟩
  have : ∀ k, 0 < (onceTo l (k + 1)).length := by
    intro k
    induction k with
    | zero => simp [onceTo]
    | succ k ih => rw [onceTo, List.length_append]; omega
  unfold once
  rw [hk]
  exact this k
theorem pur_off {ok : Nat → Bool → Prop} {st : St} {i o n c vr : Nat} {fz : Bool} {kd : Kd} {L M : List Int} {ex : List PV} (h : st i = .cells fz kd vr (pints L ++ ex)) (hok : ok i fz) (hk : kd = .fix ∨ kd = .loose 1) (hn : o + n ≤ L.length) (hM : (L.drop o).take n = M) : Pur ok st (.row i o n c) (.sl n (pints M)) := by
  have hMl : M.length = n := by rw [← hM]; simp; omega
  refine .row (sz := 1) h hok (by rcases hk with rfl | rfl <;> simp [Kd.spare]) (by simp [pints_length]; omega) (by simp [pints_length]; omega) ?_
  have : ((pints L ++ ex).drop o).take (n * 1) = pints M := by
    rw [List.drop_append_of_le_length (by simp [pints_length]; omega), Nat.mul_one, List.take_append_of_le_length (by simp [pints_length]; omega), pints_drop, pints_take, hM]
  rw [this]
  exact (PurL.plain pints_V).2
theorem unstuttered_c {p l : List Int} (b1 : p.length ≤ 1000) (b2 : l.length ≤ 1000) (b3 : p.length + l.length ≤ 999) : Closed tab nopr 32 [pword p l] (.tup [if wordErr p l = 0 then pword (shortF (unsF p l).1 (unsF p l).2).1 (shortF (unsF p l).1 (unsF p l).2).2 else pword [] [], (PV.v (Value.int IntKind.i64 (wordErr p l)))]) := by
  refine Closed.of (mf := m32) rfl rfl rfl ?_
  try simp (disch := omega) only [PR, plen, pop, prd, prds, pwr, keptP, presAll, presOf, pone, Kd.w, Kd.spare, Obj.ver, peq, pparts, play, psl, pbnd, binV, intV, ↓reduceIte, Nat.reduceAdd, Nat.reduceSub, Nat.reduceEqDiff, Nat.reduceLT, Nat.reduceLeDiff, Nat.reduceMul, reduceCtorEq, plain, zeros, m32, pword]
  refine PAns.scalar (checkWord_c (p := p) (l := l) (by omega) (by omega)) (by repeat (first | exact PurL.nil | refine PurL.cons ?_ ?_ | exact Pur.v _ | exact Pur.sl _ _ | exact Pur.ep _ | exact Pur.fn _ rfl PurL.nil.2 | exact pword_pure _ _)) rfl ?_
  by_cases h : wordErr p l = 0
  · have hne := wordErr_pos h
    try simp (disch := omega) only [PR, plen, pop, prd, prds, keptP, presAll, presOf, pone, Kd.w, Kd.spare, Obj.ver, peq, pparts, play, pbnd, binV, intV, ↓reduceIte, Nat.reduceAdd, Nat.reduceSub, Nat.reduceEqDiff, Nat.reduceLT, Nat.reduceLeDiff, Nat.reduceMul, reduceCtorEq, plain, zeros, h, if_true]
    refine PAns.freshV (concatInt_c (ls := [p, l]) (by simp) (by simp; omega)) ?_ pints_V fun p1 st1 n1 h1 hn1 hk1 hw1 => ?_
    · exact .cons (.row (sz := 1) rfl trivial (.inl rfl) (Nat.le_refl 2) rfl fun j x y a b => by
        match j with
        | 0 => cases a; cases b; exact .sl _ _
        | 1 => cases a; cases b; exact .sl _ _
        | j + 2 => simp at a) .nil
    simp only [List.flatten_cons, List.flatten_nil, List.append_nil] at h1
    try simp (disch := omega) only [PR, plen, pop, prd, prds, keptP, presAll, presOf, pone, Kd.w, Kd.spare, Obj.ver, peq, pparts, play, pbnd, binV, intV, ↓reduceIte, Nat.reduceAdd, Nat.reduceSub, Nat.reduceEqDiff, Nat.reduceLT, Nat.reduceLeDiff, Nat.reduceMul, reduceCtorEq, plain, zeros]
    refine compactInt_p (by simp; omega) h1 fun p2 st2 h2 hk2 hw2 => ?_
    have hpl := once_le (p ++ l)
    have hpp := once_pos (l := p ++ l) (by simp; omega)
    rw [List.length_append] at hpl
    obtain ⟨i2, c2, kd2, v2, ex2, rfl, z1, z2, z3, z4, z5, z6⟩ := h2.row' hpp
    have hi2 : 3 ≤ i2 := by obtain ⟨o, m, e⟩ := hw2 _ _ _ _ rfl; have := hw1 _ _ _ _ e; omega
    have k2 : ∀ i, i < 3 → st2 i = st1 i := fun i hi => hk2 i (by omega) fun o m c e => by have := hw1 _ _ _ _ e; omega
    have s0 : st2 0 = .cells false .fix 0 [.sl p.length (pints p), .sl l.length (pints l)] := by rw [k2 0 (by omega), hk1 0 (by omega)]; rfl
    have s1 : st2 1 = .cells false .fix 0 [.v (.slice none 0 0), .v (.slice none 0 0)] := by rw [k2 1 (by omega), hk1 1 (by omega)]; rfl
    have ewl : IntKind.i64.wrap ((l.length : Int) - 1) = ((l.length - 1 : Nat) : Int) := by rw [wrap_id (by omega) (by omega)]; omega
    have ne0 : ¬ (0 : Nat) = n1 := by omega
    try simp (disch := omega) only [PR, plen, pop, prd, prds, keptP, presAll, presOf, pone, Kd.w, Kd.spare, Obj.ver, peq, pparts, play, pbnd, binV, intV, ↓reduceIte, Nat.reduceAdd, Nat.reduceSub, Nat.reduceEqDiff, Nat.reduceLT, Nat.reduceLeDiff, Nat.reduceMul, reduceCtorEq, plain, zeros, s0, ewl, ne0]
    refine app_lst (m := 1) (k := l.length) (cs := pints [l.getD (l.length - 1) 0]) (new := pints l) (p := .row n1 0 1 1) (q := .sl l.length (pints l)) ⟨rfl, .inr ⟨n1, 1, .fix, 0, [], rfl, by omega, by omega, by omega, upd_same _ _ _, rfl, .inl rfl, rfl⟩⟩ rfl rfl (by simp [psrc, pints_length]) (by simp [pints_length]) pints_flat (by omega) (by omega) (by omega) fun p3 st3 n3 h3 hn3 hk3 hw3 => ?_
    rw [pints_append] at h3
    obtain ⟨i3, c3, kd3, v3, ex3, rfl, x1, x2, x3, x4, x5, x6⟩ := h3.row' (by omega)
    have hl3 : 1 + l.length = ([l.getD (l.length - 1) 0] ++ l).length := by simp; omega
    have hi3 : n1 ≤ i3 := by
      rcases hw3 _ _ _ _ rfl with ⟨o, m, c, e⟩ | e
      · cases e; omega
      · omega
    try simp (disch := omega) only [PR, plen, pop, prd, prds, keptP, presAll, presOf, pone, Kd.w, Kd.spare, Obj.ver, peq, pparts, play, pbnd, binV, intV, ↓reduceIte, Nat.reduceAdd, Nat.reduceSub, Nat.reduceEqDiff, Nat.reduceLT, Nat.reduceLeDiff, Nat.reduceMul, reduceCtorEq, plain, zeros]
    refine compactInt_p (l := [l.getD (l.length - 1) 0] ++ l) (by simp; omega) (by rw [← hl3]; exact h3) fun p4 st4 h4 hk4 hw4 => ?_
    have k4 : ∀ i, i < n1 → st4 i = st2 i := fun i hi => by
      rw [hk4 i (by omega) (fun o m c e => by cases e; omega), hk3 i (by omega) (fun o m c e => by cases e; omega), upd_ne (by omega)]
    rw [List.singleton_append] at h4
    obtain ⟨i4, c4, kd4, v4, ex4, rfl, y1, y2, y3, y4, y5, y6⟩ := h4.row' (once_pos (by simp))
    obtain ⟨rfl, rfl⟩ : i4 = i3 ∧ c4 = c3 := by obtain ⟨o, m, e⟩ := hw4 _ _ _ _ rfl; cases e; exact ⟨rfl, rfl⟩
    have hq5 : psl st4 1 true i4 0 (once (l.getD (l.length - 1) 0 :: l)).length (Int.toNat 1) c4 = some (.row i4 1 ((once (l.getD (l.length - 1) 0 :: l)).length - 1) (c4 - 1)) := psl_own y4 y5 (by show 1 < c4; omega)
    have hpos := once_pos (l := l.getD (l.length - 1) 0 :: l) (by simp)
    have hle4 := once_le (l.getD (l.length - 1) 0 :: l)
    rw [List.length_cons] at hle4
    have hls : (loopS l).length = (once (l.getD (l.length - 1) 0 :: l)).length - 1 := by simp [loopS]
    have g2 : Lst st4 n3 (.row i2 0 (once (p ++ l)).length c2) 1 (once (p ++ l)).length (pints (once (p ++ l))) := h2.keep (by omega) fun i o m c e => by cases e; exact k4 _ z1
    have z4' : st4 i2 = .cells false kd2 v2 (pints (once (p ++ l)) ++ ex2) := (k4 _ z1).trans z4
    have s1' : st4 1 = .cells false .fix 0 [.v (.slice none 0 0), .v (.slice none 0 0)] := (k4 1 (by omega)).trans s1
    have m3 : ¬ (1 : Nat) = n3 := by omega
    have m2 : ¬ (1 : Nat) = i2 := by omega
    have m4 : ¬ (1 : Nat) = i4 := by omega
    by_cases hz : (loopS l).length = 0
    · have ewk : IntKind.i64.wrap (((once (p ++ l)).length : Int) - 1) = (((once (p ++ l)).length - 1 : Nat) : Int) := by rw [wrap_id (by omega) (by omega)]; omega
      have hK1 : (once (l.getD (l.length - 1) 0 :: l)).length = 1 := by omega
      have hq6 : psl st4 1 true i2 0 ((once (p ++ l)).length - 1) 0 c2 = some (.row i2 0 ((once (p ++ l)).length - 1) c2) := by
        have := psl_own (h := (once (p ++ l)).length - 1) (l := 0) (m := c2) (o := 0) z4' z5 (by omega)
        simpa using this
      have hq5' : psl st4 1 true i4 0 1 (Int.toNat 1) c4 = some (.row i4 1 0 (c4 - 1)) := by rw [hK1] at hq5; exact hq5
      try simp (disch := omega) only [PR, plen, pop, prd, prds, keptP, presAll, presOf, pone, Kd.w, Kd.spare, Obj.ver, peq, pparts, play, pbnd, binV, intV, ↓reduceIte, Nat.reduceAdd, Nat.reduceSub, Nat.reduceEqDiff, Nat.reduceLT, Nat.reduceLeDiff, Nat.reduceMul, reduceCtorEq, plain, zeros, hq5', ewl, hK1, ewk, hq6]
      have hu : unsF p l = ((once (p ++ l)).take ((once (p ++ l)).length - 1), [l.getD (l.length - 1) 0]) := by rw [unsF, if_pos hz]
      have z4'' : (upd st4 n3 (.cells false .fix 0 [(PV.v (Value.int IntKind.i64 (l.getD (l.length - 1) 0)))])) i2 = .cells false kd2 v2 (pints (once (p ++ l)) ++ ex2) := by rw [upd_ne (by omega)]; exact z4'
      have n4 : upd (upd st4 n3 (.cells false .fix 0 [(PV.v (Value.int IntKind.i64 (l.getD (l.length - 1) 0)))])) i2 (.cells true kd2 v2 (pints (once (p ++ l)) ++ ex2)) n3 = .cells false .fix 0 (pints [l.getD (l.length - 1) 0] ++ []) := by rw [upd_ne (by omega)]; exact upd_same _ _ _
      refine PAns.freeze z4'' (PAns.freeze n4 ?_)
      refine PAns.closed (args' := [pword ((once (p ++ l)).take ((once (p ++ l)).length - 1)) [l.getD (l.length - 1) 0]]) (shortest_c (by simp; omega) (by simp) (by simp) (rootOf_spec (by simp))) ?_ ?_
      · refine .cons (.agg rfl (PurL.cons ?_ (.cons ?_ .nil)).2) .nil
        · have e : ((once (p ++ l)).take ((once (p ++ l)).length - 1)).length = (once (p ++ l)).length - 1 := by simp
          rw [e]
          exact pur_off (o := 0) ((upd_ne (by omega)).trans (upd_same _ _ _)) rfl z5 (by omega) rfl
        · exact pur_off (o := 0) (upd_same _ _ _) rfl (.inl rfl) (by simp) rfl
      try simp (disch := omega) only [PR, plen, pop, prd, prds, pwr, keptP, presAll, presOf, pone, Kd.w, Kd.spare, Obj.ver, peq, pparts, play, psl, pbnd, binV, intV, ↓reduceIte, Nat.reduceAdd, Nat.reduceSub, Nat.reduceEqDiff, Nat.reduceLT, Nat.reduceLeDiff, Nat.reduceMul, reduceCtorEq, plain, zeros, s1', pword, m3, m2]
      rw [hu]
      exact .tup rfl (PurL.cons (.agg rfl (PurL.cons (.sl _ _) (.cons (.sl _ _) .nil)).2) (.cons (.v _) .nil)).2
    · have hK1 : 1 < (once (l.getD (l.length - 1) 0 :: l)).length := by omega
      try simp (disch := omega) only [PR, plen, pop, prd, prds, keptP, presAll, presOf, pone, Kd.w, Kd.spare, Obj.ver, peq, pparts, play, pbnd, binV, intV, ↓reduceIte, Nat.reduceAdd, Nat.reduceSub, Nat.reduceEqDiff, Nat.reduceLT, Nat.reduceLeDiff, Nat.reduceMul, reduceCtorEq, plain, zeros, hq5, ewl, pcells_row, pflat_row]
      have hu : unsF p l = (once (p ++ l), loopS l) := by rw [unsF, if_neg hz]
      rw [hu]
      have n4 : upd st4 i2 (.cells true kd2 v2 (pints (once (p ++ l)) ++ ex2)) i4 = .cells false kd4 v4 (pints (once (l.getD (l.length - 1) 0 :: l)) ++ ex4) := by rw [upd_ne (by omega)]; exact y4
      refine PAns.freeze z4' (PAns.freeze n4 ?_)
      refine PAns.closed (args' := [pword (once (p ++ l)) (loopS l)]) (shortest_c (by omega) (by omega) (by omega) (rootOf_spec (by omega))) ?_ ?_
      · refine .cons (.agg rfl (PurL.cons ?_ (.cons ?_ .nil)).2) .nil
        · exact pur_off (o := 0) ((upd_ne (by omega)).trans (upd_same _ _ _)) rfl z5 (by omega) (by simp)
        · rw [hls]
          exact pur_off (o := 1) (upd_same _ _ _) rfl y5 (by omega) (by rw [List.take_of_length_le (by simp)]; rfl)
      try simp (disch := omega) only [PR, plen, pop, prd, prds, pwr, keptP, presAll, presOf, pone, Kd.w, Kd.spare, Obj.ver, peq, pparts, play, psl, pbnd, binV, intV, ↓reduceIte, Nat.reduceAdd, Nat.reduceSub, Nat.reduceEqDiff, Nat.reduceLT, Nat.reduceLeDiff, Nat.reduceMul, reduceCtorEq, plain, zeros, s1', pword, m2, m4]
      exact .tup rfl (PurL.cons (.agg rfl (PurL.cons (.sl _ _) (.cons (.sl _ _) .nil)).2) (.cons (.v _) .nil)).2
  · try simp (disch := omega) only [PR, plen, pop, prd, prds, pwr, keptP, presAll, presOf, pone, Kd.w, Kd.spare, Obj.ver, peq, pparts, play, psl, pbnd, binV, intV, ↓reduceIte, Nat.reduceAdd, Nat.reduceSub, Nat.reduceEqDiff, Nat.reduceLT, Nat.reduceLeDiff, Nat.reduceMul, reduceCtorEq, plain, zeros, h, if_false]
    have z : ∀ st, Pur anyRow st (.v (.slice none 0 0)) (.sl 0 (pints [])) := fun st => (Lst.nil (st := st) (n := 0) 1).pur (fun _ => trivial) .nil
    have z2 : ∀ st, Pur anyRow st (.agg [.v (.slice none 0 0), .v (.slice none 0 0)]) (.agg [.sl 0 (pints []), .sl 0 (pints [])]) := fun st => .agg rfl (PurL.cons (z st) (.cons (z st) .nil)).2
    exact .tup rfl (PurL.cons (z2 _) (.cons (.v _) .nil)).2
end Dm.YtmgehmhebnjaaaaGreatDoor
end
section
set_option maxRecDepth 100000
set_option linter.unusedSimpArgs false
namespace Dm.YtmgehmhebnjaaaaGreatDoor
open Go
theorem onceTo_last (l : List Int) (m : Nat) : (onceTo l (m + 1)).getD ((onceTo l (m + 1)).length - 1) 0 = l.getD m 0 := by
  induction m with
  | zero => simp [onceTo]
  | succ m ih =>
    rw [onceTo]
    by_cases h : l.getD (m + 1) 0 = l.getD m 0
    · rw [if_neg (by rintro (q | q); exact absurd q (by omega); exact q h), List.append_nil, ih, h]
    · rw [if_pos (.inr h)]
      simp
theorem once_last {l : List Int} (h : 0 < l.length) : (once l).getD ((once l).length - 1) 0 = l.getD (l.length - 1) 0 := by
  obtain ⟨k, hk⟩ : ∃ k, l.length = k + 1 := ⟨l.length - 1, by omega⟩
  have := onceTo_last l k
  unfold once
  rw [hk]
  exact this
theorem loopS_last {l : List Int} (h : 0 < (loopS l).length) : (loopS l).getD ((loopS l).length - 1) 0 = l.getD (l.length - 1) 0 := by
  have e := once_last (l := l.getD (l.length - 1) 0 :: l) (by simp)
  have hl : (loopS l).length = (once (l.getD (l.length - 1) 0 :: l)).length - 1 := by simp [loopS]
  have hd : ∀ q : List Int, 2 ≤ q.length → (q.drop 1).getD (q.length - 1 - 1) 0 = q.getD (q.length - 1) 0 := fun q hq => by
    rw [List.getD_eq_getElem?_getD, List.getElem?_drop, List.getD_eq_getElem?_getD, show 1 + (q.length - 1 - 1) = q.length - 1 by omega]
  have := hd (once (l.getD (l.length - 1) 0 :: l)) (by omega)
  have h5 : (loopS l).getD ((loopS l).length - 1) 0 = (once (l.getD (l.length - 1) 0 :: l)).getD ((once (l.getD (l.length - 1) 0 :: l)).length - 1) 0 := by rw [hl]; exact this
  rw [h5, e]
  cases l with
  | nil => simp [loopS, once, onceTo] at h
  | cons a l => simp
theorem roll_len (k : Nat) : ∀ (p l : List Int), 0 < l.length → (roll k p l).1.length ≤ p.length ∧ (roll k p l).2.length = l.length := by
  induction k with
  | zero => intro p l h; exact ⟨Nat.le_refl _, rfl⟩
  | succ k ih =>
    intro p l h
    rw [roll]
    split
    · have := ih (p.take (p.length - 1)) (l.getD (l.length - 1) 0 :: l.take (l.length - 1)) (by simp)
      simp only [List.length_cons, List.length_take] at this ⊢
      omega
    · exact ⟨Nat.le_refl _, rfl⟩
theorem shortF_len {p l : List Int} (h : 0 < l.length) : (shortF p l).1.length ≤ p.length ∧ 1 ≤ (shortF p l).2.length ∧ (shortF p l).2.length ≤ l.length := by
  have hr := rootOf_spec h
  have := roll_len p.length p (l.take (rootOf l)) (by have := hr.1; simp; omega)
  unfold shortF
  rw [List.length_take] at this
  have h1 := hr.1
  have h2 := hr.2.1
  omega
/-- The other's word without stuttering. -/
noncomputable def refUns (p l : List Int) : List Int × List Int := if (shortF p l).2.length = 1 then (once (shortF p l).1, (shortF p l).2) else (once ((shortF p l).1 ++ (shortF p l).2), loopS (shortF p l).2)
theorem freeze_lst {T : Tab} {pr : Prims} {t : Tgt} {args : List PV} {st : St} {n : Nat} {p : PV} {L : List Int} {Q : PV → St → Nat → Prop} (h : Lst st n p 1 L.length (pints L))
    (K : ∀ st', (∀ i, (∀ o m c, p ≠ .row i o m c) → st' i = st i) → Pur finRow st' p (.sl L.length (pints L)) → PAns T pr t args st' n Q) : PAns T pr t args st n Q := by
  rcases h.2 with ⟨rfl, h0⟩ | ⟨i, c, kd, vr, ex, rfl, q1, q2, q3, q4, q5, q6, q7⟩
  · have : L = [] := List.eq_nil_of_length_eq_zero h0
    subst this
    exact K st (fun _ _ => rfl) .nil
  · refine PAns.freeze q4 (K _ (fun j hj => upd_ne fun e => by subst e; exact hj _ _ _ rfl) ?_)
    exact pur_off (o := 0) (upd_same _ _ _) rfl q6 (by omega) (by simp)
theorem refUnstuttered_c {p l : List Int} (b1 : p.length ≤ 400) (b2 : l.length ≤ 400) (hne : 0 < l.length) (hns : (shortF p l).2.length ≠ 1 → 0 < (loopS (shortF p l).2).length) : Closed tab nopr 35 [pword p l] (pword (shortF (refUns p l).1 (refUns p l).2).1 (shortF (refUns p l).1 (refUns p l).2).2) := by
  refine Closed.of (mf := m35) rfl rfl rfl ?_
  try simp (disch := omega) only [PR, plen, pop, prd, prds, pwr, keptP, presAll, presOf, pone, Kd.w, Kd.spare, Obj.ver, peq, pparts, play, psl, pbnd, binV, intV, ↓reduceIte, Nat.reduceAdd, Nat.reduceSub, Nat.reduceEqDiff, Nat.reduceLT, Nat.reduceLeDiff, Nat.reduceMul, reduceCtorEq, plain, zeros, m35, pword]
  refine PAns.closed (refShortest_c (p := p) (l := l) (by omega) (by omega) hne (rootOf_spec hne)) (by repeat (first | exact PurL.nil | refine PurL.cons ?_ ?_ | exact Pur.v _ | exact Pur.sl _ _ | exact Pur.ep _ | exact Pur.fn _ rfl PurL.nil.2 | exact pword_pure _ _)) ?_
  have hsl := shortF_len (p := p) hne
  have hrw : refUns p l = if (shortF p l).2.length = 1 then (once (shortF p l).1, (shortF p l).2) else (once ((shortF p l).1 ++ (shortF p l).2), loopS (shortF p l).2) := rfl
  rw [hrw]
  show _ ∧ _
  unfold shortF at hsl hns ⊢
  generalize roll p.length p (l.take (rootOf l)) = w at *
  obtain ⟨wp, wl⟩ := w
  simp only at hsl hns ⊢
  obtain ⟨g1, g2, g3⟩ := hsl
  by_cases hw1 : wl.length = 1
  · try simp (disch := omega) only [PR, plen, pop, prd, prds, keptP, presAll, presOf, pone, Kd.w, Kd.spare, Obj.ver, peq, pparts, play, pbnd, binV, intV, ↓reduceIte, Nat.reduceAdd, Nat.reduceSub, Nat.reduceEqDiff, Nat.reduceLT, Nat.reduceLeDiff, Nat.reduceMul, reduceCtorEq, plain, zeros, hw1, pword, if_true]
    refine PAns.freshV (refOnce_c (l := wp) (by omega)) (by repeat (first | exact PurL.nil | refine PurL.cons ?_ ?_ | exact Pur.v _ | exact Pur.sl _ _ | exact Pur.ep _ | exact Pur.fn _ rfl PurL.nil.2 | exact pword_pure _ _)) pints_V fun p1 st1 n1 h1 hn1 hk1 hw1' => ?_
    have s1 : st1 1 = .cells false .fix 0 [.v (.slice none 0 0), .v (.slice none 0 0)] := by rw [hk1 1 (by omega)]; rfl
    try simp (disch := omega) only [PR, plen, pop, prd, prds, keptP, presAll, presOf, pone, Kd.w, Kd.spare, Obj.ver, peq, pparts, play, pbnd, binV, intV, ↓reduceIte, Nat.reduceAdd, Nat.reduceSub, Nat.reduceEqDiff, Nat.reduceLT, Nat.reduceLeDiff, Nat.reduceMul, reduceCtorEq, plain, zeros, hk1, h1.pc, h1.pf]
    refine freeze_lst h1 fun st2 hk2 hp2 => ?_
    have s2 : st2 1 = .cells false .fix 0 [.v (.slice none 0 0), .v (.slice none 0 0)] := by rw [hk2 1 (fun o m c e => by have := hw1' _ _ _ _ e; omega), s1]
    have ho := once_le wp
    refine PAns.closed (args' := [pword (once wp) wl]) (refShortest_c (by omega) (by omega) (by omega) (rootOf_spec (by omega))) ?_ ?_
    · refine .cons (.agg rfl (PurL.cons hp2 (.cons ?_ .nil)).2) .nil
      rw [hw1]
      exact .sl _ _
    try simp (disch := omega) only [PR, plen, pop, prd, prds, pwr, keptP, presAll, presOf, pone, Kd.w, Kd.spare, Obj.ver, peq, pparts, play, psl, pbnd, binV, intV, ↓reduceIte, Nat.reduceAdd, Nat.reduceSub, Nat.reduceEqDiff, Nat.reduceLT, Nat.reduceLeDiff, Nat.reduceMul, reduceCtorEq, plain, zeros, s2, pword]
    exact .agg rfl (PurL.cons (.sl _ _) (.cons (.sl _ _) .nil)).2
  · try simp (disch := omega) only [PR, plen, pop, prd, prds, keptP, presAll, presOf, pone, Kd.w, Kd.spare, Obj.ver, peq, pparts, play, pbnd, binV, intV, ↓reduceIte, Nat.reduceAdd, Nat.reduceSub, Nat.reduceEqDiff, Nat.reduceLT, Nat.reduceLeDiff, Nat.reduceMul, reduceCtorEq, plain, zeros, hw1, pword, if_false]
    generalize hX : wl.getD (wl.length - 1) 0 :: wl = X at *
    have hXl : X.length = wl.length + 1 := by rw [← hX]; rfl
    have hXs : ∀ i, X.getD (i + 1) 0 = wl.getD i 0 := fun i => by rw [← hX]; simp
    have hXp : ∀ i, i < wl.length → wl.getD ((i + wl.length - 1) % wl.length) 0 = X.getD i 0 := fun i hi => by
      rw [← hX]
      cases i with
      | zero => rw [Nat.zero_add, Nat.mod_eq_of_lt (by omega)]; rfl
      | succ i => rw [show i + 1 + wl.length - 1 = i + wl.length by omega, Nat.add_mod_right, Nat.mod_eq_of_lt (by omega)]; simp
    have hX1 : ∀ i, 0 < (onceTo X (i + 1)).length := fun i => by
      induction i with
      | zero => simp [onceTo]
      | succ i ih => rw [onceTo, List.length_append]; omega
    refine V_count (fun i pt st n => i ≤ wl.length ∧ pt 1 = .ptr 0 0 ∧ pt 2 = .ptr 1 0 ∧ pt 3 = .ptr 2 0 ∧ pt 5 = (PV.v (Value.int IntKind.i64 (i))) ∧ Lst st n (pt 4) 1 ((onceTo X (i + 1)).drop 1).length (pints ((onceTo X (i + 1)).drop 1)) ∧ NewP 3 (pt 4) ∧ 3 ≤ n ∧
      st 1 = .cells false .fix 0 [.v (.slice none 0 0), .v (.slice none 0 0)] ∧ st 2 = .cells false .fix 1 [.sl wp.length (pints wp), .sl wl.length (pints wl)]) wl.length ⟨by omega, rfl, rfl, rfl, rfl, .nil 1, show NewP 3 pnil from (fun i o m c e => by cases e), by omega, rfl, rfl⟩ ?_
    rintro i pt st n hi ⟨_, e1, e2, e3, e5, hL, hN, hn, s1, s2⟩
    have hle := onceTo_le X (i + 1)
    by_cases hlt : i < wl.length
    · have ew1 : IntKind.i64.wrap ((i : Int) + (wl.length : Int)) = ((i + wl.length : Nat) : Int) := by rw [wrap_id (by omega) (by omega)]; omega
      have ew2 : IntKind.i64.wrap (((i + wl.length : Nat) : Int) - 1) = ((i + wl.length - 1 : Nat) : Int) := by rw [wrap_id (by omega) (by omega)]; omega
      have hm : (((i + wl.length - 1 : Nat) : Int)).tmod (wl.length : Int) = (((i + wl.length - 1) % wl.length : Nat) : Int) := (Int.ofNat_tmod _ _).symm
      have hz : ¬ ((wl.length : Int) = 0) := by omega
      have hml : (i + wl.length - 1) % wl.length < wl.length := Nat.mod_lt _ (by omega)
      have hxp := hXp i hlt
      have hxs := hXs i
      generalize (i + wl.length - 1) % wl.length = J at *
      by_cases heq : wl.getD i 0 = X.getD i 0
      · have ho : onceTo X (i + 1 + 1) = onceTo X (i + 1) := by
          rw [onceTo, if_neg, List.append_nil]
          rintro (q | q)
          · omega
          · exact q (hxs.trans heq)
        try simp (disch := omega) only [PR, plen, pop, prd, prds, keptP, presAll, presOf, pone, Kd.w, Kd.spare, Obj.ver, peq, pparts, play, pbnd, binV, intV, ↓reduceIte, Nat.reduceAdd, Nat.reduceSub, Nat.reduceEqDiff, Nat.reduceLT, Nat.reduceLeDiff, Nat.reduceMul, reduceCtorEq, plain, zeros, e1, e2, e3, e5, s1, s2, ew1, ew2, hm, hz, hxp, heq, psubi]
        rw [ho]
        exact ⟨rfl, hL, hN⟩
      · try simp (disch := omega) only [PR, plen, pop, prd, prds, keptP, presAll, presOf, pone, Kd.w, Kd.spare, Obj.ver, peq, pparts, play, pbnd, binV, intV, ↓reduceIte, Nat.reduceAdd, Nat.reduceSub, Nat.reduceEqDiff, Nat.reduceLT, Nat.reduceLeDiff, Nat.reduceMul, reduceCtorEq, plain, zeros, e1, e2, e3, e5, s1, s2, ew1, ew2, hm, hz, hxp, heq, psubi]
        have ho : (onceTo X (i + 1 + 1)).drop 1 = (onceTo X (i + 1)).drop 1 ++ [wl.getD i 0] := by
          have := hX1 i
          rw [onceTo, if_pos (.inr (fun q => heq (hxs.symm.trans q))), List.drop_append_of_le_length (by omega), hxs]
        have hll : ((onceTo X (i + 1)).drop 1).length ≤ 1000 := by rw [List.length_drop]; omega
        refine app_lst (k := 1) (new := pints [wl.getD i 0]) (p := pt 4) (q := .row n 0 1 1) (hL.keep (by omega) fun i o m c e => upd_ne (by have := hL.lt e; omega)) rfl rfl (by simp [psrc, prds, upd_same, pints]) rfl rfl (by omega) (by omega) (by omega) fun p' st' n' h hA1 hA2 hA3 => ?_
        rw [pints_append] at h
        have q1 : st' 1 = st 1 := by rw [hA2 1 (by omega) (fun o m c e => by have := hN _ _ _ _ e; omega), upd_ne (by omega)]
        have q2 : st' 2 = st 2 := by rw [hA2 2 (by omega) (fun o m c e => by have := hN _ _ _ _ e; omega), upd_ne (by omega)]
        try simp (disch := omega) only [PR, plen, pop, prd, prds, keptP, presAll, presOf, pone, Kd.w, Kd.spare, Obj.ver, peq, pparts, play, pbnd, binV, intV, ↓reduceIte, Nat.reduceAdd, Nat.reduceSub, Nat.reduceEqDiff, Nat.reduceLT, Nat.reduceLeDiff, Nat.reduceMul, reduceCtorEq, plain, zeros, e1, e2, e3, e5, q1, q2, s1, s2]
        rw [ho, List.length_append]
        refine ⟨rfl, h, fun i o m c e => ?_⟩
        rcases hA3 i o m c e with ⟨o', m', c', e'⟩ | h
        · exact hN _ _ _ _ e'
        · omega
    · have hi' : i = wl.length := by omega
      subst hi'
      have e6 : (onceTo X (wl.length + 1)).drop 1 = loopS wl := by rw [← hXl]; unfold loopS once; rw [hX]
      rw [e6] at hL
      have hls := hns hw1
      have hlsl : (loopS wl).length ≤ wl.length := by rw [← e6, List.length_drop]; omega
      have wlast : (wp ++ wl).getD ((wp ++ wl).length - 1) 0 = wl.getD (wl.length - 1) 0 := by
        rw [List.getD_eq_getElem?_getD, List.getElem?_append_right (by simp; omega), List.getD_eq_getElem?_getD]
        congr 2
        simp
        omega
      try simp (disch := omega) only [PR, plen, pop, prd, prds, keptP, presAll, presOf, pone, Kd.w, Kd.spare, Obj.ver, peq, pparts, play, pbnd, binV, intV, ↓reduceIte, Nat.reduceAdd, Nat.reduceSub, Nat.reduceEqDiff, Nat.reduceLT, Nat.reduceLeDiff, Nat.reduceMul, reduceCtorEq, plain, zeros, e1, e2, e3, e5, s1, s2]
      refine PAns.freshV (ownInts_c (l := wp) (by omega)) (by repeat (first | exact PurL.nil | refine PurL.cons ?_ ?_ | exact Pur.v _ | exact Pur.sl _ _ | exact Pur.ep _ | exact Pur.fn _ rfl PurL.nil.2 | exact pword_pure _ _)) pints_V fun p1 st1 n1 h1 hn1 hk1 hw1' => ?_
      try simp (disch := omega) only [PR, plen, pop, prd, prds, keptP, presAll, presOf, pone, Kd.w, Kd.spare, Obj.ver, peq, pparts, play, pbnd, binV, intV, ↓reduceIte, Nat.reduceAdd, Nat.reduceSub, Nat.reduceEqDiff, Nat.reduceLT, Nat.reduceLeDiff, Nat.reduceMul, reduceCtorEq, plain, zeros, hk1, s2]
      refine app_lst (m := wp.length) (k := wl.length) (cs := pints wp) (new := pints wl) (p := p1) (q := .sl wl.length (pints wl)) h1 rfl rfl (by simp [psrc, pints_length]) (by simp [pints_length]) pints_flat (by omega) (by omega) (by omega) fun p2 st2 n2 h2 hn2 hk2 hw2 => ?_
      rw [pints_append] at h2
      have k2 : ∀ i, i < n → st2 i = st i := fun i hi => by rw [hk2 i (by omega) (fun o m c e => by have := hw1' _ _ _ _ e; omega), hk1 i hi]
      try simp (disch := omega) only [PR, plen, pop, prd, prds, keptP, presAll, presOf, pone, Kd.w, Kd.spare, Obj.ver, peq, pparts, play, pbnd, binV, intV, ↓reduceIte, Nat.reduceAdd, Nat.reduceSub, Nat.reduceEqDiff, Nat.reduceLT, Nat.reduceLeDiff, Nat.reduceMul, reduceCtorEq, plain, zeros]
      refine PAns.freshV (refOnce_c (l := wp ++ wl) (by simp; omega)) (.cons (by rw [List.length_append]; exact h2.pur (fun _ => trivial) (.plain pints_V)) .nil) pints_V fun p3 st3 n3 h3 hn3 hk3 hw3 => ?_
      have hpp := once_pos (l := wp ++ wl) (by simp; omega)
      have hpl := once_le (wp ++ wl)
      rw [List.length_append] at hpl
      obtain ⟨i3, c3, kd3, v3, ex3, rfl, x1, x2, x3, x4, x5, x6⟩ := h3.row' hpp
      have hi3 := hw3 _ _ _ _ rfl
      have hL3 : Lst st3 n3 (pt 4) 1 (loopS wl).length (pints (loopS wl)) := hL.keep (by omega) fun i o m c e => by
        have := hL.lt e
        rw [hk3 i (by omega), k2 i this]
      generalize hP4 : pt 4 = P4 at *
      obtain ⟨i4, c4, kd4, v4, ex4, rfl, y1, y2, y3, y4, y5, y6⟩ := hL3.row' hls
      have hi4 : 3 ≤ i4 := hN _ _ _ _ rfl
      have hi4n : i4 < n := hL.lt rfl
      have s1' : st3 1 = .cells false .fix 0 [.v (.slice none 0 0), .v (.slice none 0 0)] := by rw [hk3 1 (by omega), k2 1 (by omega), s1]
      have ewk : IntKind.i64.wrap (((once (wp ++ wl)).length : Int) - 1) = (((once (wp ++ wl)).length - 1 : Nat) : Int) := by rw [wrap_id (by omega) (by omega)]; omega
      have ewj : IntKind.i64.wrap (((loopS wl).length : Int) - 1) = (((loopS wl).length - 1 : Nat) : Int) := by rw [wrap_id (by omega) (by omega)]; omega
      have elast : (once (wp ++ wl)).getD ((once (wp ++ wl)).length - 1) 0 = (loopS wl).getD ((loopS wl).length - 1) 0 := by rw [once_last (by simp; omega), wlast, loopS_last hls]
      try simp (disch := omega) only [PR, plen, pop, prd, prds, keptP, presAll, presOf, pone, Kd.w, Kd.spare, Obj.ver, peq, pparts, play, pbnd, binV, intV, ↓reduceIte, Nat.reduceAdd, Nat.reduceSub, Nat.reduceEqDiff, Nat.reduceLT, Nat.reduceLeDiff, Nat.reduceMul, reduceCtorEq, plain, zeros, hP4]
      refine V_loop (fun _ pt st n => pt 2 = .ptr 1 0 ∧ pt 4 = .row i4 0 (loopS wl).length c4 ∧ pt 7 = .row i3 0 (once (wp ++ wl)).length c3 ∧ st = st3 ∧ n = n3) 0 ⟨e2, hP4, rfl, rfl, rfl⟩ ?_
      rintro r pt st n ⟨e2, e4, e7, rfl, rfl⟩
      try simp (disch := omega) only [PR, plen, pop, prd, prds, keptP, presAll, presOf, pone, Kd.w, Kd.spare, Obj.ver, peq, pparts, play, pbnd, binV, intV, ↓reduceIte, Nat.reduceAdd, Nat.reduceSub, Nat.reduceEqDiff, Nat.reduceLT, Nat.reduceLeDiff, Nat.reduceMul, reduceCtorEq, plain, zeros, e2, e4, e7, x4, y4, ewk, ewj, elast]
      have n4 : upd st i3 (.cells true kd3 v3 (pints (once (wp ++ wl)) ++ ex3)) i4 = .cells false kd4 v4 (pints (loopS wl) ++ ex4) := by rw [upd_ne (by omega)]; exact y4
      refine PAns.freeze x4 (PAns.freeze n4 ?_)
      refine PAns.closed (args' := [pword (once (wp ++ wl)) (loopS wl)]) (refShortest_c (by omega) (by omega) (by omega) (rootOf_spec (by omega))) ?_ ?_
      · refine .cons (.agg rfl (PurL.cons ?_ (.cons ?_ .nil)).2) .nil
        · exact pur_off (o := 0) ((upd_ne (by omega)).trans (upd_same _ _ _)) rfl x5 (by omega) (by simp)
        · exact pur_off (o := 0) (upd_same _ _ _) rfl y5 (by omega) (by simp)
      have m3 : ¬ (1 : Nat) = i3 := by omega
      have m4 : ¬ (1 : Nat) = i4 := by omega
      try simp (disch := omega) only [PR, plen, pop, prd, prds, pwr, keptP, presAll, presOf, pone, Kd.w, Kd.spare, Obj.ver, peq, pparts, play, psl, pbnd, binV, intV, ↓reduceIte, Nat.reduceAdd, Nat.reduceSub, Nat.reduceEqDiff, Nat.reduceLT, Nat.reduceLeDiff, Nat.reduceMul, reduceCtorEq, plain, zeros, s1', pword, m3, m4, e2]
      exact .agg rfl (PurL.cons (.sl _ _) (.cons (.sl _ _) .nil)).2
end Dm.YtmgehmhebnjaaaaGreatDoor
end
section
set_option maxRecDepth 100000
set_option linter.unusedSimpArgs false
namespace Dm.YtmgehmhebnjaaaaGreatDoor
open Go
theorem getD_ext {a b : List Int} (hl : a.length = b.length) (h : ∀ i, i < a.length → a.getD i 0 = b.getD i 0) : a = b := by
  apply List.ext_getElem hl
  intro i h1 h2
  have := h i h1
  rw [List.getD_eq_getElem?_getD, List.getD_eq_getElem?_getD, List.getElem?_eq_getElem h1, List.getElem?_eq_getElem h2] at this
  exact this
theorem getD_take {a : List Int} {k i : Nat} (h : i < k) : (a.take k).getD i 0 = a.getD i 0 := by
  rw [List.getD_eq_getElem?_getD, List.getD_eq_getElem?_getD, List.getElem?_take_of_lt h]
theorem per_gp {l : List Int} {k : Nat} (h1 : 1 ≤ k) (h2 : k ≤ l.length) : Per l k ↔ (l.length % k = 0 ∧ ∀ i, i < l.length → l.getD i 0 = l.getD (i % k) 0) := by
  rw [per_iff h1 h2]
  constructor
  · rintro ⟨hm, hp⟩
    refine ⟨hm, fun i => ?_⟩
    induction i using Nat.strongRecOn with
    | ind i ih =>
      intro hi
      by_cases hik : i < k
      · rw [Nat.mod_eq_of_lt hik]
      · rw [hp i (by omega) hi, ih (i - k) (by omega) (by omega), ← Nat.mod_eq_sub_mod (by omega)]
  · rintro ⟨hm, hp⟩
    refine ⟨hm, fun j a b => ?_⟩
    rw [hp j b, hp (j - k) (by omega), ← Nat.mod_eq_sub_mod a]
theorem gp_mod {l : List Int} {k : Nat} (h : l.length % k = 0) (hne : 0 < l.length) (hp : ∀ i, i < l.length → l.getD i 0 = l.getD (i % k) 0) (m : Nat) : l.getD (m % l.length) 0 = l.getD (m % k) 0 := by
  rw [hp _ (Nat.mod_lt _ hne), Nat.mod_mod_of_dvd _ (Nat.dvd_of_mod_eq_zero h)]
/-- Primitive: the whole is its own root. -/
def Prim (l : List Int) : Prop := IsRoot l l.length
theorem prim_root {l : List Int} {k : Nat} (h : IsRoot l k) : Prim (l.take k) := by
  obtain ⟨h1, h2, h3, h4⟩ := h
  have hl : (l.take k).length = k := by simp; omega
  unfold Prim
  rw [hl]
  have hS := Per.self (l.take k) (by omega)
  rw [hl] at hS
  refine ⟨h1, by omega, hS, fun j a b hj => h4 j a b ?_⟩
  rw [per_gp a (by omega)] at hj
  rw [per_gp h1 h2] at h3
  rw [per_gp a (by omega)]
  rw [hl] at hj
  refine ⟨Nat.mod_eq_zero_of_dvd (Nat.dvd_trans (Nat.dvd_of_mod_eq_zero hj.1) (Nat.dvd_of_mod_eq_zero h3.1)), fun i hi => ?_⟩
  have hlt : i % k < k := Nat.mod_lt _ (by omega)
  have hjk : i % k % j < k := Nat.lt_of_lt_of_le (Nat.mod_lt _ (by omega)) (by omega)
  have e := hj.2 (i % k) hlt
  rw [getD_take hlt, getD_take hjk] at e
  rw [h3.2 i hi, e, Nat.mod_mod_of_dvd _ (Nat.dvd_of_mod_eq_zero hj.1)]
theorem root_word {p l : List Int} {k : Nat} (h : IsRoot l k) : letterOf p (l.take k) = letterOf p l := by
  obtain ⟨h1, h2, h3, h4⟩ := h
  have hl : (l.take k).length = k := by simp; omega
  rw [per_gp h1 h2] at h3
  funext i
  unfold letterOf
  split
  · rfl
  · rw [hl, getD_take (Nat.mod_lt _ (by omega)), gp_mod h3.1 (by omega) h3.2]
/-- The loop turned by one. -/
def turn (l : List Int) : List Int := l.getD (l.length - 1) 0 :: l.take (l.length - 1)
theorem turn_len {l : List Int} (h : 0 < l.length) : (turn l).length = l.length := by simp [turn]; omega
theorem turn_get {l : List Int} (h : 0 < l.length) {m : Nat} : (turn l).getD ((m + 1) % l.length) 0 = l.getD (m % l.length) 0 := by
  have hm := Nat.mod_lt m h
  have e : (m + 1) % l.length = (m % l.length + 1) % l.length := by rw [Nat.mod_add_mod]
  rw [e]
  by_cases hq : m % l.length + 1 = l.length
  · rw [hq, Nat.mod_self]
    have : m % l.length = l.length - 1 := by omega
    rw [this]
    rfl
  · rw [Nat.mod_eq_of_lt (by omega)]
    unfold turn
    rw [List.getD_cons_succ, getD_take (by omega)]
theorem turn_prim {l : List Int} (h : Prim l) : Prim (turn l) := by
  obtain ⟨h1, h2, h3, h4⟩ := h
  have hl := turn_len (l := l) h1
  unfold Prim
  have hS := Per.self (turn l) (by omega)
  rw [hl] at hS ⊢
  refine ⟨h1, by omega, hS, fun j a b hj => h4 j a b ?_⟩
  rw [per_gp a (by omega)] at hj ⊢
  rw [hl] at hj
  refine ⟨hj.1, fun i hi => ?_⟩
  have g : ∀ m, (turn l).getD (m % l.length) 0 = (turn l).getD (m % j) 0 := fun m => by
    have := gp_mod (l := turn l) (k := j) (by rw [hl]; exact hj.1) (by omega) (by rw [hl]; exact hj.2) m
    rwa [hl] at this
  have e1 := turn_get (l := l) h1 (m := i)
  have e2 := turn_get (l := l) h1 (m := i % j)
  have hij : i % j < l.length := Nat.lt_of_lt_of_le (Nat.mod_lt _ (by omega)) (by omega)
  rw [Nat.mod_eq_of_lt hi, g] at e1
  rw [Nat.mod_eq_of_lt hij, g, Nat.mod_add_mod] at e2
  rw [← e1, ← e2]
theorem turn_word {p l : List Int} (hl : 0 < l.length) (hp : 0 < p.length) (he : p.getD (p.length - 1) 0 = l.getD (l.length - 1) 0) : letterOf (p.take (p.length - 1)) (turn l) = letterOf p l := by
  funext i
  have hpl : (p.take (p.length - 1)).length = p.length - 1 := by simp
  unfold letterOf
  rw [hpl, turn_len hl]
  by_cases h1 : i < p.length - 1
  · rw [if_pos h1, if_pos (by omega), getD_take h1]
  · rw [if_neg h1]
    by_cases h2 : i < p.length
    · have : i = p.length - 1 := by omega
      subst this
      rw [if_pos h2, Nat.sub_self, Nat.zero_mod, he]
      rfl
    · rw [if_neg h2]
      have : i - (p.length - 1) = (i - p.length) + 1 := by omega
      rw [this, turn_get hl]
/-- Does the prefix end as the loop does not? -/
def Stops (p l : List Int) : Prop := ¬ (0 < p.length ∧ p.getD (p.length - 1) 0 = l.getD (l.length - 1) 0)
theorem roll_word (k : Nat) : ∀ (p l : List Int), p.length = k → Prim l → letterOf (roll k p l).1 (roll k p l).2 = letterOf p l ∧ Prim (roll k p l).2 ∧ Stops (roll k p l).1 (roll k p l).2 := by
  induction k with
  | zero => intro p l hk h; exact ⟨rfl, h, fun q => by have := q.1; simp only [roll] at this; omega⟩
  | succ k ih =>
    intro p l hk h
    have hl : 0 < l.length := h.1
    rw [roll]
    split
    · rename_i hc
      have := ih (p.take (p.length - 1)) (turn l) (by simp; omega) (turn_prim h)
      rw [turn_word hl hc.1 hc.2] at this
      exact this
    · rename_i hc
      exact ⟨rfl, h, hc⟩
theorem shortF_word {p l : List Int} (h : 0 < l.length) : letterOf (shortF p l).1 (shortF p l).2 = letterOf p l ∧ Prim (shortF p l).2 ∧ Stops (shortF p l).1 (shortF p l).2 := by
  have hr := rootOf_spec h
  have := roll_word p.length p (l.take (rootOf l)) rfl (prim_root hr)
  rw [root_word hr] at this
  exact this
/-- From some place on the word repeats. -/
def EP (w : Nat → Int) (N d : Nat) : Prop := ∀ i, N ≤ i → w (i + d) = w i
theorem EP.mul {w : Nat → Int} {N d : Nat} (h : EP w N d) (t : Nat) : EP w N (d * t) := by
  induction t with
  | zero => intro i _; rfl
  | succ t ih =>
    intro i hi
    rw [Nat.mul_succ, ← Nat.add_assoc, h _ (by omega), ih i hi]
theorem EP.gcd {w : Nat → Int} {N : Nat} (a b : Nat) : EP w N a → EP w N b → EP w N (Nat.gcd a b) := by
  induction a, b using Nat.gcd.induction with
  | H0 n => intro _ h; rwa [Nat.gcd_zero_left]
  | H1 m n hm ih =>
    intro ha hb
    rw [Nat.gcd_rec]
    refine ih (fun i hi => ?_) ha
    have := ha.mul (n / m) (i + n % m) (by omega)
    rw [← this, Nat.add_assoc, Nat.mod_add_div, hb i hi]
theorem EP.down {w : Nat → Int} {N M d e : Nat} (h : EP w N d) (he : EP w M e) (h0 : 0 < e) : EP w M d := by
  intro i hi
  have hN : N ≤ i + e * N := by have : N ≤ e * N := Nat.le_mul_of_pos_left N h0; omega
  rw [← he.mul N (i + d) (by omega), show i + d + e * N = i + e * N + d by omega, h _ hN, he.mul N i hi]
theorem word_EP (p l : List Int) : EP (letterOf p l) p.length l.length := by
  intro i hi
  unfold letterOf
  rw [if_neg (by omega), if_neg (by omega), show i + l.length - p.length = i - p.length + l.length by omega, Nat.add_mod_right]
theorem prim_EP {p l : List Int} {g : Nat} (hl : Prim l) (hg : 0 < g) (hd : l.length % g = 0) (h : EP (letterOf p l) p.length g) : g = l.length := by
  have h1 : 1 ≤ l.length := hl.1
  have hle : g ≤ l.length := Nat.le_of_dvd h1 (Nat.dvd_of_mod_eq_zero hd)
  rcases Nat.lt_or_ge g l.length with q | q
  · refine absurd ((per_iff hg hle).2 ⟨hd, fun j a b => ?_⟩) (hl.2.2.2 g hg q)
    have := h (p.length + (j - g)) (by omega)
    unfold letterOf at this
    rw [if_neg (by omega), if_neg (by omega), show p.length + (j - g) + g - p.length = j by omega, show p.length + (j - g) - p.length = j - g by omega, Nat.mod_eq_of_lt b, Nat.mod_eq_of_lt (by omega)] at this
    exact this
  · omega
theorem prefix_le {p1 l1 p2 l2 : List Int} (hl : l1.length = l2.length) (h0 : 0 < l1.length) (hw : letterOf p1 l1 = letterOf p2 l2) (s2 : Stops p2 l2) : p2.length ≤ p1.length := by
  apply Decidable.byContradiction
  intro hc
  apply s2
  refine ⟨by omega, ?_⟩
  have h1 := word_EP p1 l1 (p2.length - 1) (by omega)
  rw [hw] at h1
  unfold letterOf at h1
  rw [if_neg (by omega), if_pos (by omega), hl, show p2.length - 1 + l2.length - p2.length = l2.length - 1 by omega, Nat.mod_eq_of_lt (by omega)] at h1
  exact h1.symm
theorem form_unique {p1 l1 p2 l2 : List Int} (hw : letterOf p1 l1 = letterOf p2 l2) (h1 : Prim l1) (h2 : Prim l2) (s1 : Stops p1 l1) (s2 : Stops p2 l2) : p1 = p2 ∧ l1 = l2 := by
  have a1 : 0 < l1.length := h1.1
  have a2 : 0 < l2.length := h2.1
  have e1 := word_EP p1 l1
  have e2 := word_EP p2 l2
  have hg : 0 < Nat.gcd l1.length l2.length := Nat.gcd_pos_of_pos_left _ a1
  have g1 : Nat.gcd l1.length l2.length = l1.length := prim_EP h1 hg (Nat.mod_eq_zero_of_dvd (Nat.gcd_dvd_left _ _)) (EP.gcd _ _ e1 (by rw [hw]; exact e2.down (by rw [← hw]; exact e1) a1))
  have g2 : Nat.gcd l1.length l2.length = l2.length := prim_EP h2 hg (Nat.mod_eq_zero_of_dvd (Nat.gcd_dvd_right _ _)) (EP.gcd _ _ (by rw [← hw]; exact e1.down (by rw [hw]; exact e2) a2) e2)
  have hl : l1.length = l2.length := by omega
  have hp : p1.length = p2.length := Nat.le_antisymm (prefix_le hl.symm a2 hw.symm s1) (prefix_le hl a1 hw s2)
  refine ⟨getD_ext hp fun i hi => ?_, getD_ext hl fun i hi => ?_⟩
  · have := congrFun hw i
    unfold letterOf at this
    rwa [if_pos hi, if_pos (by omega)] at this
  · have := congrFun hw (p1.length + i)
    unfold letterOf at this
    rwa [if_neg (by omega), if_neg (by omega), show p1.length + i - p1.length = i by omega, show p1.length + i - p2.length = i by omega, Nat.mod_eq_of_lt hi, Nat.mod_eq_of_lt (by omega)] at this
theorem shortF_unique {p1 l1 p2 l2 : List Int} (h1 : 0 < l1.length) (h2 : 0 < l2.length) (hw : letterOf p1 l1 = letterOf p2 l2) : shortF p1 l1 = shortF p2 l2 := by
  obtain ⟨a1, b1, c1⟩ := shortF_word (p := p1) h1
  obtain ⟨a2, b2, c2⟩ := shortF_word (p := p2) h2
  obtain ⟨e1, e2⟩ := form_unique (a1.trans (hw.trans a2.symm)) b1 b2 c1 c2
  exact Prod.ext e1 e2
end Dm.YtmgehmhebnjaaaaGreatDoor
end
section
set_option maxRecDepth 100000
set_option linter.unusedSimpArgs false
namespace Dm.YtmgehmhebnjaaaaGreatDoor
open Go
/-- How often the letter has changed. -/
def chg (w : Nat → Int) : Nat → Nat
  | 0 => 0
  | i + 1 => chg w i + (if w (i + 1) ≠ w i then 1 else 0)
theorem chg_succ (w : Nat → Int) (i : Nat) : chg w i ≤ chg w (i + 1) ∧ chg w (i + 1) ≤ chg w i + 1 := by
  rw [chg]
  split <;> omega
theorem chg_mono {w : Nat → Int} {i j : Nat} (h : i ≤ j) : chg w i ≤ chg w j := by
  induction j with
  | zero => have : i = 0 := by omega
            subst this; exact Nat.le_refl _
  | succ j ih =>
    by_cases q : i = j + 1
    · subst q; exact Nat.le_refl _
    · exact Nat.le_trans (ih (by omega)) (chg_succ w j).1
theorem chg_hits {w : Nat → Int} {i j : Nat} (h : j ≤ chg w i) : ∃ k, chg w k = j := by
  induction i with
  | zero => exact ⟨0, by simp only [chg] at h ⊢; omega⟩
  | succ i ih =>
    by_cases q : j ≤ chg w i
    · exact ih q
    · exact ⟨i + 1, by have := (chg_succ w i).2; omega⟩
theorem chg_congr {w v : Nat → Int} {n : Nat} (h : ∀ i, i ≤ n → w i = v i) : ∀ i, i ≤ n → chg w i = chg v i := by
  intro i
  induction i with
  | zero => intro _; rfl
  | succ i ih =>
    intro hi
    rw [chg, chg, ih (by omega), h i (by omega), h (i + 1) hi]
theorem chg_add (w : Nat → Int) (N i : Nat) : chg w (N + i) = chg w N + chg (fun j => w (N + j)) i := by
  induction i with
  | zero => rfl
  | succ i ih => rw [← Nat.add_assoc, chg, chg, ih, Nat.add_assoc]; rfl
/-- One word is the other without stuttering. -/
def UW (w u : Nat → Int) : Prop := (∀ i, u (chg w i) = w i) ∧ ∀ j, (∀ i, chg w i < j) → u j = u (j - 1)
theorem UW.uniq {w u v : Nat → Int} (h : UW w u) (h2 : UW w v) : u = v := by
  funext j
  induction j using Nat.strongRecOn with
  | ind j ih =>
    by_cases q : ∃ i, chg w i = j
    · obtain ⟨i, rfl⟩ := q
      rw [h.1, h2.1]
    · have hlt : ∀ i, chg w i < j := fun i => by
        apply Decidable.byContradiction
        intro hc
        exact q (chg_hits (by omega : j ≤ chg w i))
      have := hlt 0
      rw [h.2 j hlt, h2.2 j hlt, ih (j - 1) (by omega)]
theorem onceTo_chg {X : List Int} {m : Nat} : (onceTo X (m + 1)).length = chg (fun i => X.getD i 0) m + 1 := by
  induction m with
  | zero => simp [onceTo, chg]
  | succ m ih =>
    rw [onceTo, chg, List.length_append, ih]
    by_cases h : X.getD (m + 1) 0 = X.getD m 0
    · rw [if_neg (by rintro (q | q); omega; exact q h), if_neg (by simpa using h)]; rfl
    · rw [if_pos (.inr h), if_pos (by simpa using h)]; rfl
theorem onceTo_get {X : List Int} {m : Nat} (d : Nat) : (onceTo X (m + 1 + d)).getD (chg (fun i => X.getD i 0) m) 0 = X.getD m 0 := by
  induction d with
  | zero =>
    have := onceTo_last X m
    rw [onceTo_chg] at this
    exact this
  | succ d ih =>
    rw [← Nat.add_assoc, onceTo, List.getD_eq_getElem?_getD, List.getElem?_append_left, ← List.getD_eq_getElem?_getD]
    · exact ih
    · have e : m + 1 + d = (m + d) + 1 := by omega
      rw [e, onceTo_chg]
      have := chg_mono (w := fun i => X.getD i 0) (i := m) (j := m + d) (by omega)
      omega
theorem once_get {X : List Int} {m : Nat} (h : m < X.length) : (once X).getD (chg (fun i => X.getD i 0) m) 0 = X.getD m 0 := by
  have := onceTo_get (X := X) (m := m) (X.length - (m + 1))
  rw [show m + 1 + (X.length - (m + 1)) = X.length by omega] at this
  exact this
theorem once_chg {X : List Int} (h : 0 < X.length) : (once X).length = chg (fun i => X.getD i 0) (X.length - 1) + 1 := by
  have := onceTo_chg (X := X) (m := X.length - 1)
  rw [show X.length - 1 + 1 = X.length by omega] at this
  exact this
theorem chg_period {v : Nat → Int} {L : Nat} (h : ∀ i, v (L + i) = v i) (t s : Nat) : chg v (t * L + s) = t * chg v L + chg v s := by
  have h1 : ∀ s, chg v (L + s) = chg v L + chg v s := fun s => by
    rw [chg_add]
    have : (fun j => v (L + j)) = v := funext h
    rw [this]
  induction t with
  | zero => rw [Nat.zero_mul, Nat.zero_mul, Nat.zero_add, Nat.zero_add]
  | succ t ih => rw [Nat.succ_mul, Nat.succ_mul, show t * L + L + s = L + (t * L + s) by omega, h1, ih]; omega
theorem uns_word {p l : List Int} (hl : 0 < l.length) : UW (letterOf p l) (letterOf (unsF p l).1 (unsF p l).2) := by
  have hX : ∀ i, i ≤ p.length + l.length - 1 → letterOf p l i = (fun i => (p ++ l).getD i 0) i := fun i hi => (letterOf_get (by omega)).symm
  have hcX := chg_congr hX
  have hXl : (p ++ l).length = p.length + l.length := List.length_append
  have hoX := once_chg (X := p ++ l) (by omega)
  rw [hXl, ← hcX _ (Nat.le_refl _)] at hoX
  have hgX : ∀ i, i < p.length + l.length → (once (p ++ l)).getD (chg (letterOf p l) i) 0 = letterOf p l i := fun i hi => by
    rw [hcX i (by omega), once_get (by omega), hX i (by omega)]
  generalize hN : p.length + l.length - 1 = N at *
  have hlast : letterOf p l N = l.getD (l.length - 1) 0 := by
    unfold letterOf
    rw [if_neg (by omega), show N - p.length = l.length - 1 by omega, Nat.mod_eq_of_lt (by omega)]
  generalize hY : l.getD (l.length - 1) 0 :: l = Y
  have hYl : Y.length = l.length + 1 := by rw [← hY]; rfl
  have hv : ∀ i, i ≤ l.length → letterOf p l (N + i) = (fun i => Y.getD i 0) i := fun i hi => by
    rw [← hY]
    cases i with
    | zero => exact hlast
    | succ i =>
      show letterOf p l (N + (i + 1)) = l.getD i 0
      unfold letterOf
      rw [if_neg (by omega), show N + (i + 1) - p.length = i + l.length by omega, Nat.add_mod_right, Nat.mod_eq_of_lt (by omega)]
  have hcY := chg_congr (w := fun j => letterOf p l (N + j)) hv
  have hper : ∀ i, letterOf p l (N + (l.length + i)) = letterOf p l (N + i) := fun i => by
    have hm : (N + (l.length + i) - p.length) % l.length = (N + i - p.length) % l.length := by
      rw [show N + (l.length + i) - p.length = N + i - p.length + l.length by omega, Nat.add_mod_right]
    unfold letterOf
    rw [if_neg (by omega), if_neg (by omega), hm]
  have hoY := once_chg (X := Y) (by omega)
  rw [hYl, Nat.add_sub_cancel, ← hcY _ (Nat.le_refl _)] at hoY
  have hgY : ∀ i, i ≤ l.length → (once Y).getD (chg (fun j => letterOf p l (N + j)) i) 0 = letterOf p l (N + i) := fun i hi => by
    rw [hcY i hi, once_get (by omega), hv i hi]
  have hls : loopS l = (once Y).drop 1 := by rw [← hY]; rfl
  have hc : ∀ t s, chg (letterOf p l) (N + (t * l.length + s)) = chg (letterOf p l) N + (t * chg (fun j => letterOf p l (N + j)) l.length + chg (fun j => letterOf p l (N + j)) s) := fun t s => by
    rw [chg_add, chg_period hper]
  have hmono : ∀ s, s ≤ l.length → chg (fun j => letterOf p l (N + j)) s ≤ chg (fun j => letterOf p l (N + j)) l.length := fun s hs => chg_mono hs
  have hdl : (loopS l).length = chg (fun j => letterOf p l (N + j)) l.length := by rw [hls, List.length_drop, hoY]; omega
  have hw2 : ∀ t s, letterOf p l (N + (t * l.length + s)) = letterOf p l (N + s) := fun t s => by
    induction t with
    | zero => rw [Nat.zero_mul, Nat.zero_add]
    | succ t ih => rw [Nat.succ_mul, show t * l.length + l.length + s = l.length + (t * l.length + s) by omega, hper, ih]
  have hy0 : (once Y).getD 0 0 = l.getD (l.length - 1) 0 := by
    have := hgY 0 (by omega)
    rw [show chg (fun j => letterOf p l (N + j)) 0 = 0 from rfl] at this
    rw [this]; exact hlast
  generalize hK : chg (letterOf p l) N = K at *
  generalize hcf : chg (fun j => letterOf p l (N + j)) = cf at *
  have hsplit : ∀ i, N < i → ∃ t s, i = N + (t * l.length + s) ∧ s < l.length := fun i hi => ⟨(i - N) / l.length, (i - N) % l.length, by have := Nat.div_add_mod (i - N) l.length; rw [Nat.mul_comm] at this; omega, Nat.mod_lt _ hl⟩
  have hmonoN : ∀ i, i ≤ N → chg (letterOf p l) i ≤ K := fun i hi => by rw [← hK]; exact chg_mono hi
  by_cases hz : (loopS l).length = 0
  · rw [unsF, if_pos hz]
    have hd0 : cf l.length = 0 := by omega
    have htl : ((once (p ++ l)).take ((once (p ++ l)).length - 1)).length = K := by simp; omega
    have hu : ∀ j, letterOf ((once (p ++ l)).take ((once (p ++ l)).length - 1)) [l.getD (l.length - 1) 0] j = if j < K then (once (p ++ l)).getD j 0 else l.getD (l.length - 1) 0 := fun j => by
      unfold letterOf
      rw [htl]
      by_cases hj : j < K
      · rw [if_pos hj, if_pos hj, getD_take (by omega)]
      · rw [if_neg hj, if_neg hj, List.length_singleton, Nat.mod_one]; rfl
    refine ⟨fun i => ?_, fun j hj => ?_⟩
    · show letterOf _ _ _ = _
      rw [hu]
      by_cases hi : i ≤ N
      · have hm := hmonoN i hi
        have hg := hgX i (by omega)
        by_cases hq : chg (letterOf p l) i < K
        · rw [if_pos hq, hg]
        · rw [if_neg hq]
          have e : chg (letterOf p l) i = K := by omega
          rw [e] at hg
          have hgN := hgX N (by omega)
          rw [hK] at hgN
          rw [← hg, hgN, hlast]
      · obtain ⟨t, s, rfl, hs⟩ := hsplit i (by omega)
        have hm := hmono s (by omega)
        have hs0 : cf s = 0 := by omega
        rw [hc, hd0, hs0, Nat.mul_zero, Nat.add_zero, if_neg (by omega), hw2]
        have := hgY s (by omega)
        rw [hs0, hy0] at this
        exact this
    · have := hj N
      rw [hK] at this
      show letterOf _ _ _ = letterOf _ _ _
      rw [hu, hu, if_neg (by omega), if_neg (by omega)]
  · rw [unsF, if_neg hz]
    have hd1 : 0 < cf l.length := by omega
    have hyd : (once Y).getD (cf l.length) 0 = l.getD (l.length - 1) 0 := by
      rw [hgY l.length (Nat.le_refl _)]
      have := hper 0
      rw [Nat.add_zero] at this
      rw [this]
      exact hlast
    refine ⟨fun i => ?_, fun j hj => ?_⟩
    · show letterOf (once (p ++ l)) (loopS l) _ = _
      by_cases hi : i ≤ N
      · have hm := hmonoN i hi
        unfold letterOf
        rw [hoX, if_pos]
        · exact hgX i (by omega)
        · show chg (letterOf p l) i < K + 1
          omega
      · obtain ⟨t, s, rfl, hs⟩ := hsplit i (by omega)
        have hm := hmono s (by omega)
        rw [hc, hw2, ← hgY s (by omega)]
        generalize hA : t * cf l.length + cf s = A
        unfold letterOf
        rw [hoX]
        by_cases h0 : A = 0
        · rw [h0, if_pos (by omega), Nat.add_zero]
          have hs0 : cf s = 0 := by omega
          have hgN := hgX N (by omega)
          rw [hK] at hgN
          rw [hgN, hlast, hs0, hy0]
        · rw [if_neg (by omega), hdl, hls, List.getD_eq_getElem?_getD, List.getElem?_drop, ← List.getD_eq_getElem?_getD]
          have hA1 : K + A - (K + 1) = A - 1 := by omega
          rw [hA1]
          by_cases hs0 : cf s = 0
          · have ht : 0 < t := by
              rcases Nat.eq_zero_or_pos t with q | q
              · subst q; rw [Nat.zero_mul] at hA; omega
              · exact q
            obtain ⟨t', rfl⟩ : ∃ t', t = t' + 1 := ⟨t - 1, by omega⟩
            have e : (A - 1) % cf l.length = cf l.length - 1 := by
              rw [← hA, hs0, Nat.succ_mul, show t' * cf l.length + cf l.length + 0 - 1 = (cf l.length - 1) + t' * cf l.length by omega, Nat.add_mul_mod_self_right, Nat.mod_eq_of_lt (by omega)]
            rw [e, show 1 + (cf l.length - 1) = cf l.length by omega, hyd, hs0, hy0]
          · have e : (A - 1) % cf l.length = cf s - 1 := by
              rw [← hA, show t * cf l.length + cf s - 1 = (cf s - 1) + t * cf l.length by omega, Nat.add_mul_mod_self_right, Nat.mod_eq_of_lt (by omega)]
            rw [e, show 1 + (cf s - 1) = cf s by omega]
    · have := hj (N + (j * l.length + 0))
      rw [hc] at this
      have h2 : j ≤ j * cf l.length := Nat.le_mul_of_pos_right j hd1
      omega
theorem onceTo_append {a b : List Int} {m : Nat} (h : m ≤ a.length) : onceTo (a ++ b) m = onceTo a m := by
  induction m with
  | zero => rfl
  | succ m ih =>
    have e : ∀ j, j < a.length → (a ++ b).getD j 0 = a.getD j 0 := fun j hj => by
      rw [List.getD_eq_getElem?_getD, List.getD_eq_getElem?_getD, List.getElem?_append_left hj]
    rw [onceTo, onceTo, ih (by omega), e m (by omega)]
    by_cases h0 : m = 0
    · rw [if_pos (.inl h0), if_pos (.inl h0)]
    · rw [e (m - 1) (by omega)]
theorem loopS_pos {l : List Int} (h : Prim l) (h1 : l.length ≠ 1) : 0 < (loopS l).length := by
  have hl : 1 ≤ l.length := h.1
  apply Decidable.byContradiction
  intro hc
  have hz : (loopS l).length = 0 := by omega
  refine h.2.2.2 1 (Nat.le_refl _) (by omega) ((per_gp (Nat.le_refl _) hl).2 ⟨Nat.mod_one _, fun i hi => ?_⟩)
  have hls : (loopS l).length = (once (l.getD (l.length - 1) 0 :: l)).length - 1 := by simp [loopS]
  have hk := once_chg (X := l.getD (l.length - 1) 0 :: l) (by simp)
  have g : ∀ j, j < l.length → l.getD j 0 = (once (l.getD (l.length - 1) 0 :: l)).getD 0 0 := fun j hj => by
    have := once_get (X := l.getD (l.length - 1) 0 :: l) (m := j + 1) (by simp; omega)
    have hm := chg_mono (w := fun i => (l.getD (l.length - 1) 0 :: l).getD i 0) (i := j + 1) (j := (l.getD (l.length - 1) 0 :: l).length - 1) (by simp; omega)
    rw [show chg (fun i => (l.getD (l.length - 1) 0 :: l).getD i 0) (j + 1) = 0 by omega] at this
    rw [this]
    rfl
  rw [Nat.mod_one, g i hi, g 0 (by omega)]
theorem refUns_eq {p l : List Int} (h : 0 < l.length) : refUns p l = unsF (shortF p l).1 (shortF p l).2 := by
  obtain ⟨_, hp, hs⟩ := shortF_word (p := p) h
  unfold refUns unsF
  generalize shortF p l = w at *
  obtain ⟨wp, wl⟩ := w
  simp only at hp hs ⊢
  by_cases h1 : wl.length = 1
  · obtain ⟨x, rfl⟩ : ∃ x, wl = [x] := List.length_eq_one_iff.1 h1
    have hz : (loopS [x]).length = 0 := by simp [loopS, once, onceTo]
    rw [if_pos (by rfl), if_pos hz]
    have : once (wp ++ [x]) = once wp ++ [x] := by
      unfold once
      rw [List.length_append, List.length_singleton, onceTo, onceTo_append (Nat.le_refl _)]
      congr 1
      have e : (wp ++ [x]).getD wp.length 0 = x := by simp
      rw [e, if_pos]
      by_cases h0 : wp.length = 0
      · exact .inl h0
      · refine .inr fun q => hs ⟨by omega, ?_⟩
        rw [List.getD_eq_getElem?_getD, List.getElem?_append_left (by omega), ← List.getD_eq_getElem?_getD] at q
        rw [← q]
        rfl
    rw [this]
    simp
  · rw [if_neg h1, if_neg (by have := loopS_pos hp h1; omega)]
theorem uns_pos {p l : List Int} : 0 < (unsF p l).2.length := by
  unfold unsF
  split
  · simp
  · show 0 < (loopS l).length
    omega
theorem uns_same {p l : List Int} (h : 0 < l.length) : shortF (unsF p l).1 (unsF p l).2 = shortF (refUns p l).1 (refUns p l).2 := by
  rw [refUns_eq h]
  have h2 : 0 < (shortF p l).2.length := (shortF_word (p := p) h).2.1.1
  refine shortF_unique uns_pos uns_pos ?_
  have a := uns_word (p := p) h
  have b := uns_word (p := (shortF p l).1) h2
  rw [(shortF_word (p := p) h).1] at b
  exact a.uniq b
end Dm.YtmgehmhebnjaaaaGreatDoor
end
