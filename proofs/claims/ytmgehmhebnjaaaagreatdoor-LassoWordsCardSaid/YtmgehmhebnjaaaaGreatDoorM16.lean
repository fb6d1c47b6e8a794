/- Lemmas that lead to the statement: LassoWords always says yes. -/
import Derived.Test.YtmgehmhebnjaaaaGreatDoorM13
import Derived.Test.YtmgehmhebnjaaaaGreatDoorM15
set_option linter.all false
set_option maxRecDepth 100000
set_option linter.unusedSimpArgs false
namespace Dm.YtmgehmhebnjaaaaGreatDoor
open Go
theorem lassoWords_c (p l : List Int) : Closed tab nopr 5 [pword p l] (PV.v (Value.bool (true))) := by
  refine Closed.of (mf := m5) rfl rfl rfl ?_
  try simp (disch := omega) only [PR, plen, pop, prd, prds, pwr, keptP, presAll, presOf, pone, Kd.w, Kd.spare, Obj.ver, peq, pparts, play, psl, pbnd, binV, intV, ↓reduceIte, Nat.reduceAdd, Nat.reduceSub, Nat.reduceEqDiff, Nat.reduceLT, Nat.reduceLeDiff, Nat.reduceMul, reduceCtorEq, plain, zeros, m5, pword]
  refine PAns.closed awake_c .nil ?_
  try simp (disch := omega) only [PR, plen, pop, prd, prds, pwr, keptP, presAll, presOf, pone, Kd.w, Kd.spare, Obj.ver, peq, pparts, play, psl, pbnd, binV, intV, ↓reduceIte, Nat.reduceAdd, Nat.reduceSub, Nat.reduceEqDiff, Nat.reduceLT, Nat.reduceLeDiff, Nat.reduceMul, reduceCtorEq, plain, zeros]
  refine PAns.closed (short_c (p := p) (l := l)) (by repeat (first | exact PurL.nil | refine PurL.cons ?_ ?_ | exact Pur.v _ | exact Pur.sl _ _ | exact Pur.ep _ | exact Pur.fn _ rfl PurL.nil.2 | exact pword_pure _ _)) ?_
  by_cases hsh : p.length ≤ 70 ∧ l.length ≤ 70
  · obtain ⟨h1, h2⟩ := hsh
    have hd : (decide (p.length ≤ 70) && decide (l.length ≤ 70)) = true := by simp [h1, h2]
    try simp (disch := omega) only [PR, plen, pop, prd, prds, pwr, keptP, presAll, presOf, pone, Kd.w, Kd.spare, Obj.ver, peq, pparts, play, psl, pbnd, binV, intV, ↓reduceIte, Nat.reduceAdd, Nat.reduceSub, Nat.reduceEqDiff, Nat.reduceLT, Nat.reduceLeDiff, Nat.reduceMul, reduceCtorEq, plain, zeros, hd]
    refine PAns.closed (ownWord_c (p := p) (l := l) (by omega) (by omega)) (by repeat (first | exact PurL.nil | refine PurL.cons ?_ ?_ | exact Pur.v _ | exact Pur.sl _ _ | exact Pur.ep _ | exact Pur.fn _ rfl PurL.nil.2 | exact pword_pure _ _)) ?_
    try simp (disch := omega) only [PR, plen, pop, prd, prds, pwr, keptP, presAll, presOf, pone, Kd.w, Kd.spare, Obj.ver, peq, pparts, play, psl, pbnd, binV, intV, ↓reduceIte, Nat.reduceAdd, Nat.reduceSub, Nat.reduceEqDiff, Nat.reduceLT, Nat.reduceLeDiff, Nat.reduceMul, reduceCtorEq, plain, zeros, pword]
    refine PAns.closed (lassoShortest_c (p := p) (l := l) (by omega) (by omega)) (by repeat (first | exact PurL.nil | refine PurL.cons ?_ ?_ | exact Pur.v _ | exact Pur.sl _ _ | exact Pur.ep _ | exact Pur.fn _ rfl PurL.nil.2 | exact pword_pure _ _)) ?_
    by_cases hE : wordErr p l = 0
    · have hne := wordErr_pos hE
      have hsl := shortF_len (p := p) hne
      try simp (disch := omega) only [PR, plen, pop, prd, prds, pwr, keptP, presAll, presOf, pone, Kd.w, Kd.spare, Obj.ver, peq, pparts, play, psl, pbnd, binV, intV, ↓reduceIte, Nat.reduceAdd, Nat.reduceSub, Nat.reduceEqDiff, Nat.reduceLT, Nat.reduceLeDiff, Nat.reduceMul, reduceCtorEq, plain, zeros, hE, if_true, pword]
      refine PAns.closed (ownWord_c (p := p) (l := l) (by omega) (by omega)) (by repeat (first | exact PurL.nil | refine PurL.cons ?_ ?_ | exact Pur.v _ | exact Pur.sl _ _ | exact Pur.ep _ | exact Pur.fn _ rfl PurL.nil.2 | exact pword_pure _ _)) ?_
      try simp (disch := omega) only [PR, plen, pop, prd, prds, pwr, keptP, presAll, presOf, pone, Kd.w, Kd.spare, Obj.ver, peq, pparts, play, psl, pbnd, binV, intV, ↓reduceIte, Nat.reduceAdd, Nat.reduceSub, Nat.reduceEqDiff, Nat.reduceLT, Nat.reduceLeDiff, Nat.reduceMul, reduceCtorEq, plain, zeros, pword]
      refine PAns.closed (unstuttered_c (p := p) (l := l) (by omega) (by omega) (by omega)) (by repeat (first | exact PurL.nil | refine PurL.cons ?_ ?_ | exact Pur.v _ | exact Pur.sl _ _ | exact Pur.ep _ | exact Pur.fn _ rfl PurL.nil.2 | exact pword_pure _ _)) ?_
      try simp (disch := omega) only [PR, plen, pop, prd, prds, pwr, keptP, presAll, presOf, pone, Kd.w, Kd.spare, Obj.ver, peq, pparts, play, psl, pbnd, binV, intV, ↓reduceIte, Nat.reduceAdd, Nat.reduceSub, Nat.reduceEqDiff, Nat.reduceLT, Nat.reduceLeDiff, Nat.reduceMul, reduceCtorEq, plain, zeros, hE, if_true, pword]
      refine PAns.closed (refWordErr_c (p := p) (l := l) (by omega) (by omega)) (by repeat (first | exact PurL.nil | refine PurL.cons ?_ ?_ | exact Pur.v _ | exact Pur.sl _ _ | exact Pur.ep _ | exact Pur.fn _ rfl PurL.nil.2 | exact pword_pure _ _)) ?_
      try simp (disch := omega) only [PR, plen, pop, prd, prds, pwr, keptP, presAll, presOf, pone, Kd.w, Kd.spare, Obj.ver, peq, pparts, play, psl, pbnd, binV, intV, ↓reduceIte, Nat.reduceAdd, Nat.reduceSub, Nat.reduceEqDiff, Nat.reduceLT, Nat.reduceLeDiff, Nat.reduceMul, reduceCtorEq, plain, zeros, hE, if_true, pword]
      refine PAns.closed (refShortest_c (p := p) (l := l) (by omega) (by omega) hne (rootOf_spec hne)) (by repeat (first | exact PurL.nil | refine PurL.cons ?_ ?_ | exact Pur.v _ | exact Pur.sl _ _ | exact Pur.ep _ | exact Pur.fn _ rfl PurL.nil.2 | exact pword_pure _ _)) ?_
      try simp (disch := omega) only [PR, plen, pop, prd, prds, pwr, keptP, presAll, presOf, pone, Kd.w, Kd.spare, Obj.ver, peq, pparts, play, psl, pbnd, binV, intV, ↓reduceIte, Nat.reduceAdd, Nat.reduceSub, Nat.reduceEqDiff, Nat.reduceLT, Nat.reduceLeDiff, Nat.reduceMul, reduceCtorEq, plain, zeros, pword]
      refine PAns.closed (sameWord_c (p := (shortF p l).1) (l := (shortF p l).2) (p2 := (shortF p l).1) (l2 := (shortF p l).2) (by omega) (by omega)) (.cons (pword_pure _ _) (.cons (pword_pure _ _) .nil)) ?_
      have ht : ∀ a b : List Int, (decide (a = a) && decide (b = b)) = true := fun a b => by simp
      have hns : (shortF p l).2.length ≠ 1 → 0 < (loopS (shortF p l).2).length := loopS_pos (shortF_word (p := p) hne).2.1
      try simp (disch := omega) only [PR, plen, pop, prd, prds, pwr, keptP, presAll, presOf, pone, Kd.w, Kd.spare, Obj.ver, peq, pparts, play, psl, pbnd, binV, intV, ↓reduceIte, Nat.reduceAdd, Nat.reduceSub, Nat.reduceEqDiff, Nat.reduceLT, Nat.reduceLeDiff, Nat.reduceMul, reduceCtorEq, plain, zeros, ht]
      refine PAns.closed (refUnstuttered_c (p := p) (l := l) (by omega) (by omega) hne hns) (by repeat (first | exact PurL.nil | refine PurL.cons ?_ ?_ | exact Pur.v _ | exact Pur.sl _ _ | exact Pur.ep _ | exact Pur.fn _ rfl PurL.nil.2 | exact pword_pure _ _)) ?_
      rw [uns_same hne]
      try simp (disch := omega) only [PR, plen, pop, prd, prds, pwr, keptP, presAll, presOf, pone, Kd.w, Kd.spare, Obj.ver, peq, pparts, play, psl, pbnd, binV, intV, ↓reduceIte, Nat.reduceAdd, Nat.reduceSub, Nat.reduceEqDiff, Nat.reduceLT, Nat.reduceLeDiff, Nat.reduceMul, reduceCtorEq, plain, zeros, pword]
      generalize hF : shortF (refUns p l).1 (refUns p l).2 = F
      have hFl : F.1.length ≤ 100000 ∧ F.2.length ≤ 100000 := by
        have h3 := shortF_len (p := (refUns p l).1) (l := (refUns p l).2) (by rw [refUns_eq hne]; exact uns_pos)
        rw [hF] at h3
        have h4 : (refUns p l).1.length ≤ 1000 ∧ (refUns p l).2.length ≤ 1000 := by
          unfold refUns
          have o1 := once_le (shortF p l).1
          have o2 := once_le ((shortF p l).1 ++ (shortF p l).2)
          have o3 := once_le ((shortF p l).2.getD ((shortF p l).2.length - 1) 0 :: (shortF p l).2)
          rw [List.length_append] at o2
          rw [List.length_cons] at o3
          have o4 : (loopS (shortF p l).2).length = (once ((shortF p l).2.getD ((shortF p l).2.length - 1) 0 :: (shortF p l).2)).length - 1 := by simp [loopS]
          split
          · show (once (shortF p l).1).length ≤ 1000 ∧ (shortF p l).2.length ≤ 1000
            omega
          · show (once ((shortF p l).1 ++ (shortF p l).2)).length ≤ 1000 ∧ (loopS (shortF p l).2).length ≤ 1000
            omega
        omega
      refine PAns.closed (sameWord_c (p := F.1) (l := F.2) (p2 := F.1) (l2 := F.2) (by omega) (by omega)) (.cons (pword_pure _ _) (.cons (pword_pure _ _) .nil)) ?_
      try simp (disch := omega) only [PR, plen, pop, prd, prds, pwr, keptP, presAll, presOf, pone, Kd.w, Kd.spare, Obj.ver, peq, pparts, play, psl, pbnd, binV, intV, ↓reduceIte, Nat.reduceAdd, Nat.reduceSub, Nat.reduceEqDiff, Nat.reduceLT, Nat.reduceLeDiff, Nat.reduceMul, reduceCtorEq, plain, zeros, ht]
      exact .v _
    · have z : ∀ st, Pur finRow st (.v (.slice none 0 0)) (.sl 0 (pints [])) := fun st => .nil
      have z2 : ∀ st, Pur finRow st (.agg [.v (.slice none 0 0), .v (.slice none 0 0)]) (pword [] []) := fun st => .agg rfl (PurL.cons (z st) (.cons (z st) .nil)).2
      try simp (disch := omega) only [PR, plen, pop, prd, prds, pwr, keptP, presAll, presOf, pone, Kd.w, Kd.spare, Obj.ver, peq, pparts, play, psl, pbnd, binV, intV, ↓reduceIte, Nat.reduceAdd, Nat.reduceSub, Nat.reduceEqDiff, Nat.reduceLT, Nat.reduceLeDiff, Nat.reduceMul, reduceCtorEq, plain, zeros, hE, if_false, pword]
      refine PAns.closed (ownWord_c (p := p) (l := l) (by omega) (by omega)) (by repeat (first | exact PurL.nil | refine PurL.cons ?_ ?_ | exact Pur.v _ | exact Pur.sl _ _ | exact Pur.ep _ | exact Pur.fn _ rfl PurL.nil.2 | exact pword_pure _ _)) ?_
      try simp (disch := omega) only [PR, plen, pop, prd, prds, pwr, keptP, presAll, presOf, pone, Kd.w, Kd.spare, Obj.ver, peq, pparts, play, psl, pbnd, binV, intV, ↓reduceIte, Nat.reduceAdd, Nat.reduceSub, Nat.reduceEqDiff, Nat.reduceLT, Nat.reduceLeDiff, Nat.reduceMul, reduceCtorEq, plain, zeros, pword]
      refine PAns.closed (unstuttered_c (p := p) (l := l) (by omega) (by omega) (by omega)) (by repeat (first | exact PurL.nil | refine PurL.cons ?_ ?_ | exact Pur.v _ | exact Pur.sl _ _ | exact Pur.ep _ | exact Pur.fn _ rfl PurL.nil.2 | exact pword_pure _ _)) ?_
      try simp (disch := omega) only [PR, plen, pop, prd, prds, pwr, keptP, presAll, presOf, pone, Kd.w, Kd.spare, Obj.ver, peq, pparts, play, psl, pbnd, binV, intV, ↓reduceIte, Nat.reduceAdd, Nat.reduceSub, Nat.reduceEqDiff, Nat.reduceLT, Nat.reduceLeDiff, Nat.reduceMul, reduceCtorEq, plain, zeros, hE, if_false, pword]
      refine PAns.closed (refWordErr_c (p := p) (l := l) (by omega) (by omega)) (by repeat (first | exact PurL.nil | refine PurL.cons ?_ ?_ | exact Pur.v _ | exact Pur.sl _ _ | exact Pur.ep _ | exact Pur.fn _ rfl PurL.nil.2 | exact pword_pure _ _)) ?_
      generalize wordErr p l = E at *
      try simp (disch := omega) only [PR, plen, pop, prd, prds, pwr, keptP, presAll, presOf, pone, Kd.w, Kd.spare, Obj.ver, peq, pparts, play, psl, pbnd, binV, intV, ↓reduceIte, Nat.reduceAdd, Nat.reduceSub, Nat.reduceEqDiff, Nat.reduceLT, Nat.reduceLeDiff, Nat.reduceMul, reduceCtorEq, plain, zeros, hE, pword]
      refine PAns.closed (sameWord_c (p := []) (l := []) (p2 := []) (l2 := []) (by simp) (by simp)) (.cons (pword_pure [] []) (.cons (z2 _) .nil)) ?_
      try simp (disch := omega) only [PR, plen, pop, prd, prds, pwr, keptP, presAll, presOf, pone, Kd.w, Kd.spare, Obj.ver, peq, pparts, play, psl, pbnd, binV, intV, ↓reduceIte, Nat.reduceAdd, Nat.reduceSub, Nat.reduceEqDiff, Nat.reduceLT, Nat.reduceLeDiff, Nat.reduceMul, reduceCtorEq, plain, zeros, pword]
      refine PAns.closed (sameWord_c (p := []) (l := []) (p2 := []) (l2 := []) (by simp) (by simp)) (.cons (pword_pure [] []) (.cons (z2 _) .nil)) ?_
      try simp (disch := omega) only [PR, plen, pop, prd, prds, pwr, keptP, presAll, presOf, pone, Kd.w, Kd.spare, Obj.ver, peq, pparts, play, psl, pbnd, binV, intV, ↓reduceIte, Nat.reduceAdd, Nat.reduceSub, Nat.reduceEqDiff, Nat.reduceLT, Nat.reduceLeDiff, Nat.reduceMul, reduceCtorEq, plain, zeros]
      exact .v _
  · have hd : (decide (p.length ≤ 70) && decide (l.length ≤ 70)) = false := by
      simp only [Bool.and_eq_false_iff, decide_eq_false_iff_not]
      omega
    try simp (disch := omega) only [PR, plen, pop, prd, prds, pwr, keptP, presAll, presOf, pone, Kd.w, Kd.spare, Obj.ver, peq, pparts, play, psl, pbnd, binV, intV, ↓reduceIte, Nat.reduceAdd, Nat.reduceSub, Nat.reduceEqDiff, Nat.reduceLT, Nat.reduceLeDiff, Nat.reduceMul, reduceCtorEq, plain, zeros, hd]
    exact .v _
end Dm.YtmgehmhebnjaaaaGreatDoor
