/- Lemmas that lead to the statement: reckoning with the machine: what code leaves, as a proposition. rules for single operations, by program. words for the machine's heap. rows of one's own, and appending to them. appending, copying, making: rules. values without memory, a store of one's own, and what code leaves over them. values without memory: their rows, and the steps that keep them. values without memory: single operations are right. values without memory: what code leaves over them, it leaves. values without memory: functions that are told by their values alone, and how they are called. values without memory: rules for reckoning by 'simp only'. facts about numbers that 'omega' finds, as rules. from values without memory to the machine's rows. -/
import Derived.Test.YtmgehmhebnjaaaaGreatDoorM0
set_option linter.all false
section
set_option linter.unusedVariables false
set_option linter.unusedSimpArgs false
namespace Dm
open Go

/-! ### More fuel does no harm -/
def CLe (C C' : CallF) : Prop := ∀ t args H r, C t args H = some r → C' t args H = some r
theorem opC_mono {C C' : CallF} (h : CLe C C') {ρ : X → Value} {H : Heap} {m : MOp} {r : Value × Heap} (hv : opC C ρ H m = some r) : opC C' ρ H m = some r := by
  cases m <;> first | exact hv | skip
  simp only [opC] at hv ⊢
  split at hv
  · exact h _ _ _ _ hv
  · split at hv
    · rename_i hs
      rw [if_pos hs]
      exact h _ _ _ _ hv
    · cases hv
  · cases hv
theorem runO_mono {C C' : CallF} (h : CLe C C') {tm : Tm} {H : Heap} {m : MO} {r : Tm × Heap} (hv : runO C tm H m = some r) : runO C' tm H m = some r := by
  unfold runO at hv ⊢
  split
  · rename_i hw
    rw [if_pos hw] at hv
    split at hv
    · rename_i v H' ho
      rw [opC_mono h ho]
      exact hv
    · cases hv
  · rename_i hw
    rw [if_neg hw] at hv
    exact hv
theorem runOs_mono {C C' : CallF} (h : CLe C C') : ∀ {ms : List MO} {tm : Tm} {H : Heap} {r : Tm × Heap}, runOs C ms tm H = some r → runOs C' ms tm H = some r
  | [], _, _, _, hv => hv
  | m :: ms, tm, H, r, hv => by
    simp only [runOs] at hv ⊢
    split at hv
    · rename_i tm' H' ho
      rw [runO_mono h ho]
      exact runOs_mono h hv
    · cases hv
theorem iter_mono {s s' : Tm → Heap → Res} (h : ∀ tm H r, s tm H = some r → s' tm H = some r) : ∀ {n n' : Nat} {tm : Tm} {H : Heap} {r : Ex × Tm × Heap}, n ≤ n' → iter s n tm H = some r → iter s' n' tm H = some r
  | 0, _, _, _, _, _, hv => by cases hv
  | n + 1, 0, _, _, _, hn, _ => by omega
  | n + 1, n' + 1, tm, H, r, hn, hv => by
    simp only [iter] at hv ⊢
    split at hv
    · rename_i tm' H' ho
      rw [h _ _ _ ho]
      exact iter_mono h (by omega) hv
    · rename_i hne
      rw [h _ _ _ hv]
      split
      · rename_i tm' H' ho
        exact absurd (hv.trans ho) (fun _ => hne tm' H' (by rw [hv]; exact ho))
      · rfl
theorem exec_mono {C C' : CallF} (h : CLe C C') {n n' : Nat} (hn : n ≤ n') : ∀ (c : MCode) {tm : Tm} {H : Heap} {r : Ex × Tm × Heap}, exec C n c tm H = some r → exec C' n' c tm H = some r
  | .skip, _, _, _, hv => hv
  | .reg ms, tm, H, r, hv => by
    simp only [exec] at hv ⊢
    cases ho : runOs C ms tm H with
    | none => rw [ho] at hv; cases hv
    | some x => rw [runOs_mono h ho]; rw [ho] at hv; exact hv
  | .dreg _ ms, tm, H, r, hv => by
    simp only [exec] at hv ⊢
    cases ho : runOs C ms tm H with
    | none => rw [ho] at hv; cases hv
    | some x => rw [runOs_mono h ho]; rw [ho] at hv; exact hv
  | .seq a b, tm, H, r, hv => by
    simp only [exec] at hv ⊢
    split at hv
    · rename_i tm' H' ho
      rw [exec_mono h hn a ho]
      exact exec_mono h hn b hv
    · rename_i hne
      rw [exec_mono h hn a hv]
      split
      · rename_i tm' H' ho
        exact absurd (hv.trans ho) (fun _ => hne tm' H' (by rw [hv]; exact ho))
      · rfl
  | .ite x a b, tm, H, r, hv => by
    simp only [exec] at hv ⊢
    split at hv
    · exact exec_mono h hn a hv
    · exact exec_mono h hn b hv
    · cases hv
  | .blk id c, tm, H, r, hv => by
    simp only [exec] at hv ⊢
    split at hv
    · rename_i j tm' H' ho
      rw [exec_mono h hn c ho]
      exact hv
    · rename_i hne
      rw [exec_mono h hn c hv]
      split
      · rename_i j tm' H' ho
        exact absurd (hv.trans ho) (fun _ => hne j tm' H' (by rw [hv]; exact ho))
      · rfl
  | .loop c, tm, H, r, hv => by
    simp only [exec] at hv ⊢
    exact iter_mono (fun tm H r hr => exec_mono h hn c hr) hn hv
  | .exit _, _, _, _, hv => hv
  | .ret, _, _, _, hv => hv
  | .rangeF f ps a b, tm, H, r, hv => by
    simp only [exec] at hv ⊢
    split at hv
    · split at hv
      · rename_i rv H' hc
        rw [h _ _ _ _ hc]
        exact hv
      · cases hv
    · cases hv
theorem roundM_mono {e e' : MCode → Tm → Heap → Res} (h : ∀ c tm H r, e c tm H = some r → e' c tm H = some r) {l : Nat} {args : List Value} {H : Heap} {r : Value × Heap} (hv : roundM e l args H = some r) : roundM e' l args H = some r := by
  unfold roundM at hv ⊢
  split at hv
  · rename_i tm ps asg body vr ho
    split at hv
    · rename_i hl
      rw [if_pos hl]
      split at hv
      · rename_i tm1 H1 h1
        rw [h _ _ _ _ h1]
        split at hv
        · rename_i h2
          simp only [h2]
          split at hv
          · rename_i ex tm2 H2 h3
            rw [h _ _ _ _ h3]
            exact hv
          · cases hv
        · cases hv
      · cases hv
    · cases hv
  · cases hv
theorem callM_step {T : Tab} {pr : Prims} : ∀ k, CLe (callM T pr k) (callM T pr (k + 1))
  | 0 => fun t args H r h => by simp [callM] at h
  | k + 1 => by
    have ih := callM_step (T := T) (pr := pr) k
    intro t args H r h
    cases t with
    | round l =>
      rw [callM] at h ⊢
      exact roundM_mono (e := exec (callM T pr k) k) (e' := exec (callM T pr (k + 1)) (k + 1)) (fun c tm H r hr => exec_mono ih (Nat.le_succ k) c hr) h
    | fn f =>
      rw [callM] at h ⊢
      simp only at h ⊢
      cases hp : pr f with
      | some g => rw [hp] at h; exact h
      | none =>
        rw [hp] at h
        simp only at h ⊢
        cases hT : T f with
        | none => rw [hT] at h; cases h
        | some mf =>
          rw [hT] at h
          simp only at h ⊢
          split at h
          · rename_i tm1 H1 h1
            rw [exec_mono ih (Nat.le_succ k) _ h1]
            exact h
          · rename_i tm1 H1 h1
            rw [exec_mono ih (Nat.le_succ k) _ h1]
            exact h
          · cases h
theorem callM_mono {T : Tab} {pr : Prims} {k : Nat} : ∀ {k' : Nat}, k ≤ k' → CLe (callM T pr k) (callM T pr k')
  | 0, h => by have : k = 0 := by omega
               subst this; exact fun _ _ _ _ h => h
  | k' + 1, h => by
    by_cases e : k = k' + 1
    · subst e; exact fun _ _ _ _ h => h
    · exact fun t args H r hr => callM_step k' t args H r (callM_mono (by omega) t args H r hr)

/-! ### What is answered; what code leaves -/
section
variable (T : Tab) (pr : Prims)
/-- A call is answered, and so. -/
def Ans (t : Tgt) (args : List Value) (H : Heap) (Q : Value → Heap → Prop) : Prop := ∃ k r H', callM T pr k t args H = some (r, H') ∧ Q r H'
/-- Code is left, and so. -/
def W (c : MCode) (Q : Ex → Tm → Heap → Prop) (tm : Tm) (H : Heap) : Prop := ∃ k e tm' H', exec (callM T pr k) k c tm H = some (e, tm', H') ∧ Q e tm' H'
def Wos (ms : List MO) (Q : Tm → Heap → Prop) (tm : Tm) (H : Heap) : Prop := ∃ k tm' H', runOs (callM T pr k) ms tm H = some (tm', H') ∧ Q tm' H'
end
variable {T : Tab} {pr : Prims}

theorem Ans.mono {t : Tgt} {args : List Value} {H : Heap} {Q Q' : Value → Heap → Prop} (h : Ans T pr t args H Q) (hq : ∀ r H', Q r H' → Q' r H') : Ans T pr t args H Q' :=
  let ⟨k, r, H', h1, h2⟩ := h; ⟨k, r, H', h1, hq _ _ h2⟩
theorem W.mono {c : MCode} {tm : Tm} {H : Heap} {Q Q' : Ex → Tm → Heap → Prop} (h : W T pr c Q tm H) (hq : ∀ e tm H, Q e tm H → Q' e tm H) : W T pr c Q' tm H :=
  let ⟨k, e, tm', H', h1, h2⟩ := h; ⟨k, e, tm', H', h1, hq _ _ _ h2⟩


/-! ### Rules, by rewriting -/
/-- On with a value. -/
def wSt (T : Tab) (pr : Prims) (o : Option (Value × Heap)) (d : Option Nat) (ms : List MO) (Q : Tm → Heap → Prop) (tm : Tm) : Prop :=
  match o with
  | some (v, H) => Wos T pr ms Q (put tm d v) H
  | none => False
/-- On with a value, some blocks being left alone. -/
def wKeep (T : Tab) (pr : Prims) (o : Option (Value × Heap)) (d : Option Nat) (keep : List X) (ms : List MO) (Q : Tm → Heap → Prop) (tm : Tm) (H : Heap) : Prop :=
  match o with
  | some (v, H') => keep.all (kept tm H H') = true ∧ Wos T pr ms Q (put tm d v) H'
  | none => False
/-- On with what a call answers. -/
def wCall (T : Tab) (pr : Prims) (t : Tgt) (args : List Value) (d : Option Nat) (keep : List X) (ms : List MO) (Q : Tm → Heap → Prop) (tm : Tm) (H : Heap) : Prop :=
  Ans T pr t args H fun v H' => keep.all (kept tm H H') = true ∧ Wos T pr ms Q (put tm d v) H'
def tgtOf (f : Value) (args : List Value) : Option (Tgt × List Value) :=
  match f with
  | .func (.func g) first cap => some (.fn g, first.toList ++ args ++ cap.toList)
  | .func (.yield l) first cap => if first.size = 0 ∧ cap.size = 0 then some (.round l, args) else none
  | _ => none
def wTgt (T : Tab) (pr : Prims) (t : Option (Tgt × List Value)) (d : Option Nat) (keep : List X) (ms : List MO) (Q : Tm → Heap → Prop) (tm : Tm) (H : Heap) : Prop :=
  match t with
  | some (t, args) => wCall T pr t args d keep ms Q tm H
  | none => False
def isCall : MOp → Bool
  | .mv _ => false
  | .pick _ _ _ => false
  | .new _ _ => false
  | .box _ _ => false
  | .build _ _ => false
  | .lit _ _ _ _ => false
  | .ld _ => false
  | .lds _ _ => false
  | .st _ _ _ => false
  | .chk _ => false
  | .bin _ _ _ => false
  | .eq _ _ _ _ => false
  | .not _ => false
  | .neg _ => false
  | .cvt _ _ => false
  | .bytes _ _ => false
  | .fld _ _ => false
  | .flds _ _ _ => false
  | .fa _ _ => false
  | .ia _ _ _ => false
  | .ix _ _ => false
  | .sl _ _ _ _ _ => false
  | .sls _ _ _ => false
  | .mk _ _ _ _ _ _ => false
  | .iface _ _ => false
  | .ext _ _ => false
  | .fn _ _ => false
  | .call _ _ => true
  | .app _ _ _ _ _ _ => false
  | .appz _ _ _ _ _ _ => false
  | .cpy _ _ _ => false
  | .len _ => false
  | .slen _ => false
  | .cap _ => false
  | .max2 _ _ => false
  | .clr _ _ => false
  | .bad => false

theorem Wos_nil {Q : Tm → Heap → Prop} {tm : Tm} {H : Heap} : Wos T pr [] Q tm H ↔ Q tm H :=
  ⟨fun ⟨k, tm', H', h, q⟩ => by simp only [runOs, Option.some.injEq, Prod.mk.injEq] at h; obtain ⟨rfl, rfl⟩ := h; exact q, fun h => ⟨0, tm, H, rfl, h⟩⟩
theorem Wos_cons {m : MO} {ms : List MO} {Q : Tm → Heap → Prop} {tm tm1 : Tm} {H H1 : Heap} {k : Nat} (h : runO (callM T pr k) tm H m = some (tm1, H1)) (hq : Wos T pr ms Q tm1 H1) : Wos T pr (m :: ms) Q tm H := by
  obtain ⟨k2, tm', H', h3, h4⟩ := hq
  refine ⟨max k k2, tm', H', ?_, h4⟩
  simp only [runOs, runO_mono (callM_mono (Nat.le_max_left k k2)) h]
  exact runOs_mono (callM_mono (Nat.le_max_right k k2)) h3
theorem Wos_op {d : Option Nat} {op : MOp} {ms : List MO} {Q : Tm → Heap → Prop} {tm : Tm} {H : Heap} (hc : isCall op = false) : Wos T pr (⟨d, op, none, []⟩ :: ms) Q tm H ↔ wSt T pr (opV (ev tm) H op) d ms Q tm := by
  have ho : ∀ C, opC C (ev tm) H op = opV (ev tm) H op := fun C => by cases op <;> first | rfl | (simp [isCall] at hc)
  constructor
  · rintro ⟨k, tm', H', h, q⟩
    simp only [runOs, runO, wants, if_true, ho] at h
    cases hv : opV (ev tm) H op with
    | none => rw [hv] at h; cases h
    | some x =>
      rw [hv] at h
      simp only [List.all_nil, if_true] at h
      exact ⟨k, tm', H', h, q⟩
  · intro h
    cases hv : opV (ev tm) H op with
    | none => rw [hv] at h; exact h.elim
    | some x =>
      rw [hv] at h
      refine Wos_cons (k := 0) ?_ h
      simp only [runO, wants, if_true, ho, hv, List.all_nil]
theorem Wos_op_keep {d : Option Nat} {op : MOp} {x : X} {keep : List X} {ms : List MO} {Q : Tm → Heap → Prop} {tm : Tm} {H : Heap} (hc : isCall op = false) : Wos T pr (⟨d, op, none, x :: keep⟩ :: ms) Q tm H ↔ wKeep T pr (opV (ev tm) H op) d (x :: keep) ms Q tm H := by
  have ho : ∀ C, opC C (ev tm) H op = opV (ev tm) H op := fun C => by cases op <;> first | rfl | (simp [isCall] at hc)
  constructor
  · rintro ⟨k, tm', H', h, q⟩
    simp only [runOs, runO, wants, if_true, ho] at h
    cases hv : opV (ev tm) H op with
    | none => rw [hv] at h; cases h
    | some y =>
      rw [hv] at h
      by_cases hk : (x :: keep).all (kept tm H y.2) = true
      · simp only [hk, if_true] at h
        exact ⟨hk, k, tm', H', h, q⟩
      · simp only [hk, if_false] at h
        cases h
  · intro h
    cases hv : opV (ev tm) H op with
    | none => rw [hv] at h; exact h.elim
    | some y =>
      rw [hv] at h
      refine Wos_cons (k := 0) ?_ h.2
      simp only [runO, wants, if_true, ho, hv, h.1]
theorem Wos_call {d : Option Nat} {f : X} {args : List X} {keep : List X} {ms : List MO} {Q : Tm → Heap → Prop} {tm : Tm} {H : Heap} : Wos T pr (⟨d, .call f args, none, keep⟩ :: ms) Q tm H ↔ wTgt T pr (tgtOf (ev tm f) (args.map (ev tm))) d keep ms Q tm H := by
  have key : ∀ k, opC (callM T pr k) (ev tm) H (.call f args) = match tgtOf (ev tm f) (args.map (ev tm)) with | some (t, as) => callM T pr k t as H | none => none := by
    intro k
    simp only [opC, tgtOf]
    generalize ev tm f = fv
    split
    · rfl
    · rename_i l first cap
      by_cases hs : first.size = 0 ∧ cap.size = 0
      · simp only [hs, and_self, if_true]
      · simp only [hs, if_false]
    · rename_i h1 h2
      cases fv <;> first | rfl | skip
      rename_i g a b
      cases g <;> first | rfl | exact absurd rfl (h1 _ _ _) | exact absurd rfl (h2 _ _ _)
  constructor
  · rintro ⟨k, tm', H', h, q⟩
    simp only [runOs, runO, wants, if_true, key] at h
    unfold wTgt
    cases ht : tgtOf (ev tm f) (args.map (ev tm)) with
    | none => rw [ht] at h; cases h
    | some x =>
      rw [ht] at h
      simp only at h ⊢
      cases hv : callM T pr k x.1 x.2 H with
      | none => rw [hv] at h; cases h
      | some y =>
        rw [hv] at h
        by_cases hk : keep.all (kept tm H y.2) = true
        · simp only [hk, if_true] at h
          exact ⟨k, y.1, y.2, hv, hk, k, tm', H', h, q⟩
        · simp only [hk, if_false] at h
          cases h
  · intro h
    unfold wTgt at h
    split at h
    · rename_i t as ht
      obtain ⟨k, v, H', h1, h2, h3⟩ := h
      refine Wos_cons (k := k) ?_ h3
      simp only [runO, wants, if_true, key, ht, h1, h2]
    · exact h.elim
/-- A guard. -/
def wIf (b : Option Bool) (A B : Prop) : Prop :=
  match b with
  | some true => A
  | some false => B
  | none => B
def guardOf (tm : Tm) (t : Nat) (b : Bool) : Option Bool :=
  match tm.getD t undefV with
  | .bool b' => some (b' == b)
  | _ => some false
theorem Wos_guard {d : Option Nat} {op : MOp} {t : Nat} {b : Bool} {keep : List X} {ms : List MO} {Q : Tm → Heap → Prop} {tm : Tm} {H : Heap} :
    Wos T pr (⟨d, op, some (t, b), keep⟩ :: ms) Q tm H ↔ wIf (guardOf tm t b) (Wos T pr (⟨d, op, none, keep⟩ :: ms) Q tm H) (Wos T pr ms Q (put tm d undefV) H) := by
  have hw : wants tm (some (t, b)) = (guardOf tm t b).getD false := by
    simp only [wants, guardOf]
    cases tm.getD t undefV <;> rfl
  unfold wIf
  split
  · rename_i hg
    rw [hg] at hw
    have hw1 : wants tm (some (t, b)) = true := hw
    have e : ∀ C, runO C tm H ⟨d, op, some (t, b), keep⟩ = runO C tm H ⟨d, op, none, keep⟩ := fun C => by
      have hw2 : wants tm none = true := rfl
      unfold runO
      rw [if_pos hw1, if_pos hw2]
    simp only [Wos, runOs, e]
  · rename_i hg
    rw [hg] at hw
    have hw1 : ¬ wants tm (some (t, b)) = true := by rw [hw]; simp
    have e : ∀ C, runO C tm H ⟨d, op, some (t, b), keep⟩ = some (put tm d undefV, H) := fun C => by
      unfold runO
      rw [if_neg hw1]
    simp only [Wos, runOs, e]
  · rename_i hg
    exfalso
    unfold guardOf at hg
    split at hg <;> cases hg

theorem wSt_some {v : Value} {H : Heap} {d : Option Nat} {ms : List MO} {Q : Tm → Heap → Prop} {tm : Tm} : wSt T pr (some (v, H)) d ms Q tm ↔ Wos T pr ms Q (put tm d v) H := Iff.rfl
theorem wSt_ite {c : Prop} [Decidable c] {o : Option (Value × Heap)} {d : Option Nat} {ms : List MO} {Q : Tm → Heap → Prop} {tm : Tm} : wSt T pr (if c then o else none) d ms Q tm ↔ c ∧ wSt T pr o d ms Q tm := by
  by_cases h : c <;> simp [h, wSt]
theorem wSt_map {α : Type} {o : Option α} {f : α → Value × Heap} {d : Option Nat} {ms : List MO} {Q : Tm → Heap → Prop} {tm : Tm} : wSt T pr (o.map f) d ms Q tm ↔ ∃ x, o = some x ∧ Wos T pr ms Q (put tm d (f x).1) (f x).2 := by
  cases o with
  | none => simp [wSt]
  | some x => simp [wSt]
theorem wKeep_some {v : Value} {H H' : Heap} {d : Option Nat} {keep : List X} {ms : List MO} {Q : Tm → Heap → Prop} {tm : Tm} : wKeep T pr (some (v, H')) d keep ms Q tm H ↔ keep.all (kept tm H H') = true ∧ Wos T pr ms Q (put tm d v) H' := Iff.rfl
theorem wKeep_ite {c : Prop} [Decidable c] {o : Option (Value × Heap)} {d : Option Nat} {keep : List X} {ms : List MO} {Q : Tm → Heap → Prop} {tm : Tm} {H : Heap} : wKeep T pr (if c then o else none) d keep ms Q tm H ↔ c ∧ wKeep T pr o d keep ms Q tm H := by
  by_cases h : c <;> simp [h, wKeep]
theorem wKeep_map {α : Type} {o : Option α} {f : α → Value × Heap} {d : Option Nat} {keep : List X} {ms : List MO} {Q : Tm → Heap → Prop} {tm : Tm} {H : Heap} : wKeep T pr (o.map f) d keep ms Q tm H ↔ ∃ x, o = some x ∧ keep.all (kept tm H (f x).2) = true ∧ Wos T pr ms Q (put tm d (f x).1) (f x).2 := by
  cases o with
  | none => simp [wKeep]
  | some x => simp [wKeep]

/-- First one piece, then another one. -/
def Then (T : Tab) (pr : Prims) (b : MCode) (Q : Ex → Tm → Heap → Prop) (e : Ex) (tm : Tm) (H : Heap) : Prop :=
  match e with
  | .normal => W T pr b Q tm H
  | .exit i => Q (.exit i) tm H
  | .ret => Q .ret tm H
def InBlk (id : Nat) (Q : Ex → Tm → Heap → Prop) (e : Ex) (tm : Tm) (H : Heap) : Prop :=
  match e with
  | .normal => Q .normal tm H
  | .exit i => if i = id then Q .normal tm H else Q (.exit i) tm H
  | .ret => Q .ret tm H
def Nrm (Q : Ex → Tm → Heap → Prop) (tm : Tm) (H : Heap) : Prop := Q .normal tm H
theorem Then_normal {b : MCode} {Q : Ex → Tm → Heap → Prop} {tm : Tm} {H : Heap} : Then T pr b Q .normal tm H ↔ W T pr b Q tm H := Iff.rfl
theorem Then_exit {b : MCode} {Q : Ex → Tm → Heap → Prop} {i : Nat} {tm : Tm} {H : Heap} : Then T pr b Q (.exit i) tm H ↔ Q (.exit i) tm H := Iff.rfl
theorem Then_ret {b : MCode} {Q : Ex → Tm → Heap → Prop} {tm : Tm} {H : Heap} : Then T pr b Q .ret tm H ↔ Q .ret tm H := Iff.rfl
theorem InBlk_normal {id : Nat} {Q : Ex → Tm → Heap → Prop} {tm : Tm} {H : Heap} : InBlk id Q .normal tm H ↔ Q .normal tm H := Iff.rfl
theorem InBlk_ret {id : Nat} {Q : Ex → Tm → Heap → Prop} {tm : Tm} {H : Heap} : InBlk id Q .ret tm H ↔ Q .ret tm H := Iff.rfl
theorem InBlk_exit {id i : Nat} {Q : Ex → Tm → Heap → Prop} {tm : Tm} {H : Heap} : InBlk id Q (.exit i) tm H ↔ if i = id then Q .normal tm H else Q (.exit i) tm H := Iff.rfl
theorem Nrm_eq {Q : Ex → Tm → Heap → Prop} {tm : Tm} {H : Heap} : Nrm Q tm H ↔ Q .normal tm H := Iff.rfl
theorem W_skip {Q : Ex → Tm → Heap → Prop} {tm : Tm} {H : Heap} : W T pr .skip Q tm H ↔ Q .normal tm H :=
  ⟨fun ⟨k, e, tm', H', h, q⟩ => by simp only [exec, Option.some.injEq, Prod.mk.injEq] at h; obtain ⟨rfl, rfl, rfl⟩ := h; exact q, fun h => ⟨0, _, _, _, rfl, h⟩⟩
theorem W_ret {Q : Ex → Tm → Heap → Prop} {tm : Tm} {H : Heap} : W T pr .ret Q tm H ↔ Q .ret tm H :=
  ⟨fun ⟨k, e, tm', H', h, q⟩ => by simp only [exec, Option.some.injEq, Prod.mk.injEq] at h; obtain ⟨rfl, rfl, rfl⟩ := h; exact q, fun h => ⟨0, _, _, _, rfl, h⟩⟩
theorem W_exit {i : Nat} {Q : Ex → Tm → Heap → Prop} {tm : Tm} {H : Heap} : W T pr (.exit i) Q tm H ↔ Q (.exit i) tm H :=
  ⟨fun ⟨k, e, tm', H', h, q⟩ => by simp only [exec, Option.some.injEq, Prod.mk.injEq] at h; obtain ⟨rfl, rfl, rfl⟩ := h; exact q, fun h => ⟨0, _, _, _, rfl, h⟩⟩
theorem W_reg {ms : List MO} {Q : Ex → Tm → Heap → Prop} {tm : Tm} {H : Heap} : W T pr (.reg ms) Q tm H ↔ Wos T pr ms (Nrm Q) tm H := by
  constructor
  · rintro ⟨k, e, tm', H', h, q⟩
    simp only [exec] at h
    cases ho : runOs (callM T pr k) ms tm H with
    | none => rw [ho] at h; cases h
    | some x =>
      rw [ho] at h
      simp only [Option.map_some, Option.some.injEq, Prod.mk.injEq] at h
      obtain ⟨rfl, rfl, rfl⟩ := h
      exact ⟨k, _, _, ho, q⟩
  · rintro ⟨k, tm', H', h, q⟩
    exact ⟨k, .normal, tm', H', by simp only [exec, h, Option.map_some], q⟩
theorem W_dreg {ord : List Nat} {ms : List MO} {Q : Ex → Tm → Heap → Prop} {tm : Tm} {H : Heap} : W T pr (.dreg ord ms) Q tm H ↔ Wos T pr ms (Nrm Q) tm H := W_reg (T := T) (pr := pr) (ms := ms)
theorem W_seq {a b : MCode} {Q : Ex → Tm → Heap → Prop} {tm : Tm} {H : Heap} : W T pr (.seq a b) Q tm H ↔ W T pr a (Then T pr b Q) tm H := by
  constructor
  · rintro ⟨k, e, tm', H', h, q⟩
    simp only [exec] at h
    split at h
    · rename_i tm1 H1 h1
      exact ⟨k, .normal, tm1, H1, h1, k, e, tm', H', h, q⟩
    · rename_i hne
      refine ⟨k, e, tm', H', h, ?_⟩
      cases e with
      | normal => exact absurd h (hne _ _)
      | exit i => exact q
      | ret => exact q
  · rintro ⟨k1, e1, tm1, H1, h1, h2⟩
    cases e1 with
    | normal =>
      obtain ⟨k2, e2, tm2, H2, h3, h4⟩ := h2
      refine ⟨max k1 k2, e2, tm2, H2, ?_, h4⟩
      simp only [exec, exec_mono (callM_mono (Nat.le_max_left k1 k2)) (Nat.le_max_left k1 k2) a h1]
      exact exec_mono (callM_mono (Nat.le_max_right k1 k2)) (Nat.le_max_right k1 k2) b h3
    | exit i => exact ⟨k1, _, tm1, H1, by simp only [exec, h1], h2⟩
    | ret => exact ⟨k1, _, tm1, H1, by simp only [exec, h1], h2⟩
/-- A branch, by what its condition is. -/
def wIte (T : Tab) (pr : Prims) (v : Value) (a b : MCode) (Q : Ex → Tm → Heap → Prop) (tm : Tm) (H : Heap) : Prop :=
  match v with
  | .bool true => W T pr a Q tm H
  | .bool false => W T pr b Q tm H
  | _ => False
theorem W_ite {x : X} {a b : MCode} {Q : Ex → Tm → Heap → Prop} {tm : Tm} {H : Heap} : W T pr (.ite x a b) Q tm H ↔ wIte T pr (ev tm x) a b Q tm H := by
  constructor
  · rintro ⟨k, e, tm', H', h, q⟩
    simp only [exec] at h
    unfold wIte
    split at h
    · rename_i hx; rw [hx]; exact ⟨k, e, tm', H', h, q⟩
    · rename_i hx; rw [hx]; exact ⟨k, e, tm', H', h, q⟩
    · cases h
  · intro h
    unfold wIte at h
    split at h
    · rename_i hx; obtain ⟨k, e, tm', H', h1, q⟩ := h; exact ⟨k, e, tm', H', by simp only [exec, hx]; exact h1, q⟩
    · rename_i hx; obtain ⟨k, e, tm', H', h1, q⟩ := h; exact ⟨k, e, tm', H', by simp only [exec, hx]; exact h1, q⟩
    · exact h.elim
theorem wIte_true {a b : MCode} {Q : Ex → Tm → Heap → Prop} {tm : Tm} {H : Heap} : wIte T pr (.bool true) a b Q tm H ↔ W T pr a Q tm H := Iff.rfl
theorem wIte_false {a b : MCode} {Q : Ex → Tm → Heap → Prop} {tm : Tm} {H : Heap} : wIte T pr (.bool false) a b Q tm H ↔ W T pr b Q tm H := Iff.rfl
theorem wIte_bool {t : Bool} {a b : MCode} {Q : Ex → Tm → Heap → Prop} {tm : Tm} {H : Heap} (h1 : t = true → W T pr a Q tm H) (h2 : t = false → W T pr b Q tm H) : wIte T pr (.bool t) a b Q tm H := by
  cases t
  · exact h2 rfl
  · exact h1 rfl
theorem W_blk {id : Nat} {c : MCode} {Q : Ex → Tm → Heap → Prop} {tm : Tm} {H : Heap} : W T pr (.blk id c) Q tm H ↔ W T pr c (InBlk id Q) tm H := by
  constructor
  · rintro ⟨k, e, tm', H', h, q⟩
    simp only [exec] at h
    split at h
    · rename_i j tm1 H1 h1
      split at h
      · rename_i hj
        simp only [Option.some.injEq, Prod.mk.injEq] at h
        obtain ⟨rfl, rfl, rfl⟩ := h
        exact ⟨k, .exit j, tm1, H1, h1, by simp only [InBlk, hj, if_true]; exact q⟩
      · rename_i hj
        simp only [Option.some.injEq, Prod.mk.injEq] at h
        obtain ⟨rfl, rfl, rfl⟩ := h
        exact ⟨k, .exit j, tm1, H1, h1, by simp only [InBlk, hj, if_false]; exact q⟩
    · rename_i hne
      refine ⟨k, e, tm', H', h, ?_⟩
      cases e with
      | normal => exact q
      | exit i => exact absurd h (hne _ _ _)
      | ret => exact q
  · rintro ⟨k, e, tm', H', h1, h2⟩
    cases e with
    | normal => exact ⟨k, _, tm', H', by simp only [exec, h1], h2⟩
    | ret => exact ⟨k, _, tm', H', by simp only [exec, h1], h2⟩
    | exit j =>
      by_cases hj : j = id
      · subst hj
        simp only [InBlk, if_true] at h2
        exact ⟨k, .normal, tm', H', by simp only [exec, h1, if_true], h2⟩
      · simp only [InBlk, hj, if_false] at h2
        exact ⟨k, .exit j, tm', H', by simp only [exec, h1, hj, if_false], h2⟩

/-- A function's results. -/
def Fun (mf : List MRes) (Q : Value → Heap → Prop) (e : Ex) (tm : Tm) (H : Heap) : Prop := (∀ i, e ≠ .exit i) ∧ ∃ vs, resAll tm H mf = some vs ∧ Q (one vs) H
theorem Fun_normal {mf : List MRes} {Q : Value → Heap → Prop} {tm : Tm} {H : Heap} : Fun mf Q .normal tm H ↔ ∃ vs, resAll tm H mf = some vs ∧ Q (one vs) H := ⟨fun h => h.2, fun h => ⟨fun i e => (nomatch e), h⟩⟩
theorem Fun_ret {mf : List MRes} {Q : Value → Heap → Prop} {tm : Tm} {H : Heap} : Fun mf Q .ret tm H ↔ ∃ vs, resAll tm H mf = some vs ∧ Q (one vs) H := ⟨fun h => h.2, fun h => ⟨fun i e => (nomatch e), h⟩⟩
/-- A function's answer, from its body. -/
theorem Ans.fn {f : Nat} {mf : MFun} {args : List Value} {H : Heap} {Q : Value → Heap → Prop} (hp : pr f = none) (hT : T f = some mf)
    (h : W T pr mf.body (Fun mf.results Q) (args ++ List.replicate (mf.ntmps - args.length) undefV) H) : Ans T pr (.fn f) args H Q := by
  obtain ⟨k, e, tm', H', h1, h2, vs, h3, h4⟩ := h
  refine ⟨k + 1, one vs, H', ?_, h4⟩
  rw [callM]
  simp only [hp, hT, h1]
  cases e with
  | normal => simp only [h3, Option.map_some]
  | exit i => exact absurd rfl (h2 i)
  | ret => simp only [h3, Option.map_some]
/-- A loop's round. -/
def Round (I : Nat → Tm → Heap → Prop) (n : Nat) (Q : Ex → Tm → Heap → Prop) (e : Ex) (tm : Tm) (H : Heap) : Prop :=
  match e with
  | .normal => ∃ n', n' < n ∧ I n' tm H
  | .exit i => Q (.exit i) tm H
  | .ret => Q .ret tm H
theorem Round_normal {I : Nat → Tm → Heap → Prop} {n : Nat} {Q : Ex → Tm → Heap → Prop} {tm : Tm} {H : Heap} : Round I n Q .normal tm H ↔ ∃ n', n' < n ∧ I n' tm H := Iff.rfl
theorem Round_exit {I : Nat → Tm → Heap → Prop} {n i : Nat} {Q : Ex → Tm → Heap → Prop} {tm : Tm} {H : Heap} : Round I n Q (.exit i) tm H ↔ Q (.exit i) tm H := Iff.rfl
theorem Round_ret {I : Nat → Tm → Heap → Prop} {n : Nat} {Q : Ex → Tm → Heap → Prop} {tm : Tm} {H : Heap} : Round I n Q .ret tm H ↔ Q .ret tm H := Iff.rfl
/-- A loop, by what stands before each round, with a number that falls. -/
theorem W.loop {c : MCode} {Q : Ex → Tm → Heap → Prop} (I : Nat → Tm → Heap → Prop) (hI : ∀ n tm H, I n tm H → W T pr c (Round I n Q) tm H) :
    ∀ (n : Nat) (tm : Tm) (H : Heap), I n tm H → W T pr (.loop c) Q tm H := by
  intro n
  induction n using Nat.strongRecOn with
  | ind n ih =>
    intro tm H h
    obtain ⟨k, e, tm1, H1, h1, h2⟩ := hI n tm H h
    cases e with
    | normal =>
      obtain ⟨n', hn, h3⟩ := h2
      obtain ⟨k2, e2, tm2, H2, h4, h5⟩ := ih n' hn tm1 H1 h3
      refine ⟨max k k2 + 1, e2, tm2, H2, ?_, h5⟩
      simp only [exec, iter]
      rw [exec_mono (callM_mono (Nat.le_trans (Nat.le_max_left k k2) (Nat.le_succ _))) (Nat.le_trans (Nat.le_max_left k k2) (Nat.le_succ _)) c h1]
      simp only
      simp only [exec] at h4
      exact iter_mono (fun tm H r hr => exec_mono (callM_mono (Nat.le_trans (Nat.le_max_right k k2) (Nat.le_succ _))) (Nat.le_trans (Nat.le_max_right k k2) (Nat.le_succ _)) c hr) (Nat.le_max_right k k2) h4
    | exit i =>
      refine ⟨k + 1, _, tm1, H1, ?_, h2⟩
      simp only [exec, iter]
      rw [exec_mono (callM_mono (Nat.le_succ k)) (Nat.le_succ k) c h1]
    | ret =>
      refine ⟨k + 1, _, tm1, H1, ?_, h2⟩
      simp only [exec, iter]
      rw [exec_mono (callM_mono (Nat.le_succ k)) (Nat.le_succ k) c h1]
end Dm
end
section
set_option linter.unusedVariables false
namespace Dm
open Go
variable {T : Tab} {pr : Prims} {d : Option Nat} {ms : List MO} {Q : Tm → Heap → Prop} {tm : Tm} {H : Heap} {kx : X} {keep : List X}
theorem Wos_mv {x' : X} : Wos T pr (⟨d, .mv x', none, []⟩ :: ms) Q tm H ↔ wSt T pr (opV (ev tm) H (.mv x')) d ms Q tm := Wos_op rfl
theorem Wos_pick {c' : X} {a' : X} {b' : X} : Wos T pr (⟨d, .pick c' a' b', none, []⟩ :: ms) Q tm H ↔ wSt T pr (opV (ev tm) H (.pick c' a' b')) d ms Q tm := Wos_op rfl
theorem Wos_new {z' : List Value} {e' : Nat} : Wos T pr (⟨d, .new z' e', none, []⟩ :: ms) Q tm H ↔ wSt T pr (opV (ev tm) H (.new z' e')) d ms Q tm := Wos_op rfl
theorem Wos_box {e' : Nat} {x' : X} : Wos T pr (⟨d, .box e' x', none, []⟩ :: ms) Q tm H ↔ wSt T pr (opV (ev tm) H (.box e' x')) d ms Q tm := Wos_op rfl
theorem Wos_build {z' : List Value} {ps' : List (Nat × Nat × X)} : Wos T pr (⟨d, .build z' ps', none, []⟩ :: ms) Q tm H ↔ wSt T pr (opV (ev tm) H (.build z' ps')) d ms Q tm := Wos_op rfl
theorem Wos_lit {e' : Nat} {z' : List Value} {ps' : List (Nat × Nat × X)} {len' : Nat} : Wos T pr (⟨d, .lit e' z' ps' len', none, []⟩ :: ms) Q tm H ↔ wSt T pr (opV (ev tm) H (.lit e' z' ps' len')) d ms Q tm := Wos_op rfl
theorem Wos_ld {a' : X} : Wos T pr (⟨d, .ld a', none, []⟩ :: ms) Q tm H ↔ wSt T pr (opV (ev tm) H (.ld a')) d ms Q tm := Wos_op rfl
theorem Wos_ld_k {a' : X} : Wos T pr (⟨d, .ld a', none, kx :: keep⟩ :: ms) Q tm H ↔ wKeep T pr (opV (ev tm) H (.ld a')) d (kx :: keep) ms Q tm H := Wos_op_keep rfl
theorem Wos_lds {n' : Nat} {a' : X} : Wos T pr (⟨d, .lds n' a', none, []⟩ :: ms) Q tm H ↔ wSt T pr (opV (ev tm) H (.lds n' a')) d ms Q tm := Wos_op rfl
theorem Wos_lds_k {n' : Nat} {a' : X} : Wos T pr (⟨d, .lds n' a', none, kx :: keep⟩ :: ms) Q tm H ↔ wKeep T pr (opV (ev tm) H (.lds n' a')) d (kx :: keep) ms Q tm H := Wos_op_keep rfl
theorem Wos_st {n' : Nat} {a' : X} {x' : X} : Wos T pr (⟨d, .st n' a' x', none, []⟩ :: ms) Q tm H ↔ wSt T pr (opV (ev tm) H (.st n' a' x')) d ms Q tm := Wos_op rfl
theorem Wos_st_k {n' : Nat} {a' : X} {x' : X} : Wos T pr (⟨d, .st n' a' x', none, kx :: keep⟩ :: ms) Q tm H ↔ wKeep T pr (opV (ev tm) H (.st n' a' x')) d (kx :: keep) ms Q tm H := Wos_op_keep rfl
theorem Wos_chk {x' : X} : Wos T pr (⟨d, .chk x', none, []⟩ :: ms) Q tm H ↔ wSt T pr (opV (ev tm) H (.chk x')) d ms Q tm := Wos_op rfl
theorem Wos_bin {op' : BinOp} {x' : X} {y' : X} : Wos T pr (⟨d, .bin op' x' y', none, []⟩ :: ms) Q tm H ↔ wSt T pr (opV (ev tm) H (.bin op' x' y')) d ms Q tm := Wos_op rfl
theorem Wos_eq {neq' : Bool} {k' : EqK} {x' : X} {y' : X} : Wos T pr (⟨d, .eq neq' k' x' y', none, []⟩ :: ms) Q tm H ↔ wSt T pr (opV (ev tm) H (.eq neq' k' x' y')) d ms Q tm := Wos_op rfl
theorem Wos_not {x' : X} : Wos T pr (⟨d, .not x', none, []⟩ :: ms) Q tm H ↔ wSt T pr (opV (ev tm) H (.not x')) d ms Q tm := Wos_op rfl
theorem Wos_neg {x' : X} : Wos T pr (⟨d, .neg x', none, []⟩ :: ms) Q tm H ↔ wSt T pr (opV (ev tm) H (.neg x')) d ms Q tm := Wos_op rfl
theorem Wos_cvt {k' : IntKind} {x' : X} : Wos T pr (⟨d, .cvt k' x', none, []⟩ :: ms) Q tm H ↔ wSt T pr (opV (ev tm) H (.cvt k' x')) d ms Q tm := Wos_op rfl
theorem Wos_bytes {e' : Nat} {x' : X} : Wos T pr (⟨d, .bytes e' x', none, []⟩ :: ms) Q tm H ↔ wSt T pr (opV (ev tm) H (.bytes e' x')) d ms Q tm := Wos_op rfl
theorem Wos_fld {off' : Nat} {x' : X} : Wos T pr (⟨d, .fld off' x', none, []⟩ :: ms) Q tm H ↔ wSt T pr (opV (ev tm) H (.fld off' x')) d ms Q tm := Wos_op rfl
theorem Wos_flds {off' : Nat} {n' : Nat} {x' : X} : Wos T pr (⟨d, .flds off' n' x', none, []⟩ :: ms) Q tm H ↔ wSt T pr (opV (ev tm) H (.flds off' n' x')) d ms Q tm := Wos_op rfl
theorem Wos_fa {off' : Nat} {x' : X} : Wos T pr (⟨d, .fa off' x', none, []⟩ :: ms) Q tm H ↔ wSt T pr (opV (ev tm) H (.fa off' x')) d ms Q tm := Wos_op rfl
theorem Wos_ia {size' : Nat} {x' : X} {i' : X} : Wos T pr (⟨d, .ia size' x' i', none, []⟩ :: ms) Q tm H ↔ wSt T pr (opV (ev tm) H (.ia size' x' i')) d ms Q tm := Wos_op rfl
theorem Wos_ix {x' : X} {i' : X} : Wos T pr (⟨d, .ix x' i', none, []⟩ :: ms) Q tm H ↔ wSt T pr (opV (ev tm) H (.ix x' i')) d ms Q tm := Wos_op rfl
theorem Wos_sl {size' : Nat} {x' : X} {lo' : Option X} {hi' : Option X} {mx' : Option X} : Wos T pr (⟨d, .sl size' x' lo' hi' mx', none, []⟩ :: ms) Q tm H ↔ wSt T pr (opV (ev tm) H (.sl size' x' lo' hi' mx')) d ms Q tm := Wos_op rfl
theorem Wos_sl_k {size' : Nat} {x' : X} {lo' : Option X} {hi' : Option X} {mx' : Option X} : Wos T pr (⟨d, .sl size' x' lo' hi' mx', none, kx :: keep⟩ :: ms) Q tm H ↔ wKeep T pr (opV (ev tm) H (.sl size' x' lo' hi' mx')) d (kx :: keep) ms Q tm H := Wos_op_keep rfl
theorem Wos_sls {x' : X} {lo' : Option X} {hi' : Option X} : Wos T pr (⟨d, .sls x' lo' hi', none, []⟩ :: ms) Q tm H ↔ wSt T pr (opV (ev tm) H (.sls x' lo' hi')) d ms Q tm := Wos_op rfl
theorem Wos_mk {e' : Nat} {size' : Nat} {bytes' : Nat} {z' : List Value} {len' : X} {cap' : X} : Wos T pr (⟨d, .mk e' size' bytes' z' len' cap', none, []⟩ :: ms) Q tm H ↔ wSt T pr (opV (ev tm) H (.mk e' size' bytes' z' len' cap')) d ms Q tm := Wos_op rfl
theorem Wos_iface {t' : Nat} {x' : X} : Wos T pr (⟨d, .iface t' x', none, []⟩ :: ms) Q tm H ↔ wSt T pr (opV (ev tm) H (.iface t' x')) d ms Q tm := Wos_op rfl
theorem Wos_ext {x' : X} {i' : Nat} : Wos T pr (⟨d, .ext x' i', none, []⟩ :: ms) Q tm H ↔ wSt T pr (opV (ev tm) H (.ext x' i')) d ms Q tm := Wos_op rfl
theorem Wos_fn {f' : Nat} {caps' : List X} : Wos T pr (⟨d, .fn f' caps', none, []⟩ :: ms) Q tm H ↔ wSt T pr (opV (ev tm) H (.fn f' caps')) d ms Q tm := Wos_op rfl
theorem Wos_app {e' : Nat} {size' : Nat} {bytes' : Nat} {z' : List Value} {s' : X} {x' : X} : Wos T pr (⟨d, .app e' size' bytes' z' s' x', none, []⟩ :: ms) Q tm H ↔ wSt T pr (opV (ev tm) H (.app e' size' bytes' z' s' x')) d ms Q tm := Wos_op rfl
theorem Wos_app_k {e' : Nat} {size' : Nat} {bytes' : Nat} {z' : List Value} {s' : X} {x' : X} : Wos T pr (⟨d, .app e' size' bytes' z' s' x', none, kx :: keep⟩ :: ms) Q tm H ↔ wKeep T pr (opV (ev tm) H (.app e' size' bytes' z' s' x')) d (kx :: keep) ms Q tm H := Wos_op_keep rfl
theorem Wos_appz {e' : Nat} {size' : Nat} {bytes' : Nat} {z' : List Value} {s' : X} {x' : X} : Wos T pr (⟨d, .appz e' size' bytes' z' s' x', none, []⟩ :: ms) Q tm H ↔ wSt T pr (opV (ev tm) H (.appz e' size' bytes' z' s' x')) d ms Q tm := Wos_op rfl
theorem Wos_appz_k {e' : Nat} {size' : Nat} {bytes' : Nat} {z' : List Value} {s' : X} {x' : X} : Wos T pr (⟨d, .appz e' size' bytes' z' s' x', none, kx :: keep⟩ :: ms) Q tm H ↔ wKeep T pr (opV (ev tm) H (.appz e' size' bytes' z' s' x')) d (kx :: keep) ms Q tm H := Wos_op_keep rfl
theorem Wos_cpy {size' : Nat} {d' : X} {s' : X} : Wos T pr (⟨d, .cpy size' d' s', none, []⟩ :: ms) Q tm H ↔ wSt T pr (opV (ev tm) H (.cpy size' d' s')) d ms Q tm := Wos_op rfl
theorem Wos_cpy_k {size' : Nat} {d' : X} {s' : X} : Wos T pr (⟨d, .cpy size' d' s', none, kx :: keep⟩ :: ms) Q tm H ↔ wKeep T pr (opV (ev tm) H (.cpy size' d' s')) d (kx :: keep) ms Q tm H := Wos_op_keep rfl
theorem Wos_len {x' : X} : Wos T pr (⟨d, .len x', none, []⟩ :: ms) Q tm H ↔ wSt T pr (opV (ev tm) H (.len x')) d ms Q tm := Wos_op rfl
theorem Wos_slen {x' : X} : Wos T pr (⟨d, .slen x', none, []⟩ :: ms) Q tm H ↔ wSt T pr (opV (ev tm) H (.slen x')) d ms Q tm := Wos_op rfl
theorem Wos_cap {x' : X} : Wos T pr (⟨d, .cap x', none, []⟩ :: ms) Q tm H ↔ wSt T pr (opV (ev tm) H (.cap x')) d ms Q tm := Wos_op rfl
theorem Wos_cap_k {x' : X} : Wos T pr (⟨d, .cap x', none, kx :: keep⟩ :: ms) Q tm H ↔ wKeep T pr (opV (ev tm) H (.cap x')) d (kx :: keep) ms Q tm H := Wos_op_keep rfl
theorem Wos_max2 {x' : X} {y' : X} : Wos T pr (⟨d, .max2 x' y', none, []⟩ :: ms) Q tm H ↔ wSt T pr (opV (ev tm) H (.max2 x' y')) d ms Q tm := Wos_op rfl
theorem Wos_clr {z' : List Value} {x' : X} : Wos T pr (⟨d, .clr z' x', none, []⟩ :: ms) Q tm H ↔ wSt T pr (opV (ev tm) H (.clr z' x')) d ms Q tm := Wos_op rfl
theorem Wos_clr_k {z' : List Value} {x' : X} : Wos T pr (⟨d, .clr z' x', none, kx :: keep⟩ :: ms) Q tm H ↔ wKeep T pr (opV (ev tm) H (.clr z' x')) d (kx :: keep) ms Q tm H := Wos_op_keep rfl
end Dm
end
section
set_option linter.unusedVariables false
set_option linter.unusedSimpArgs false
namespace Dm
open Go
variable {T : Tab} {pr : Prims} {H H' H'' : Heap}

theorem tgtOf_fn {g : Nat} {a b : Array Value} {args : List Value} : tgtOf (.func (.func g) a b) args = some (.fn g, a.toList ++ args ++ b.toList) := rfl
theorem tgtOf_yield {l : Nat} {args : List Value} : tgtOf (.func (.yield l) #[] #[]) args = some (.round l, args) := rfl
theorem wTgt_some {t : Tgt} {args : List Value} {d : Option Nat} {keep : List X} {ms : List MO} {Q : Tm → Heap → Prop} {tm : Tm} {H : Heap} : wTgt T pr (some (t, args)) d keep ms Q tm H ↔ wCall T pr t args d keep ms Q tm H := Iff.rfl
/-- Nothing old is changed. -/
def More (H H' : Heap) : Prop := ∃ l, H' = H ++ l
theorem More.refl (H : Heap) : More H H := ⟨[], by simp⟩
theorem More.trans (h : More H H') (k : More H' H'') : More H H'' := by
  obtain ⟨a, rfl⟩ := h
  obtain ⟨b, rfl⟩ := k
  exact ⟨a ++ b, by simp⟩
theorem More.add (H l : Heap) : More H (H ++ l) := ⟨l, rfl⟩
theorem More.get (h : More H H') {i : Nat} {o : AObj} (hi : H[i]? = some o) : H'[i]? = some o := by
  obtain ⟨l, rfl⟩ := h
  rw [List.getElem?_append_left (List.getElem?_eq_some_iff.1 hi).1]
  exact hi
theorem More.len (h : More H H') : H.length ≤ H'.length := by
  obtain ⟨l, rfl⟩ := h
  simp
theorem More.rd (h : More H H') {i o : Nat} {v : Value} (hr : rd H i o = some v) : rd H' i o = some v := by
  unfold Dm.rd at hr ⊢
  split at hr
  · rename_i cs e kd vr hb
    rw [h.get hb]
    exact hr
  · cases hr
theorem More.rds (h : More H H') {i o n : Nat} {l : List Value} (hr : rds H i o n = some l) : rds H' i o n = some l := by
  unfold Dm.rds at hr ⊢
  split at hr
  · rename_i cs e kd vr hb
    rw [h.get hb]
    exact hr
  · cases hr

/-- A slice whose elements are single cells. -/
def SlAt (H : Heap) (a : Option Addr) (l : List Value) : Prop :=
  match a with
  | none => l = []
  | some ⟨b, o, sp⟩ => sp = none ∧ ∀ j v, l[j]? = some v → rd H b (o + j) = some v
def Sl (H : Heap) (s : Value) (l : List Value) : Prop := ∃ a c, s = .slice a l.length c ∧ l.length ≤ c ∧ c < 9223372036854775808 ∧ SlAt H a l
theorem wrap_id {n : Int} (h0 : -9223372036854775808 ≤ n) (h1 : n < 9223372036854775808) : IntKind.i64.wrap n = n := by
  simp only [IntKind.wrap, IntKind.bits, IntKind.signed]
  simp
  omega
theorem wrap_succ {i : Nat} (h : i < 9223372036854775807) : IntKind.i64.wrap ((i : Int) + 1) = ((i + 1 : Nat) : Int) := by rw [wrap_id] <;> omega
theorem SlAt.more {a : Option Addr} {l : List Value} (h : SlAt H a l) (hm : More H H') : SlAt H' a l := by
  unfold SlAt at h ⊢
  split
  · exact h
  · exact ⟨h.1, fun j v hv => hm.rd (h.2 j v hv)⟩
theorem Sl.more {s : Value} {l : List Value} (h : Sl H s l) (hm : More H H') : Sl H' s l := by
  obtain ⟨a, c, h1, h2, h3, h4⟩ := h
  exact ⟨a, c, h1, h2, h3, h4.more hm⟩
theorem SlAt.some {a : Option Addr} {l : List Value} (h : SlAt H a l) {i : Nat} {v : Value} (hi : l[i]? = some v) : ∃ b o, a = some ⟨b, o, none⟩ ∧ rd H b (o + i) = some v := by
  cases a with
  | none =>
    have h0 : l = [] := h
    rw [h0] at hi
    cases hi
  | some ad =>
    obtain ⟨b, o, sp⟩ := ad
    obtain ⟨rfl, h2⟩ := h
    exact ⟨b, o, rfl, h2 i _ hi⟩
/-- Whole numbers; truths. -/
def ints (l : List Int) : List Value := l.map (.int .i64)
def bools (l : List Bool) : List Value := l.map .bool
@[simp] theorem ints_length (l : List Int) : (ints l).length = l.length := by simp [ints]
@[simp] theorem bools_length (l : List Bool) : (bools l).length = l.length := by simp [bools]
theorem ints_get {l : List Int} {j : Nat} {x : Int} (h : l[j]? = some x) : (ints l)[j]? = some (.int .i64 x) := by simp [ints, h]
theorem bools_get {l : List Bool} {j : Nat} {x : Bool} (h : l[j]? = some x) : (bools l)[j]? = some (.bool x) := by simp [bools, h]
/-- A function of one whole number that answers a truth and changes nothing. -/
def FnB (T : Tab) (pr : Prims) (f : Value) (p : Int → Bool) : Prop := ∀ (x : Int) (H : Heap), ∃ t as, tgtOf f [.int .i64 x] = some (t, as) ∧ ∀ Q : Value → Heap → Prop, Q (.bool (p x)) H → Ans T pr t as H Q
end Dm
end
section
set_option linter.unusedVariables false
set_option linter.unusedSimpArgs false
namespace Dm
open Go
variable {T : Tab} {pr : Prims} {H H' H'' : Heap}

def blk : Value → Option Nat
  | .slice (some a) _ _ => some a.block
  | .pointer (some a) => some a.block
  | _ => none
/-- A slice of n elements of sz cells, at its row's begin, in a row of one's own (from k on). -/
def Own (k sz : Nat) (H : Heap) (s : Value) (n : Nat) (cs : List Value) : Prop :=
  cs.length = n * sz ∧ n < 9223372036854775808 ∧ ((s = .slice none 0 0 ∧ n = 0) ∨
    ∃ b c all e kd ver, s = .slice (some ⟨b, 0, none⟩) n c ∧ n ≤ c ∧ c < 9223372036854775808 ∧ k ≤ b ∧ H[b]? = some (.cells all e kd ver) ∧ all.length = c * sz ∧ all.take (n * sz) = cs ∧ (kd = .fix ∨ (kd = .loose sz ∧ c = n)))
theorem Own.nil (k sz : Nat) (H : Heap) : Own k sz H (.slice none 0 0) 0 [] := ⟨by simp, by omega, .inl ⟨rfl, rfl⟩⟩
theorem Own.keep {k sz n : Nat} {s : Value} {cs : List Value} (h : Own k sz H s n cs) (hH : ∀ b, blk s = some b → b < H.length → H'[b]? = H[b]?) : Own k sz H' s n cs := by
  obtain ⟨h1, h2, h3⟩ := h
  refine ⟨h1, h2, h3.imp id ?_⟩
  rintro ⟨b, c, all, e, kd, ver, rfl, q1, q2, q3, q4, q5⟩
  exact ⟨b, c, all, e, kd, ver, rfl, q1, q2, q3, (hH b rfl (List.getElem?_eq_some_iff.1 q4).1).trans q4, q5⟩
theorem take_rds {b n : Nat} {all : List Value} {e : Nat} {kd : Kd} {ver : Nat} (h : H[b]? = some (.cells all e kd ver)) (hn : n ≤ all.length) : rds H b 0 n = some (all.take n) := by
  simp only [rds, h, Nat.zero_add, List.drop_zero]
  rw [if_pos hn]

theorem appV_own {k sz bytes n m e : Nat} {s : Value} {cs new : List Value} (hk : k ≤ H.length) (h : Own k sz H s n cs) (hn : new.length = m * sz) (hf : new.all flat = true) (hsz : 0 < sz) (hby : 0 < bytes) (hb : (n + m) * bytes ≤ 140737488355328) :
    ∃ v H', appV H e sz bytes s m new = some (v, H') ∧ Own k sz H' v (n + m) (cs ++ new) ∧ H.length ≤ H'.length ∧ (∀ i, i < H.length → blk s ≠ some i → H'[i]? = H[i]?) ∧ (∀ b, blk v = some b → blk s = some b ∨ H.length ≤ b) := by
  obtain ⟨h1, h2, h3⟩ := h
  have hsum : (cs ++ new).length = (n + m) * sz := by rw [List.length_append, h1, hn, Nat.add_mul]
  have hsmall : n + m < 9223372036854775808 := by
    have : n + m ≤ (n + m) * bytes := Nat.le_mul_of_pos_right _ hby
    omega
  have hnew : ∀ (G : Heap), H.length = G.length → (∀ i, i < H.length → blk s ≠ some i → G[i]? = H[i]?) →
      Own k sz (G ++ [.cells (cs ++ new) e (.loose sz) 0]) (.slice (some ⟨H.length, 0, none⟩) (n + m) (n + m)) (n + m) (cs ++ new) ∧ H.length ≤ (G ++ [AObj.cells (cs ++ new) e (.loose sz) 0]).length ∧
      (∀ i, i < H.length → blk s ≠ some i → (G ++ [AObj.cells (cs ++ new) e (.loose sz) 0])[i]? = H[i]?) ∧ (∀ b, blk (.slice (some ⟨H.length, 0, none⟩) (n + m) (n + m)) = some b → blk s = some b ∨ H.length ≤ b) := by
    intro G hG hg
    refine ⟨⟨hsum, hsmall, .inr ⟨H.length, n + m, cs ++ new, e, .loose sz, 0, rfl, Nat.le_refl _, hsmall, hk, ?_, hsum, ?_, .inr ⟨rfl, rfl⟩⟩⟩, by simp; omega, ?_, ?_⟩
    · rw [hG, List.getElem?_append_right (Nat.le_refl _)]; simp
    · rw [← hsum, List.take_length]
    · intro i hi hne
      rw [List.getElem?_append_left (by omega)]
      exact hg i hi hne
    · intro b hb'
      simp only [blk, Option.some.injEq] at hb'
      exact .inr (by omega)
  rcases h3 with ⟨rfl, rfl⟩ | ⟨b, c, all, e', kd, ver, rfl, q1, q2, q3, q4, q5, q6, q7⟩
  · have hcs : cs = [] := List.eq_nil_of_length_eq_zero (by simpa using h1)
    subst hcs
    by_cases hm : m = 0
    · subst hm
      have : new = [] := List.eq_nil_of_length_eq_zero (by simpa using hn)
      subst this
      exact ⟨_, H, by simp [appV], Own.nil k sz H, Nat.le_refl _, fun _ _ _ => rfl, fun b hb' => .inl hb'⟩
    · have := hnew H rfl (fun _ _ _ => rfl)
      simp only [List.nil_append, Nat.zero_add] at this hb ⊢
      refine ⟨_, _, ?_, this⟩
      unfold appV
      simp only [Nat.zero_add]
      rw [if_neg (by omega), if_pos ⟨hb, trivial⟩]
  · have hbl : b < H.length := (List.getElem?_eq_some_iff.1 q4).1
    have hall : all.length = c * sz := q5
    by_cases hfit : n + m ≤ c
    · by_cases hm : new = []
      · subst hm
        have hm0 : m = 0 := by
          simp only [List.length_nil] at hn
          rcases Nat.mul_eq_zero.1 hn.symm with q | q <;> omega
        subst hm0
        refine ⟨.slice (some ⟨b, 0, none⟩) (n + 0) c, H, by simp only [appV, Nat.add_zero]; rw [if_pos q1]; simp, ?_, Nat.le_refl _, fun _ _ _ => rfl, fun b' hb' => .inl hb'⟩
        simp only [Nat.add_zero, List.append_nil]
        exact ⟨h1, h2, .inr ⟨b, c, all, e', kd, ver, rfl, q1, q2, q3, q4, q5, q6, q7⟩⟩
      · have hmp : 0 < m := by
          rcases Nat.eq_zero_or_pos m with q | q
          · subst q; exact absurd (List.eq_nil_of_length_eq_zero (by simpa using hn)) hm
          · exact q
        have hkd : kd = .fix := by
          rcases q7 with q | ⟨_, q⟩
          · exact q
          · omega
        subst hkd
        have hle : n * sz + new.length ≤ all.length := by
          rw [hn, hall, ← Nat.add_mul]; exact Nat.mul_le_mul_right _ hfit
        have hw : wr H b (0 + n * sz) new = some (H.set b (.cells (all.take (n * sz) ++ new ++ all.drop (n * sz + new.length)) e' .fix (ver + 1))) := by
          simp only [wr, q4, Nat.zero_add]
          rw [if_pos ⟨rfl, hle, hf⟩]
        refine ⟨_, _, by simp only [appV]; rw [if_pos hfit, if_neg hm, hw]; rfl, ⟨hsum, hsmall, .inr ⟨b, c, _, e', .fix, ver + 1, rfl, hfit, q2, q3, by rw [List.getElem?_set_self hbl], ?_, ?_, .inl rfl⟩⟩, by simp, ?_, fun b' hb' => .inl hb'⟩
        · simp only [List.length_append, List.length_take, List.length_drop]
          omega
        · rw [q6]
          have : (cs ++ new).length = (n + m) * sz := hsum
          rw [← this, List.take_left]
        · intro i hi hne
          rw [List.getElem?_set_ne]
          rintro rfl
          exact hne rfl
    · have hle : n * sz ≤ all.length := by rw [hall]; exact Nat.mul_le_mul_right _ q1
      have hr : rds H b 0 (n * sz) = some cs := by rw [take_rds q4 hle, q6]
      rcases q7 with rfl | ⟨rfl, q7⟩
      · refine ⟨_, _, ?_, hnew H rfl fun _ _ _ => rfl⟩
        simp only [appV]
        rw [if_neg hfit, if_pos hb, hr]
        simp only [kdAt, q4, Kd.spare]
      · refine ⟨_, _, ?_, hnew (kill H b) (by simp [kill]) fun i hi hne => ?_⟩
        · simp only [appV]
          rw [if_neg hfit, if_pos hb, hr]
          simp only [kdAt, q4, Kd.spare, hf, and_self, if_true]
        · unfold kill
          rw [List.getElem?_set_ne]
          rintro rfl
          exact hne rfl
/-- One's own row is a slice of single cells. -/
theorem Own.sl {k n : Nat} {s : Value} {cs : List Value} (h : Own k 1 H s n cs) : Sl H s cs := by
  obtain ⟨h1, h2, h3⟩ := h
  simp only [Nat.mul_one] at h1 h3
  rcases h3 with ⟨rfl, rfl⟩ | ⟨b, c, all, e', kd, ver, rfl, q1, q2, q3, q4, q5, q6, q7⟩
  · have : cs = [] := List.eq_nil_of_length_eq_zero h1
    subst this
    exact ⟨none, 0, rfl, Nat.le_refl _, by omega, rfl⟩
  · refine ⟨some ⟨b, 0, none⟩, c, by rw [h1], by omega, q2, rfl, fun j v hj => ?_⟩
    simp only [Nat.zero_add, rd, q4]
    rw [← q6, List.getElem?_take] at hj
    split at hj
    · exact hj
    · cases hj
end Dm
end
section
set_option linter.unusedVariables false
set_option linter.unusedSimpArgs false
namespace Dm
open Go
variable {T : Tab} {pr : Prims} {H H' H'' : Heap} {d : Option Nat} {ms : List MO} {Q : Tm → Heap → Prop} {tm : Tm}

theorem rd_new {cs : List Value} {e : Nat} {kd : Kd} {v o : Nat} : rd (H ++ [.cells cs e kd v]) H.length o = cs[o]? := by simp [rd]
theorem len_new {o : AObj} : (H ++ [o]).length = H.length + 1 := by simp
theorem More.ver (h : More H H') {i : Nat} (hi : i < H.length) : ver H' i = ver H i := by
  obtain ⟨l, rfl⟩ := h
  simp only [Dm.ver, List.getElem?_append_left hi]
/-- A slice of m elements of sz cells. -/
def SlC (sz : Nat) (H : Heap) (x : Value) (m : Nat) (cs : List Value) : Prop :=
  cs.length = m * sz ∧ ∃ a c, x = .slice a m c ∧ m ≤ c ∧ c < 9223372036854775808 ∧ (match a with | none => m = 0 | some ⟨b, o, sp⟩ => sp = none ∧ (m * sz = 0 ∨ rds H b o (m * sz) = some cs))
theorem rds_of {b o : Nat} {l : List Value} (hl : l ≠ []) (h : ∀ j v, l[j]? = some v → rd H b (o + j) = some v) : rds H b o l.length = some l := by
  have hlen : 0 < l.length := List.length_pos_iff.2 hl
  have hlast := h (l.length - 1) l[l.length - 1] (List.getElem?_eq_getElem (by omega))
  unfold rd at hlast
  split at hlast
  · rename_i cs e kd ver hb
    have hle := (List.getElem?_eq_some_iff.1 hlast).1
    unfold rds
    rw [hb]
    simp only
    rw [if_pos (by omega)]
    congr 1
    apply List.ext_getElem?
    intro j
    rw [List.getElem?_take]
    split
    · rename_i hj
      have := h j l[j] (List.getElem?_eq_getElem hj)
      simp only [rd, hb] at this
      rw [List.getElem?_drop, this, List.getElem?_eq_getElem hj]
    · rename_i hj
      rw [List.getElem?_eq_none (by omega)]
  · cases hlast
theorem Sl.c {s : Value} {l : List Value} (h : Sl H s l) : SlC 1 H s l.length l := by
  obtain ⟨a, c, rfl, h1, h2, h3⟩ := h
  refine ⟨by simp, a, c, rfl, h1, h2, ?_⟩
  cases a with
  | none => have : l = [] := h3
            simp [this]
  | some ad =>
    obtain ⟨b, o, sp⟩ := ad
    obtain ⟨rfl, h4⟩ := h3
    refine ⟨rfl, ?_⟩
    by_cases e : l = []
    · exact .inl (by simp [e])
    · exact .inr (by rw [Nat.mul_one]; exact rds_of e h4)
theorem rds_rd {b o n : Nat} {l : List Value} (h : rds H b o n = some l) {j : Nat} {v : Value} (hj : l[j]? = some v) : rd H b (o + j) = some v := by
  unfold rds at h
  split at h
  · rename_i cs e kd ver hb
    split at h
    · simp only [Option.some.injEq] at h
      subst h
      rw [List.getElem?_take] at hj
      split at hj
      · rw [List.getElem?_drop] at hj
        simp only [rd, hb]
        exact hj
      · cases hj
    · cases h
  · cases h
theorem SlC.sl {s : Value} {n : Nat} {l : List Value} (h : SlC 1 H s n l) : Sl H s l := by
  obtain ⟨h0, a, c, rfl, h1, h2, h3⟩ := h
  simp only [Nat.mul_one] at h0 h3
  subst h0
  refine ⟨a, c, rfl, h1, h2, ?_⟩
  cases a with
  | none => exact List.eq_nil_of_length_eq_zero h3
  | some ad =>
    obtain ⟨b, o, sp⟩ := ad
    obtain ⟨rfl, h4⟩ := h3
    refine ⟨rfl, fun j v hj => ?_⟩
    rcases h4 with h4 | h4
    · have : l = [] := List.eq_nil_of_length_eq_zero h4
      subst this
      cases hj
    · exact rds_rd h4 hj
theorem SlC.src {sz m : Nat} {x : Value} {cs : List Value} (h : SlC sz H x m cs) : lenV x = some m ∧ srcCells H sz m x = some cs := by
  obtain ⟨h0, a, c, rfl, h1, h2, h3⟩ := h
  refine ⟨rfl, ?_⟩
  cases a with
  | none =>
    have : m = 0 := h3
    subst this
    have : cs = [] := List.eq_nil_of_length_eq_zero (by simpa using h0)
    subst this
    rfl
  | some ad =>
    obtain ⟨b, o, sp⟩ := ad
    obtain ⟨rfl, h4⟩ := h3
    simp only [srcCells]
    split
    · rename_i hz
      have : cs = [] := List.eq_nil_of_length_eq_zero (by rw [h0]; exact hz)
      rw [this]
    · rename_i hz
      exact h4.resolve_left hz
theorem Own.c {k sz n : Nat} {s : Value} {cs : List Value} (h : Own k sz H s n cs) : SlC sz H s n cs := by
  obtain ⟨h1, h2, h3⟩ := h
  refine ⟨h1, ?_⟩
  rcases h3 with ⟨rfl, rfl⟩ | ⟨b, c, all, e', kd, ver, rfl, q1, q2, q3, q4, q5, q6, q7⟩
  · exact ⟨none, 0, rfl, Nat.le_refl _, by omega, rfl⟩
  · refine ⟨some ⟨b, 0, none⟩, c, rfl, q1, q2, rfl, .inr ?_⟩
    rw [take_rds q4 (by rw [q5]; exact Nat.mul_le_mul_right _ q1), q6]

theorem More.of (hl : H.length ≤ H'.length) (h : ∀ i, i < H.length → H'[i]? = H[i]?) : More H H' := by
  refine ⟨H'.drop H.length, ?_⟩
  apply List.ext_getElem?
  intro i
  by_cases hi : i < H.length
  · rw [List.getElem?_append_left hi]; exact h i hi
  · rw [List.getElem?_append_right (by omega), List.getElem?_drop]
    congr 1; omega
theorem Sl.int {s : Value} {l : List Int} (h : Sl H s (ints l)) : ∃ a c, s = .slice a l.length c ∧ l.length ≤ c ∧ c < 9223372036854775808 ∧ SlAt H a (ints l) := by
  obtain ⟨a, c, h1, h2, h3, h4⟩ := h
  rw [ints_length] at h1 h2
  exact ⟨a, c, h1, h2, h3, h4⟩
theorem Sl.bool {s : Value} {l : List Bool} (h : Sl H s (bools l)) : ∃ a c, s = .slice a l.length c ∧ l.length ≤ c ∧ c < 9223372036854775808 ∧ SlAt H a (bools l) := by
  obtain ⟨a, c, h1, h2, h3, h4⟩ := h
  rw [bools_length] at h1 h2
  exact ⟨a, c, h1, h2, h3, h4⟩
theorem rd_lt {b o : Nat} {v : Value} (h : rd H b o = some v) : b < H.length := by
  unfold rd at h
  split at h
  · rename_i hb; exact (List.getElem?_eq_some_iff.1 hb).1
  · cases h
theorem More.at (h : More H H') {i : Nat} (hi : i < H.length) : H'[i]? = H[i]? := by
  obtain ⟨l, rfl⟩ := h
  exact List.getElem?_append_left hi
theorem Own.from {k sz n b : Nat} {s : Value} {cs : List Value} (h : Own k sz H s n cs) (hb : blk s = some b) : k ≤ b := by
  obtain ⟨h1, h2, h3⟩ := h
  rcases h3 with ⟨rfl, rfl⟩ | ⟨b', c, all, e', kd, ver, rfl, q1, q2, q3, q4, q5, q6, q7⟩
  · cases hb
  · cases hb; exact q3
theorem flat_ints (l : List Int) : (ints l).all flat = true := by simp [ints, flat]
theorem flat_bools (l : List Bool) : (bools l).all flat = true := by simp [bools, flat]
/-- What an append to a row of one's own leaves. -/
structure Appd (k sz : Nat) (H : Heap) (s : Value) (H' : Heap) (v : Value) (n : Nat) (cs : List Value) : Prop where
  own : Own k sz H' v n cs
  len : H.length ≤ H'.length
  keep : ∀ i, i < H.length → blk s ≠ some i → H'[i]? = H[i]?
  blk : ∀ b, blk v = some b → Dm.blk s = some b ∨ H.length ≤ b
theorem Appd.more {k sz n : Nat} {s v : Value} {cs : List Value} (h : Appd k sz H s H' v n cs) {H0 : Heap} (hm : More H0 H) (hs : ∀ b, Dm.blk s = some b → H0.length ≤ b) : More H0 H' := by
  refine More.of (Nat.le_trans hm.len h.len) fun i hi => ?_
  rw [h.keep i (Nat.lt_of_lt_of_le hi hm.len) (fun e => by have := hs i e; omega)]
  obtain ⟨l, rfl⟩ := hm
  exact List.getElem?_append_left hi
theorem app_ok {k sz bytes n m e : Nat} {z : List Value} {s' x' : X} {s x : Value} {cs new : List Value} (hs : ev tm s' = s) (hx : ev tm x' = x) (hk : k ≤ H.length) (ho : Own k sz H s n cs) (hl : SlC sz H x m new) (hf : new.all flat = true) (hsz : 0 < sz) (hby : 0 < bytes) (hb : (n + m) * bytes ≤ 140737488355328)
    (h : ∀ v H', Appd k sz H s H' v (n + m) (cs ++ new) → Wos T pr ms Q (put tm d v) H') : Wos T pr (⟨d, .app e sz bytes z s' x', none, []⟩ :: ms) Q tm H := by
  rw [Wos_app]
  obtain ⟨v, H', h1, h2, h3, h4, h5⟩ := appV_own (e := e) hk ho hl.1 hf hsz hby hb
  obtain ⟨q1, q2⟩ := hl.src
  simp only [opV, hs, hx, q1, q2, hl.1, if_true, h1, wSt_some]
  exact h v H' ⟨h2, h3, h4, h5⟩
/-- A variable in memory. -/
theorem box_new {e : Nat} {x' : X} {u : Value} (hx : ev tm x' = u) (h : ∀ G, More H G → H.length < G.length → G[H.length]? = some (.cells u.cells.toList e .fix 0) → (∀ i, H.length < i → G[i]? = none) → Wos T pr ms Q (put tm d (.pointer (some ⟨H.length, 0, none⟩))) G) : Wos T pr (⟨d, .box e x', none, []⟩ :: ms) Q tm H := by
  rw [Wos_box]
  simp only [opV, hx, wSt_some]
  exact h _ (More.add _ _) (by simp) (by simp) (fun i hi => by rw [List.getElem?_eq_none]; simp; omega)
theorem new_new {e : Nat} {z : List Value} (h : ∀ G, More H G → H.length < G.length → G[H.length]? = some (.cells z e .fix 0) → (∀ i, H.length < i → G[i]? = none) → Wos T pr ms Q (put tm d (.pointer (some ⟨H.length, 0, none⟩))) G) : Wos T pr (⟨d, .new z e, none, []⟩ :: ms) Q tm H := by
  rw [Wos_new]
  simp only [opV, wSt_some]
  exact h _ (More.add _ _) (by simp) (by simp) (fun i hi => by rw [List.getElem?_eq_none]; simp; omega)
/-- A value of parts. -/
theorem build_ok {z : List Value} {ps : List (Nat × Nat × X)} {parts : List (Nat × List Value)} (cs : List Value) (h1 : partsOf (ev tm) ps = some parts) (h2 : lay z parts = some cs) (h : Wos T pr ms Q (put tm d (.agg cs.toArray)) H) : Wos T pr (⟨d, .build z ps, none, []⟩ :: ms) Q tm H := by
  rw [Wos_build]
  simp only [opV, h1, h2, Option.map_some, wSt_some]
  exact h
/-- A write. -/
theorem st_ok {n b o e v : Nat} {kd : Kd} {a' x' : X} {u : Value} {cs : List Value} (ha : ev tm a' = .pointer (some ⟨b, o, none⟩)) (hx : ev tm x' = u) (hg : H[b]? = some (.cells cs e kd v)) (hk : kd.w = true) (hn : u.cells.size = n) (ho : o + n ≤ cs.length) (hf : u.cells.toList.all flat = true)
    (h : ∀ G : Heap, G.length = H.length → (∀ i, i ≠ b → G[i]? = H[i]?) → G[b]? = some (.cells (cs.take o ++ u.cells.toList ++ cs.drop (o + n)) e kd (v + 1)) → Wos T pr ms Q (put tm d undefV) G) : Wos T pr (⟨d, .st n a' x', none, []⟩ :: ms) Q tm H := by
  have hl : u.cells.toList.length = n := by simpa using hn
  have hb : b < H.length := (List.getElem?_eq_some_iff.1 hg).1
  have hw : wr H b o u.cells.toList = some (H.set b (.cells (cs.take o ++ u.cells.toList ++ cs.drop (o + n)) e kd (v + 1))) := by
    simp only [wr, hg, hl]
    rw [if_pos ⟨hk, ho, hf⟩]
  rw [Wos_st]
  simp only [opV, ha, hx, hn, if_true, hw, Option.map_some, wSt_some]
  refine h _ (by simp) (fun i hi => ?_) ?_
  · rw [List.getElem?_set_ne (Ne.symm hi)]
  · rw [List.getElem?_set_self hb]
theorem rd_at {b o : Nat} {cs : List Value} {e : Nat} {kd : Kd} {v : Nat} (h : H[b]? = some (.cells cs e kd v)) : rd H b o = cs[o]? := by simp [rd, h]
theorem rds_at {b o n : Nat} {cs : List Value} {e : Nat} {kd : Kd} {v : Nat} (h : H[b]? = some (.cells cs e kd v)) (hn : o + n ≤ cs.length) : rds H b o n = some ((cs.drop o).take n) := by simp [rds, h, hn]
/-- A new row, of what is written. -/
theorem lit_ok {e len : Nat} {z : List Value} {ps : List (Nat × Nat × X)} {parts : List (Nat × List Value)} {cs : List Value} (h1 : partsOf (ev tm) ps = some parts) (h2 : lay (zeros z len) parts = some cs)
    (h : Wos T pr ms Q (put tm d (.slice (some ⟨H.length, 0, none⟩) len len)) (H ++ [.cells cs e .fix 0])) : Wos T pr (⟨d, .lit e z ps len, none, []⟩ :: ms) Q tm H := by
  rw [Wos_lit]
  simp only [opV, h1, h2, Option.map_some, wSt_some]
  exact h
theorem lit_new {e len : Nat} {z : List Value} {ps : List (Nat × Nat × X)} {parts : List (Nat × List Value)} (cs : List Value) (sz : Nat) (h1 : partsOf (ev tm) ps = some parts) (h2 : lay (zeros z len) parts = some cs) (h3 : cs.length = len * sz) (h4 : len < 9223372036854775808)
    (h : ∀ v G, Own H.length sz G v len cs → More H G → H.length < G.length → blk v = some H.length → Wos T pr ms Q (put tm d v) G) : Wos T pr (⟨d, .lit e z ps len, none, []⟩ :: ms) Q tm H := by
  refine lit_ok h1 h2 (h _ _ ⟨h3, h4, .inr ⟨H.length, len, cs, e, .fix, 0, rfl, Nat.le_refl _, h4, Nat.le_refl _, by simp, h3, by rw [← h3, List.take_length], .inl rfl⟩⟩ (More.add _ _) (by simp) rfl)
theorem Own.lit {k sz n e : Nat} {cs : List Value} (hk : k ≤ H.length) (hc : cs.length = n * sz) (hn : n < 9223372036854775808) : Own k sz (H ++ [.cells cs e .fix 0]) (.slice (some ⟨H.length, 0, none⟩) n n) n cs :=
  ⟨hc, hn, .inr ⟨H.length, n, cs, e, .fix, 0, rfl, Nat.le_refl _, hn, hk, by simp, hc, by rw [← hc, List.take_length], .inl rfl⟩⟩
end Dm
end
section
set_option linter.unusedVariables false
set_option linter.unusedSimpArgs false
namespace Dm
open Go

/-- A value: a plain one; a slice of so many elements, by its cells; the address of cells that nobody writes; parts; a function with what it holds; an address in the store; a slice of a row of the store. -/
inductive PV where
  | v (x : Value)
  | sl (n : Nat) (cs : List PV)
  | ep (cs : List PV)
  | agg (cs : List PV)
  | tup (cs : List PV)
  | fn (f : Nat) (caps : List PV)
  | ptr (i o : Nat)
  | row (i o n c : Nat)
  deriving Inhabited

def plain : Value → Bool
  | .bool _ => true
  | .int _ _ => true
  | .string _ => true
  | .pointer none => true
  | .slice none 0 0 => true
  | .nilFunc => true
  | .nilIface => true
  | .iface _ v => plain v
  | _ => false

/-- A row of the store: given up, or cells (are they final? of which kind, how often written). -/
inductive Obj where
  | dead
  | cells (fz : Bool) (kd : Kd) (ver : Nat) (cs : List PV)
  deriving Inhabited
def Obj.fz : Obj → Bool
  | .dead => false
  | .cells f _ _ _ => f
def Obj.ver : Obj → Option Nat
  | .dead => none
  | .cells _ _ v _ => some v

abbrev PT := Nat → PV
abbrev St := Nat → Obj
def upd {α : Type} (f : Nat → α) (i : Nat) (x : α) : Nat → α := fun j => if j = i then x else f j
theorem upd_eq {α : Type} (f : Nat → α) (i : Nat) (x : α) (j : Nat) : upd f i x j = if j = i then x else f j := rfl
theorem upd_same {α : Type} (f : Nat → α) (i : Nat) (x : α) : upd f i x i = x := by simp [upd]
theorem upd_ne {α : Type} {f : Nat → α} {i j : Nat} {x : α} (h : j ≠ i) : upd f i x j = f j := by simp [upd, h]

def pnil : PV := .v (.slice none 0 0)
def pundef : PV := .tup []
def pev (pt : PT) : X → PV
  | .t n => pt n
  | .c v => .v v
  | .f n => .fn n []
def pcells : PV → List PV
  | .agg l => l
  | x => [x]
def pflat : PV → Bool
  | .agg _ => false
  | .tup _ => false
  | _ => true
def prd (st : St) (i o : Nat) : Option PV :=
  match st i with
  | .cells _ _ _ cs => cs[o]?
  | .dead => none
def prds (st : St) (i o n : Nat) : Option (List PV) :=
  match st i with
  | .cells _ _ _ cs => if o + n ≤ cs.length then some ((cs.drop o).take n) else none
  | .dead => none
def pwr (st : St) (i o : Nat) (vs : List PV) : Option St :=
  match st i with
  | .cells false kd v cs => if kd.w = true ∧ o + vs.length ≤ cs.length ∧ vs.all pflat = true then some (upd st i (.cells false kd (v + 1) (cs.take o ++ vs ++ cs.drop (o + vs.length)))) else none
  | _ => none
def pparts (ρ : X → PV) (ps : List (Nat × Nat × X)) : Option (List (Nat × List PV)) :=
  match ps with
  | [] => some []
  | (o, n, x) :: r => if (pcells (ρ x)).length = n then (pparts ρ r).map ((o, pcells (ρ x)) :: ·) else none
def play (z : List PV) : List (Nat × List PV) → Option (List PV)
  | [] => some z
  | (o, vs) :: r => if o + vs.length ≤ z.length then play (z.take o ++ vs ++ z.drop (o + vs.length)) r else none
/-- The cells of an element. -/
def psub (cs : List PV) (j size : Nat) : Option (List PV) := if (j + 1) * size ≤ cs.length then some ((cs.drop (j * size)).take size) else none
/-- What is appended or copied: how many elements, which cells. -/
def psrc (st : St) (size : Nat) : PV → Option (Nat × List PV)
  | .sl m cs => if cs.length = m * size then some (m, cs) else none
  | .row i o m c => if m * size = 0 then some (m, []) else (prds st i o (m * size)).map (m, ·)
  | .v (.slice none 0 0) => some (0, [])
  | .v (.string s) => if size = 1 then some (s.size, s.data.toList.map fun b => .v (.int .u8 b.toNat)) else none
  | _ => none
/-- The first elements of what is copied. -/
def pcop (st : St) (size n : Nat) : PV → Option (List PV)
  | .sl m cs => if cs.length = m * size ∧ n ≤ m then some (cs.take (n * size)) else none
  | .row i o m _ => if n * size = 0 then some [] else prds st i o (n * size)
  | .v (.slice none 0 0) => some []
  | _ => none
def plen : PV → Option Nat
  | .sl m _ => some m
  | .row _ _ m _ => some m
  | .v (.slice none 0 0) => some 0
  | _ => none
def pkill (st : St) (i : Nat) : Option St :=
  match st i with
  | .cells false _ _ _ => some (upd st i .dead)
  | _ => none
def papp (st : St) (n : Nat) (size bytes : Nat) (s : PV) (m : Nat) (new : List PV) : Option (PV × St × Nat) :=
  match s with
  | .v (.slice none 0 0) =>
    if m = 0 then (if new = [] then some (pnil, st, n) else none)
    else if m * bytes ≤ 140737488355328 ∧ m < 9223372036854775808 then some (.row n 0 m m, upd st n (.cells false (.loose size) 0 new), n + 1) else none
  | .row i o len cap =>
    if len + m ≤ cap then (if new = [] then some (.row i o (len + m) cap, st, n) else (pwr st i (o + len * size) new).map fun st' => (.row i o (len + m) cap, st', n))
    else if (len + m) * bytes ≤ 140737488355328 ∧ len + m < 9223372036854775808 then
      match st i with
      | .cells fz kd _ cs => if o + len * size ≤ cs.length then
          match kd.spare with
          | none => some (.row n 0 (len + m) (len + m), upd st n (.cells false (.loose size) 0 ((cs.drop o).take (len * size) ++ new)), n + 1)
          | some sz => if sz = size ∧ new.all pflat = true ∧ fz = false then some (.row n 0 (len + m) (len + m), upd (upd st i .dead) n (.cells false (.loose size) 0 ((cs.drop o).take (len * size) ++ new)), n + 1) else none
        else none
      | .dead => none
    else none
  | _ => none
def pbnd (x : Option X) (ρ : X → PV) (d : Nat) (y : Nat) : Option Nat :=
  match x with
  | none => some d
  | some x => match ρ x with
    | .v (.int _ i) => if 0 ≤ i ∧ i ≤ y then some i.toNat else none
    | _ => none
def peq (k : EqK) (x y : PV) : Option Bool :=
  match k, x, y with
  | .bool, .v (.bool a), .v (.bool b) => some (a == b)
  | .slice, .v (.slice none 0 0), .v (.slice none 0 0) => some true
  | .slice, .row _ _ _ _, .v (.slice none 0 0) => some false
  | .slice, .sl _ (_ :: _), .v (.slice none 0 0) => some false
  | .ints offs, .agg xs, .agg ys => pints xs ys offs
  | .nilI, .v .nilIface, .v .nilIface => some true
  | .nilI, .v (.iface _ _), .v .nilIface => some false
  | _, _, _ => none
where
  pints (xs ys : List PV) : List Nat → Option Bool
  | [] => some true
  | o :: r =>
    match xs[o]?, ys[o]? with
    | some (.v (.int k a)), some (.v (.int k' b)) => if k = k' then (if a = b then pints xs ys r else some false) else none
    | _, _ => none
def psl (st : St) (size : Nat) (nomax : Bool) (i o h l m : Nat) : Option PV :=
  match st i with
  | .cells _ kd _ _ =>
    match kd.spare with
    | none => if m = l then some (.row i o (h - l) (m - l)) else some (.row i (o + l * size) (h - l) (m - l))
    | some sz => if nomax then (if sz = size ∧ size ≠ 0 ∧ m ≠ l ∧ l ≤ m then some (.row i (o + l * size) (h - l) (m - l)) else none)
      else if m = l then some (.row i o (h - l) (m - l)) else some (.row i (o + l * size) (h - l) (m - l))
  | .dead => none

/-- An operation that calls nothing. -/
def pop (ρ : X → PV) (st : St) (n : Nat) : MOp → Option (PV × St × Nat)
  | .mv x => some (ρ x, st, n)
  | .pick c a b => match ρ c with
    | .v (.bool t) => some (if t = true then ρ a else ρ b, st, n)
    | _ => none
  | .new z e => if z.all plain = true then some (.ptr n 0, upd st n (.cells false .fix 0 (z.map .v)), n + 1) else none
  | .box e x => some (.ptr n 0, upd st n (.cells false .fix 0 (pcells (ρ x))), n + 1)
  | .build z ps => if z.all plain = true then (match pparts ρ ps with
    | some l => (play (z.map .v) l).map fun cs => (.agg cs, st, n)
    | none => none) else none
  | .lit e z ps len => if z.all plain = true ∧ len < 9223372036854775808 then (match pparts ρ ps with
    | some l => (play ((zeros z len).map .v) l).map fun cs => (.row n 0 len len, upd st n (.cells false .fix 0 cs), n + 1)
    | none => none) else none
  | .ld a => match ρ a with
    | .ptr i o => (prd st i o).map (·, st, n)
    | .ep (x :: _) => some (x, st, n)
    | _ => none
  | .lds k a => match ρ a with
    | .ptr i o => (prds st i o k).map fun l => (.agg l, st, n)
    | .ep cs => if k ≤ cs.length ∧ 0 < k then some (.agg (cs.take k), st, n) else none
    | _ => none
  | .st k a x => match ρ a with
    | .ptr i o => if (pcells (ρ x)).length = k then (pwr st i o (pcells (ρ x))).map (pundef, ·, n) else none
    | _ => none
  | .chk x => match ρ x with
    | .ptr i o => some (.ptr i o, st, n)
    | .ep cs => some (.ep cs, st, n)
    | .fn f caps => some (.fn f caps, st, n)
    | _ => none
  | .bin op x y => match ρ x, ρ y with
    | .v a, .v b => (binV op a b).map fun r => (.v r, st, n)
    | _, _ => none
  | .eq neq k x y => (peq k (ρ x) (ρ y)).map fun b => (.v (.bool (if neq = true then !b else b)), st, n)
  | .not x => match ρ x with
    | .v (.bool b) => some (.v (.bool !b), st, n)
    | _ => none
  | .neg x => match ρ x with
    | .v (.int k i) => some (.v (.int k (k.wrap (0 - i))), st, n)
    | _ => none
  | .cvt k x => match ρ x with
    | .v (.int _ i) => some (.v (.int k (k.wrap i)), st, n)
    | _ => none
  | .bytes e x => match ρ x with
    | .v (.string s) => if s.size ≤ 140737488355328 then some (.row n 0 s.size s.size, upd st n (.cells false .rob 0 (s.data.toList.map fun b => .v (.int .u8 b.toNat))), n + 1) else none
    | _ => none
  | .fld off x => match ρ x with
    | .agg cs => (cs[off]?).map (·, st, n)
    | _ => none
  | .flds off k x => match ρ x with
    | .agg cs => some (.agg ((cs.drop off).take k), st, n)
    | _ => none
  | .fa off x => match ρ x with
    | .ptr i o => some (.ptr i (o + off), st, n)
    | .ep cs => if off < cs.length then some (.ep (cs.drop off), st, n) else none
    | _ => none
  | .ia size x i => match ρ x, ρ i with
    | .sl m cs, .v (.int _ j) => if 0 ≤ j ∧ j < m ∧ 0 < size then (psub cs j.toNat size).map fun l => (.ep l, st, n) else none
    | .row i o m _, .v (.int _ j) => if 0 ≤ j ∧ j < m then some (.ptr i (o + j.toNat * size), st, n) else none
    | _, _ => none
  | .ix x i => match ρ x, ρ i with
    | .v (.string s), .v (.int _ j) => if 0 ≤ j then (s[j.toNat]?).map fun b => (.v (.int .u8 b.toNat), st, n) else none
    | _, _ => none
  | .sl size x lo hi mx => match ρ x with
    | .sl m cs => if mx.isNone = true ∧ cs.length = m * size ∧ 0 < size then (match pbnd hi ρ m m with
      | none => none
      | some h => match pbnd lo ρ 0 h with
        | none => none
        | some l => if l < m then some (.sl (h - l) ((cs.drop (l * size)).take ((h - l) * size)), st, n) else none) else none
    | .row i o len cap =>
      if (mx.isSome && hi.isNone) = true then none else
      match pbnd mx ρ cap cap with
      | none => none
      | some m => match pbnd hi ρ len m with
        | none => none
        | some h => match pbnd lo ρ 0 h with
          | none => none
          | some l => (psl st size mx.isNone i o h l m).map (·, st, n)
    | .v (.slice none 0 0) =>
      match pbnd mx ρ 0 0 with
      | none => none
      | some m => match pbnd hi ρ 0 m with
        | none => none
        | some h => match pbnd lo ρ 0 h with
          | none => none
          | some l => some (pnil, st, n)
    | _ => none
  | .sls x lo hi => match ρ x with
    | .v (.string s) => match pbnd hi ρ s.size s.size with
      | none => none
      | some h => match pbnd lo ρ 0 h with
        | none => none
        | some l => some (.v (.string (s.extract l h)), st, n)
    | _ => none
  | .mk e size bytes z len cap => match ρ len, ρ cap with
    | .v (.int .i64 l), .v (.int .i64 c) => if z.all plain = true ∧ 0 ≤ l ∧ l ≤ c ∧ c ≤ 9223372036854775807 ∧ bytes * c ≤ 281474976710656 then some (.row n 0 l.toNat c.toNat, upd st n (.cells false .fix 0 ((zeros z c.toNat).map .v)), n + 1) else none
    | _, _ => none
  | .iface t x => match ρ x with
    | .v a => some (.v (.iface t a), st, n)
    | _ => none
  | .ext x i => match ρ x with
    | .tup vs => (vs[i]?).map (·, st, n)
    | _ => none
  | .fn f caps => some (.fn f (caps.map ρ), st, n)
  | .app e size bytes z s x => match psrc st size (ρ x) with
    | some (m, new) => if new.length = m * size then papp st n size bytes (ρ s) m new else none
    | none => none
  | .cap x => match ρ x with
    | .v (.slice none 0 0) => some (.v (.int .i64 0), st, n)
    | .row i _ _ c => match st i with
      | .cells _ kd _ _ => match kd.spare with
        | none => some (.v (.int .i64 c), st, n)
        | some _ => none
      | .dead => none
    | _ => none
  | .appz e size bytes z s x => match ρ x with
    | .v (.int .i64 k) => match plen (ρ s) with
      | some len => if z.all plain = true ∧ 0 ≤ k ∧ k ≤ 9223372036854775807 ∧ k * bytes ≤ 281474976710656 ∧ len + k.toNat ≤ 9223372036854775807 then papp st n size bytes (ρ s) k.toNat ((zeros z k.toNat).map .v) else none
      | none => none
    | _ => none
  | .cpy size d s => match plen (ρ s) with
    | some sl => match ρ d with
      | .row i o dl _ => match pcop st size (min sl dl) (ρ s) with
        | some [] => some (.v (.int .i64 (min sl dl : Nat)), st, n)
        | some (c :: cs) => (pwr st i o (c :: cs)).map (.v (.int .i64 (min sl dl : Nat)), ·, n)
        | none => none
      | _ => none
    | none => none
  | .clr z x => match ρ x with
    | .row i o m _ => if z.all plain = true then (if m = 0 then some (pundef, st, n) else (pwr st i o ((zeros z m).map .v)).map (pundef, ·, n)) else none
    | _ => none
  | .len x => match ρ x with
    | .sl m _ => some (.v (.int .i64 m), st, n)
    | .row _ _ m _ => some (.v (.int .i64 m), st, n)
    | .v (.slice none 0 0) => some (.v (.int .i64 0), st, n)
    | _ => none
  | .slen x => match ρ x with
    | .v (.string s) => some (.v (.int .i64 s.size), st, n)
    | _ => none
  | .max2 x y => match ρ x, ρ y with
    | .v (.int k a), .v (.int _ b) => some (.v (.int k (if b > a then b else a)), st, n)
    | _, _ => none
  | _ => none

def ptgt (f : PV) (args : List PV) : Option (Tgt × List PV) :=
  match f with
  | .fn g caps => some (.fn g, args ++ caps)
  | _ => none
def pput (pt : PT) (d : Option Nat) (v : PV) : PT :=
  match d with
  | some d => upd pt d v
  | none => pt
/-- A block is left alone. -/
def keptP (p : PV) (st st' : St) : Prop :=
  match p with
  | .ptr i _ => (st i).ver.isSome = true ∧ (st i).ver = (st' i).ver
  | .row i _ _ _ => (st i).ver.isSome = true ∧ (st i).ver = (st' i).ver
  | _ => True
def keepP (pt : PT) (st st' : St) : List X → Prop
  | [] => True
  | x :: r => keptP (pev pt x) st st' ∧ keepP pt st st' r

/-! ### How values stand to the machine's -/
inductive RepI (μ : Nat → Nat) (Av : Nat → Prop) (H : Heap) : Nat → PV → Value → Prop
  | v {n : Nat} {x : Value} (h : plain x = true) : RepI μ Av H n (.v x) x
  | sl0 {n c : Nat} (h : c < 9223372036854775808) : RepI μ Av H n (.sl 0 []) (.slice none 0 c)
  | sl9 {n i o k : Nat} : RepI μ Av H n (.sl 0 []) (.slice (some ⟨i, o, some k⟩) 0 0)
  | sl {n m c b o : Nat} {cs : List PV} {cs' : List Value} (h1 : m ≤ c) (h2 : c < 9223372036854775808) (h3 : ¬ Av b) (h4 : b < H.length) (h5 : cs.length = cs'.length) (h6 : cs' = [] ∨ rds H b o cs'.length = some cs')
      (h7 : (kdAt H b).spare = none ∨ ∃ sz, (kdAt H b).spare = some sz ∧ cs.length = m * sz) (h8 : ∀ (i : Nat) (x : PV) (y : Value), cs[i]? = some x → cs'[i]? = some y → RepI μ Av H 0 x y) : RepI μ Av H n (.sl m cs) (.slice (some ⟨b, o, none⟩) m c)
  | ep {n b o : Nat} {cs : List PV} {cs' : List Value} (h3 : ¬ Av b) (h4 : b < H.length) (h5 : cs.length = cs'.length) (h6 : rds H b o cs'.length = some cs')
      (h8 : ∀ (i : Nat) (x : PV) (y : Value), cs[i]? = some x → cs'[i]? = some y → RepI μ Av H 0 x y) : RepI μ Av H n (.ep cs) (.pointer (some ⟨b, o, none⟩))
  | agg {n : Nat} {cs : List PV} {a : Array Value} (h5 : cs.length = a.size) (h8 : ∀ (i : Nat) (x : PV) (y : Value), cs[i]? = some x → a[i]? = some y → RepI μ Av H n x y) : RepI μ Av H n (.agg cs) (.agg a)
  | tup {n : Nat} {cs : List PV} {a : Array Value} (h5 : cs.length = a.size) (h8 : ∀ (i : Nat) (x : PV) (y : Value), cs[i]? = some x → a[i]? = some y → RepI μ Av H n x y) : RepI μ Av H n (.tup cs) (.tuple a)
  | fn {n f : Nat} {cs : List PV} {a : Array Value} (h5 : cs.length = a.size) (h8 : ∀ (i : Nat) (x : PV) (y : Value), cs[i]? = some x → a[i]? = some y → RepI μ Av H n x y) : RepI μ Av H n (.fn f cs) (.func (.func f) #[] a)
  | ptr {n i o : Nat} (h : i < n) : RepI μ Av H n (.ptr i o) (.pointer (some ⟨μ i, o, none⟩))
  | row {n i o m c : Nat} (h : i < n) (h1 : m ≤ c) (h2 : c < 9223372036854775808) : RepI μ Av H n (.row i o m c) (.slice (some ⟨μ i, o, none⟩) m c)
abbrev RepV (μ : Nat → Nat) (n : Nat) (Av : Nat → Prop) (H : Heap) (p : PV) (v : Value) : Prop := RepI μ Av H n p v
def RepL (μ : Nat → Nat) (n : Nat) (Av : Nat → Prop) (H : Heap) (l : List PV) (l' : List Value) : Prop :=
  l.length = l'.length ∧ ∀ (i : Nat) (x : PV) (y : Value), l[i]? = some x → l'[i]? = some y → RepV μ n Av H x y

/-- Rows that no value may share: those of others, and those of the store that are not final. -/
def Av (A : Nat → Prop) (μ : Nat → Nat) (n : Nat) (st : St) (b : Nat) : Prop := A b ∨ ∃ i, i < n ∧ μ i = b ∧ (st i).fz = false
/-- The store stands in the heap. -/
structure Sim (A : Nat → Prop) (μ : Nat → Nat) (n : Nat) (st : St) (H : Heap) : Prop where
  adom : ∀ b, A b → b < H.length
  lt : ∀ i, i < n → μ i < H.length
  notA : ∀ i, i < n → ¬ A (μ i)
  inj : ∀ i j, i < n → j < n → μ i = μ j → i = j
  obj : ∀ i fz kd vr cs, i < n → st i = .cells fz kd vr cs → ∃ cs' e, H[μ i]? = some (.cells cs' e kd vr) ∧ RepL μ n (Av A μ n st) H cs cs'
structure Step (A : Nat → Prop) (μ : Nat → Nat) (n : Nat) (st : St) (H : Heap) (μ' : Nat → Nat) (n' : Nat) (st' : St) (H' : Heap) : Prop where
  le : n ≤ n'
  mu : ∀ i, i < n → μ' i = μ i
  fresh : ∀ i, n ≤ i → i < n' → H.length ≤ μ' i
  len : H.length ≤ H'.length
  out : ∀ b, b < H.length → (∀ i, i < n → μ i ≠ b) → H'[b]? = H[b]?
  pure : ∀ b, b < H.length → ¬ Av A μ n st b → ¬ Av A μ' n' st' b ∧ H'[b]? = H[b]?

/-! ### What code leaves -/
section
variable (T : Tab) (pr : Prims)
/-- A call is answered, over the store. -/
def PAns (t : Tgt) (args : List PV) (st : St) (n : Nat) (Q : PV → St → Nat → Prop) : Prop :=
  ∀ (A : Nat → Prop) (μ : Nat → Nat) (H : Heap) (as : List Value), Sim A μ n st H → RepL μ n (Av A μ n st) H args as →
    Ans T pr t as H fun v H' => ∃ μ' r st' n', Step A μ n st H μ' n' st' H' ∧ Sim A μ' n' st' H' ∧ RepV μ' n' (Av A μ' n' st') H' r v ∧ Q r st' n'
abbrev PQ := PT → St → Nat → Prop
abbrev PQE := Ex → PT → St → Nat → Prop
/-- On with an answer. -/
def pGo (o : Option (PV × St × Nat)) (d : Option Nat) (keep : List X) (pt : PT) (st : St) (K : PQ) : Prop :=
  match o with
  | some (v, st', n') => keepP pt st st' keep ∧ K (pput pt d v) st' n'
  | none => False
def pCall (o : Option (Tgt × List PV)) (d : Option Nat) (keep : List X) (pt : PT) (st : St) (n : Nat) (K : PQ) : Prop :=
  match o with
  | some (t, as) => PAns T pr t as st n fun v st' n' => keepP pt st st' keep ∧ K (pput pt d v) st' n'
  | none => False
def pGuard (c : PV) (b : Bool) (X Y : Prop) : Prop :=
  match c with
  | .v (.bool b') => if b' = b then X else Y
  | _ => False
def pOp (o : MOp) (d : Option Nat) (keep : List X) (pt : PT) (st : St) (n : Nat) (K : PQ) : Prop :=
  match o with
  | .call f args => pCall T pr (ptgt (pev pt f) (args.map (pev pt))) d keep pt st n K
  | o => pGo (pop (pev pt) st n o) d keep pt st K
def Vos : List MO → PQ → PQ
  | [], Q => Q
  | ⟨d, op, none, keep⟩ :: r, Q => fun pt st n => pOp T pr op d keep pt st n (Vos r Q)
  | ⟨d, op, some (t, b), keep⟩ :: r, Q => fun pt st n => pGuard (pt t) b (pOp T pr op d keep pt st n (Vos r Q)) (Vos r Q (pput pt d pundef) st n)
def pIte (c : PV) (X Y : Prop) : Prop :=
  match c with
  | .v (.bool b) => if b = true then X else Y
  | _ => False
def pThen (K : PQ) (Q : PQE) : PQE
  | .normal => K
  | .exit i => Q (.exit i)
  | .ret => Q .ret
def pBlk (id : Nat) (Q : PQE) : PQE
  | .normal => Q .normal
  | .exit i => if i = id then Q .normal else Q (.exit i)
  | .ret => Q .ret
def pRound (I : Nat → PQ) (k : Nat) (Q : PQE) : PQE
  | .normal => fun pt st n => ∃ k', k' < k ∧ I k' pt st n
  | .exit i => Q (.exit i)
  | .ret => Q .ret
def V : MCode → PQE → PQ
  | .skip, Q => Q .normal
  | .reg ops, Q => Vos T pr ops (Q .normal)
  | .dreg _ ops, Q => Vos T pr ops (Q .normal)
  | .seq a b, Q => V a (pThen (V b Q) Q)
  | .ite x a b, Q => fun pt st n => pIte (pev pt x) (V a Q pt st n) (V b Q pt st n)
  | .blk id c, Q => V c (pBlk id Q)
  | .loop c, Q => fun pt st n => ∃ (I : Nat → PQ) (k : Nat), I k pt st n ∧ ∀ k pt st n, I k pt st n → V c (pRound I k Q) pt st n
  | .exit i, Q => Q (.exit i)
  | .ret, Q => Q .ret
  | .rangeF _ _ _ _, _ => fun _ _ _ => False
end

/-! ### Which code is taken: its constants are plain, and its temporaries within -/
def okX : X → Bool
  | .c v => plain v
  | _ => true
def okO : Option X → Bool
  | some x => okX x
  | none => true
def okOp : MOp → Bool
  | .mv x => okX x
  | .pick c a b => okX c && okX a && okX b
  | .new _ _ => true
  | .box _ x => okX x
  | .build _ ps => ps.all fun p => okX p.2.2
  | .lit _ _ ps _ => ps.all fun p => okX p.2.2
  | .ld a => okX a
  | .lds _ a => okX a
  | .st _ a x => okX a && okX x
  | .chk x => okX x
  | .bin _ x y => okX x && okX y
  | .eq _ _ x y => okX x && okX y
  | .not x => okX x
  | .neg x => okX x
  | .cvt _ x => okX x
  | .bytes _ x => okX x
  | .fld _ x => okX x
  | .flds _ _ x => okX x
  | .fa _ x => okX x
  | .ia _ x i => okX x && okX i
  | .ix x i => okX x && okX i
  | .sl _ x lo hi mx => okX x && okO lo && okO hi && okO mx
  | .sls x lo hi => okX x && okO lo && okO hi
  | .mk _ _ _ _ l c => okX l && okX c
  | .iface _ x => okX x
  | .ext x _ => okX x
  | .fn _ caps => caps.all okX
  | .call f args => okX f && args.all okX
  | .app _ _ _ _ s x => okX s && okX x
  | .appz _ _ _ _ s x => okX s && okX x
  | .cpy _ d s => okX d && okX s
  | .len x => okX x
  | .slen x => okX x
  | .cap x => okX x
  | .max2 x y => okX x && okX y
  | .clr _ x => okX x
  | .bad => true
def okMO (N : Nat) (o : MO) : Bool := okOp o.op && (match o.dst with | some d => decide (d < N) | none => true) && o.keep.all okX
def okC (N : Nat) : MCode → Bool
  | .skip => true
  | .reg ops => ops.all (okMO N)
  | .dreg _ ops => ops.all (okMO N)
  | .seq a b => okC N a && okC N b
  | .ite x a b => okX x && okC N a && okC N b
  | .blk _ c => okC N c
  | .loop c => okC N c
  | .exit _ => true
  | .ret => true
  | .rangeF _ _ _ _ => true
end Dm
end
section
set_option linter.unusedVariables false
set_option linter.unusedSimpArgs false
namespace Dm
open Go
variable {T : Tab} {pr : Prims} {μ μ' μ'' : Nat → Nat} {n n' n'' : Nat} {A B : Nat → Prop} {H H' H'' : Heap} {st st' st'' : St} {p : PV} {v : Value}

theorem RepV.mono {A' : Nat → Prop} (hμ : ∀ i, i < n → μ' i = μ i) (hn : n ≤ n') (hA : ∀ b, b < H.length → ¬ A b → ¬ A' b ∧ H'[b]? = H[b]?) (hl : H.length ≤ H'.length) (h : RepV μ n A H p v) : RepV μ' n' A' H' p v := by
  have hr : ∀ b o k, b < H.length → ¬ A b → rds H' b o k = rds H b o k := fun b o k hb hb2 => by
    unfold rds; rw [(hA b hb hb2).2]
  have hk : ∀ b, b < H.length → ¬ A b → kdAt H' b = kdAt H b := fun b hb hb2 => by
    unfold kdAt; rw [(hA b hb hb2).2]
  unfold RepV at h ⊢
  induction h generalizing n' with
  | v h => exact .v h
  | sl0 h => exact .sl0 h
  | sl9 => exact .sl9
  | sl h1 h2 h3 h4 h5 h6 h7 _ h8 => exact .sl h1 h2 (hA _ h4 h3).1 (Nat.lt_of_lt_of_le h4 hl) h5 (by rw [hr _ _ _ h4 h3]; exact h6) (by rw [hk _ h4 h3]; exact h7) (fun i x y hx hy => h8 i x y hx hy (fun i hi => absurd hi (Nat.not_lt_zero i)) (Nat.le_refl 0))
  | ep h3 h4 h5 h6 _ h8 => exact .ep (hA _ h4 h3).1 (Nat.lt_of_lt_of_le h4 hl) h5 (by rw [hr _ _ _ h4 h3]; exact h6) (fun i x y hx hy => h8 i x y hx hy (fun i hi => absurd hi (Nat.not_lt_zero i)) (Nat.le_refl 0))
  | agg h5 _ h8 => exact .agg h5 (fun i x y hx hy => h8 i x y hx hy hμ hn)
  | tup h5 _ h8 => exact .tup h5 (fun i x y hx hy => h8 i x y hx hy hμ hn)
  | fn h5 _ h8 => exact .fn h5 (fun i x y hx hy => h8 i x y hx hy hμ hn)
  | ptr h => rw [← hμ _ h]; exact .ptr (Nat.lt_of_lt_of_le h hn)
  | row h h1 h2 => rw [← hμ _ h]; exact .row (Nat.lt_of_lt_of_le h hn) h1 h2
/-- What holds no address of the store stands in any store. -/
theorem RepV.up (h : RepV μ 0 A H p v) : RepV μ' n A H p v := h.mono (fun i hi => absurd hi (Nat.not_lt_zero i)) (Nat.zero_le n) (fun b hb hx => ⟨hx, rfl⟩) (Nat.le_refl _)
theorem RepL.mono {A' : Nat → Prop} (hμ : ∀ i, i < n → μ' i = μ i) (hn : n ≤ n') (hA : ∀ b, b < H.length → ¬ A b → ¬ A' b ∧ H'[b]? = H[b]?) (hl : H.length ≤ H'.length) {l : List PV} {l' : List Value} (h : RepL μ n A H l l') : RepL μ' n' A' H' l l' :=
  ⟨h.1, fun i x y hx hy => (h.2 i x y hx hy).mono hμ hn hA hl⟩
theorem RepV.step (h : RepV μ n (Av A μ n st) H p v) (s : Step A μ n st H μ' n' st' H') : RepV μ' n' (Av A μ' n' st') H' p v := h.mono s.mu s.le s.pure s.len
theorem RepL.up {l : List PV} {l' : List Value} (h : RepL μ 0 A H l l') : RepL μ' n A H l l' := ⟨h.1, fun i x y hx hy => (h.2 i x y hx hy).up⟩
theorem RepL.step {l : List PV} {l' : List Value} (h : RepL μ n (Av A μ n st) H l l') (s : Step A μ n st H μ' n' st' H') : RepL μ' n' (Av A μ' n' st') H' l l' := h.mono s.mu s.le s.pure s.len
theorem Step.refl (A : Nat → Prop) (μ : Nat → Nat) (n : Nat) (st : St) (H : Heap) : Step A μ n st H μ n st H :=
  ⟨Nat.le_refl _, fun _ _ => rfl, fun i h1 h2 => by omega, Nat.le_refl _, fun _ _ _ => rfl, fun _ _ h => ⟨h, rfl⟩⟩
theorem Step.trans (s : Step A μ n st H μ' n' st' H') (k : Step A μ' n' st' H' μ'' n'' st'' H'') : Step A μ n st H μ'' n'' st'' H'' where
  le := Nat.le_trans s.le k.le
  mu i hi := (k.mu i (Nat.lt_of_lt_of_le hi s.le)).trans (s.mu i hi)
  fresh i h1 h2 := by
    by_cases h : i < n'
    · rw [k.mu i h]; exact s.fresh i h1 h
    · exact Nat.le_trans s.len (k.fresh i (by omega) h2)
  len := Nat.le_trans s.len k.len
  out b hb hx := by
    refine (k.out b (Nat.lt_of_lt_of_le hb s.len) fun i hi e => ?_).trans (s.out b hb hx)
    by_cases h : i < n
    · rw [s.mu i h] at e; exact hx i h e
    · have := s.fresh i (by omega) hi; omega
  pure b hb hx := by
    obtain ⟨h1, h2⟩ := s.pure b hb hx
    obtain ⟨h3, h4⟩ := k.pure b (Nat.lt_of_lt_of_le hb s.len) h1
    exact ⟨h3, h4.trans h2⟩

/-! ### Lists -/
theorem RepL.nil : RepL μ n A H [] [] := ⟨rfl, fun i x y h => by simp at h⟩
theorem RepL.cons {l : List PV} {l' : List Value} (h : RepV μ n A H p v) (hl : RepL μ n A H l l') : RepL μ n A H (p :: l) (v :: l') := by
  refine ⟨by simp [hl.1], fun i x y hx hy => ?_⟩
  cases i with
  | zero => simp at hx hy; subst hx; subst hy; exact h
  | succ i => simp at hx hy; exact hl.2 i x y hx hy
theorem RepL.get {l : List PV} {l' : List Value} (h : RepL μ n A H l l') {i : Nat} {x : PV} (hx : l[i]? = some x) : ∃ y, l'[i]? = some y ∧ RepV μ n A H x y := by
  have hi : i < l'.length := by rw [← h.1]; exact (List.getElem?_eq_some_iff.1 hx).1
  exact ⟨l'[i], List.getElem?_eq_getElem hi, h.2 i x _ hx (List.getElem?_eq_getElem hi)⟩
theorem RepL.append {l k : List PV} {l' k' : List Value} (h : RepL μ n A H l l') (h2 : RepL μ n A H k k') : RepL μ n A H (l ++ k) (l' ++ k') := by
  refine ⟨by simp [h.1, h2.1], fun i x y hx hy => ?_⟩
  rw [List.getElem?_append] at hx hy
  rw [h.1] at hx
  split at hx
  · rename_i hi; rw [if_pos hi] at hy; exact h.2 i x y hx hy
  · rename_i hi; rw [if_neg hi] at hy; exact h2.2 _ x y hx hy
theorem RepL.take {l : List PV} {l' : List Value} (h : RepL μ n A H l l') (k : Nat) : RepL μ n A H (l.take k) (l'.take k) := by
  refine ⟨by simp [h.1], fun i x y hx hy => ?_⟩
  rw [List.getElem?_take] at hx hy
  split at hx
  · rename_i hi; rw [if_pos hi] at hy; exact h.2 i x y hx hy
  · simp at hx
theorem RepL.drop {l : List PV} {l' : List Value} (h : RepL μ n A H l l') (k : Nat) : RepL μ n A H (l.drop k) (l'.drop k) := by
  refine ⟨by simp [h.1], fun i x y hx hy => ?_⟩
  rw [List.getElem?_drop] at hx hy
  exact h.2 _ x y hx hy
theorem RepL.plain {z : List Value} (hz : z.all plain = true) : RepL μ n A H (z.map .v) z := by
  refine ⟨by simp, fun i x y hx hy => ?_⟩
  rw [List.getElem?_map, hy] at hx
  simp at hx
  subst hx
  exact .v (List.all_eq_true.1 hz _ (List.mem_of_getElem? hy))
theorem zeros_plain {z : List Value} (hz : z.all plain = true) : ∀ k, (zeros z k).all plain = true
  | 0 => rfl
  | k + 1 => by simp only [zeros, List.all_append, hz, zeros_plain hz k, Bool.and_self]
theorem RepV.pcells (h : RepV μ n A H p v) : RepL μ n A H (pcells p) v.cells.toList := by
  cases h with
  | agg h5 h8 => exact ⟨by simpa [Dm.pcells, Value.cells] using h5, fun i x y hx hy => h8 i x y hx (by simpa [Value.cells] using hy)⟩
  | v h => 
    cases v <;> first | exact RepL.cons (.v h) .nil | (simp [Dm.plain] at h)
  | sl0 h => exact RepL.cons (.sl0 h) .nil
  | sl9 => exact RepL.cons .sl9 .nil
  | sl h1 h2 h3 h4 h5 h6 h7 h8 => exact RepL.cons (.sl h1 h2 h3 h4 h5 h6 h7 h8) .nil
  | ep h3 h4 h5 h6 h8 => exact RepL.cons (.ep h3 h4 h5 h6 h8) .nil
  | tup h5 h8 => exact RepL.cons (.tup h5 h8) .nil
  | fn h5 h8 => exact RepL.cons (.fn h5 h8) .nil
  | ptr h => exact RepL.cons (.ptr h) .nil
  | row h h1 h2 => exact RepL.cons (.row h h1 h2) .nil
theorem RepV.pflat (h : RepV μ n A H p v) : pflat p = flat v := by
  cases h <;> first | rfl | skip
  rename_i h
  cases v <;> first | rfl | (simp [Dm.plain] at h)
theorem RepL.flat {l : List PV} {l' : List Value} (h : RepL μ n A H l l') (hf : l.all Dm.pflat = true) : l'.all Dm.flat = true := by
  rw [List.all_eq_true] at hf ⊢
  intro y hy
  obtain ⟨i, hi⟩ := List.mem_iff_getElem?.1 hy
  have hi1 : i < l.length := by rw [h.1]; exact (List.getElem?_eq_some_iff.1 hi).1
  rw [← (h.2 i _ y (List.getElem?_eq_getElem hi1) hi).pflat]
  exact hf _ (List.getElem_mem hi1)

/-! ### The store's steps -/
theorem Av.alloc {A : Nat → Prop} {m : Nat} {o : Obj} {b : Nat} (hb : b ≠ m) (h : ¬ Av A μ n st b) : ¬ Av A (upd μ n m) (n + 1) (upd st n o) b := by
  rintro (q | ⟨i, hi, e, hf⟩)
  · exact h (.inl q)
  · by_cases hin : i = n
    · subst hin
      rw [upd_same] at e
      exact hb e.symm
    · rw [upd_ne hin] at e
      rw [upd_ne hin] at hf
      exact h (.inr ⟨i, by omega, e, hf⟩)
/-- A new row. -/
theorem Sim.alloc (hS : Sim A μ n st H) {cs : List PV} {cs' : List Value} (hc : RepL μ n (Av A μ n st) H cs cs') (fz : Bool) (kd : Kd) (e : Nat) :
    Step A μ n st H (upd μ n H.length) (n + 1) (upd st n (.cells fz kd 0 cs)) (H ++ [.cells cs' e kd 0]) ∧ Sim A (upd μ n H.length) (n + 1) (upd st n (.cells fz kd 0 cs)) (H ++ [.cells cs' e kd 0]) := by
  have hs : Step A μ n st H (upd μ n H.length) (n + 1) (upd st n (.cells fz kd 0 cs)) (H ++ [.cells cs' e kd 0]) := by
    refine ⟨Nat.le_succ n, fun i hi => upd_ne (by omega), fun i h1 h2 => ?_, by simp, fun b hb _ => List.getElem?_append_left hb, fun b hb h => ⟨Av.alloc (by omega) h, List.getElem?_append_left hb⟩⟩
    have : i = n := by omega
    subst this
    rw [upd_same]
    exact Nat.le_refl _
  refine ⟨hs, ⟨fun b hb => by have := hS.adom b hb; simp; omega, fun i hi => ?_, fun i hi => ?_, fun i j hi hj hij => ?_, fun i fz' kd' vr cs2 hi ho => ?_⟩⟩
  · by_cases h : i = n
    · subst h; rw [upd_same]; simp
    · rw [upd_ne h]; have := hS.lt i (by omega); simp; omega
  · by_cases h : i = n
    · subst h; rw [upd_same]; intro q; have := hS.adom _ q; omega
    · rw [upd_ne h]; exact hS.notA i (by omega)
  · by_cases h : i = n
    · by_cases h2 : j = n
      · omega
      · subst h
        rw [upd_same, upd_ne h2] at hij
        have := hS.lt j (by omega)
        omega
    · by_cases h2 : j = n
      · subst h2
        rw [upd_same, upd_ne h] at hij
        have := hS.lt i (by omega)
        omega
      · rw [upd_ne h, upd_ne h2] at hij
        exact hS.inj i j (by omega) (by omega) hij
  · by_cases h : i = n
    · subst h
      rw [upd_same] at ho ⊢
      cases ho
      exact ⟨cs', e, by simp, hc.step hs⟩
    · rw [upd_ne h] at ho ⊢
      obtain ⟨c2, e2, h1, h2⟩ := hS.obj i _ _ _ _ (by omega) ho
      exact ⟨c2, e2, by rw [List.getElem?_append_left (hS.lt i (by omega))]; exact h1, h2.step hs⟩
/-- A row is written, or given up. -/
theorem Sim.set (hS : Sim A μ n st H) {i : Nat} (hi : i < n) (hf : (st i).fz = false) (o : Obj) (ho : o.fz = false) (a : AObj)
    (h : ∀ fz kd vr cs, o = .cells fz kd vr cs → ∃ cs' e, a = .cells cs' e kd vr ∧ RepL μ n (Av A μ n st) H cs cs') :
    Step A μ n st H μ n (upd st i o) (H.set (μ i) a) ∧ Sim A μ n (upd st i o) (H.set (μ i) a) := by
  have hav : ∀ b, ¬ Av A μ n st b → ¬ Av A μ n (upd st i o) b := by
    rintro b hb (q | ⟨j, hj, e, hf2⟩)
    · exact hb (.inl q)
    · refine hb (.inr ⟨j, hj, e, ?_⟩)
      by_cases h : j = i
      · subst h; exact hf
      · rw [upd_ne h] at hf2; exact hf2
  have hs : Step A μ n st H μ n (upd st i o) (H.set (μ i) a) := by
    refine ⟨Nat.le_refl _, fun _ _ => rfl, fun i h1 h2 => by omega, by simp, fun b hb hx => ?_, fun b hb hx => ⟨hav b hx, ?_⟩⟩
    · rw [List.getElem?_set_ne (hx i hi)]
    · rw [List.getElem?_set_ne]
      rintro e
      exact hx (.inr ⟨i, hi, e, hf⟩)
  refine ⟨hs, ⟨fun b hb => by have := hS.adom b hb; simpa using this, fun j hj => by have := hS.lt j hj; simpa using this, hS.notA, hS.inj, fun j fz' kd' vr cs2 hj ho2 => ?_⟩⟩
  by_cases hji : j = i
  · subst hji
    rw [upd_same] at ho2
    obtain ⟨cs', e, rfl, hc⟩ := h _ _ _ _ ho2
    exact ⟨cs', e, by rw [List.getElem?_set_self (hS.lt j hj)], hc.step hs⟩
  · rw [upd_ne hji] at ho2
    obtain ⟨c2, e2, h1, h2⟩ := hS.obj j _ _ _ _ hj ho2
    refine ⟨c2, e2, ?_, h2.step hs⟩
    rw [List.getElem?_set_ne]
    · exact h1
    · intro e
      exact hji (hS.inj j i hj hi e.symm)
/-- A row is final. -/
theorem Sim.freeze (hS : Sim A μ n st H) {i : Nat} {fz : Bool} {kd : Kd} {vr : Nat} {cs : List PV} (ho : st i = .cells fz kd vr cs) :
    Step A μ n st H μ n (upd st i (.cells true kd vr cs)) H ∧ Sim A μ n (upd st i (.cells true kd vr cs)) H := by
  have hav : ∀ b, ¬ Av A μ n st b → ¬ Av A μ n (upd st i (.cells true kd vr cs)) b := by
    rintro b hb (q | ⟨j, hj, e, hf2⟩)
    · exact hb (.inl q)
    · refine hb (.inr ⟨j, hj, e, ?_⟩)
      by_cases h : j = i
      · subst h; rw [upd_same] at hf2; cases hf2
      · rw [upd_ne h] at hf2; exact hf2
  have hs : Step A μ n st H μ n (upd st i (.cells true kd vr cs)) H :=
    ⟨Nat.le_refl _, fun _ _ => rfl, fun i h1 h2 => by omega, Nat.le_refl _, fun _ _ _ => rfl, fun b hb hx => ⟨hav b hx, rfl⟩⟩
  refine ⟨hs, ⟨hS.adom, hS.lt, hS.notA, hS.inj, fun j fz' kd' vr' cs2 hj ho2 => ?_⟩⟩
  by_cases hji : j = i
  · subst hji
    rw [upd_same] at ho2
    cases ho2
    obtain ⟨c2, e2, h1, h2⟩ := hS.obj j _ _ _ _ hj ho
    exact ⟨c2, e2, h1, h2.step hs⟩
  · rw [upd_ne hji] at ho2
    obtain ⟨c2, e2, h1, h2⟩ := hS.obj j _ _ _ _ hj ho2
    exact ⟨c2, e2, h1, h2.step hs⟩

/-! ### Reading and writing -/
theorem Sim.rd (hS : Sim A μ n st H) {i o : Nat} {x : PV} (hi : i < n) (h : prd st i o = some x) : ∃ y, rd H (μ i) o = some y ∧ RepV μ n (Av A μ n st) H x y := by
  unfold prd at h
  split at h
  · rename_i fz kd vr cs ho
    obtain ⟨cs', e, h1, h2⟩ := hS.obj i _ _ _ _ hi ho
    obtain ⟨y, h3, h4⟩ := h2.get h
    exact ⟨y, by simp only [Dm.rd, h1]; exact h3, h4⟩
  · cases h
theorem Sim.rds (hS : Sim A μ n st H) {i o k : Nat} {l : List PV} (hi : i < n) (h : prds st i o k = some l) : ∃ l', rds H (μ i) o k = some l' ∧ RepL μ n (Av A μ n st) H l l' := by
  unfold prds at h
  split at h
  · rename_i fz kd vr cs ho
    obtain ⟨cs', e, h1, h2⟩ := hS.obj i _ _ _ _ hi ho
    split at h
    · rename_i hle
      simp only [Option.some.injEq] at h
      subst h
      exact ⟨(cs'.drop o).take k, by simp only [Dm.rds, h1]; rw [if_pos (by rw [← h2.1]; exact hle)], (h2.drop o).take k⟩
    · cases h
  · cases h
theorem Sim.wr (hS : Sim A μ n st H) {i o : Nat} {vs : List PV} {vs' : List Value} (hi : i < n) (hv : RepL μ n (Av A μ n st) H vs vs') (h : pwr st i o vs = some st') :
    ∃ H', wr H (μ i) o vs' = some H' ∧ Step A μ n st H μ n st' H' ∧ Sim A μ n st' H' := by
  unfold pwr at h
  split at h
  · rename_i kd vr cs ho
    split at h
    · rename_i hw
      simp only [Option.some.injEq] at h
      subst h
      obtain ⟨cs', e, h1, h2⟩ := hS.obj i _ _ _ _ hi ho
      refine ⟨H.set (μ i) (.cells (cs'.take o ++ vs' ++ cs'.drop (o + vs'.length)) e kd (vr + 1)), ?_, ?_⟩
      · simp only [Dm.wr, h1]
        rw [if_pos ⟨hw.1, by rw [← h2.1, ← hv.1]; exact hw.2.1, hv.flat hw.2.2⟩]
      · refine hS.set hi (by rw [ho]; rfl) _ rfl _ fun fz kd' vr' cs2 hq => ?_
        cases hq
        exact ⟨_, e, rfl, by rw [← hv.1]; exact ((h2.take o).append hv).append (h2.drop _)⟩
    · cases h
  · cases h
theorem Sim.kdAt (hS : Sim A μ n st H) {i vr : Nat} {fz : Bool} {kd : Kd} {cs : List PV} (hi : i < n) (ho : st i = .cells fz kd vr cs) : kdAt H (μ i) = kd := by
  obtain ⟨cs', e, h1, h2⟩ := hS.obj i _ _ _ _ hi ho
  simp only [Dm.kdAt, h1]
theorem Sim.ver (hS : Sim A μ n st H) {i k : Nat} (hi : i < n) (h : (st i).ver = some k) : ver H (μ i) = k := by
  cases ho : st i with
  | dead => rw [ho] at h; cases h
  | cells fz kd vr cs =>
    rw [ho] at h
    cases h
    obtain ⟨cs', e, h1, h2⟩ := hS.obj i _ _ _ _ hi ho
    simp only [Dm.ver, h1]
end Dm
end
section
set_option linter.unusedVariables false
set_option linter.unusedSimpArgs false
namespace Dm
open Go
variable {T : Tab} {pr : Prims} {μ μ' μ'' : Nat → Nat} {n n' n'' : Nat} {A B : Nat → Prop} {H H' H'' : Heap} {st st' st'' : St} {p : PV} {v : Value}

/-- What an operation comes to. -/
def Done (A : Nat → Prop) (μ : Nat → Nat) (n : Nat) (st : St) (H : Heap) (o : Option (Value × Heap)) (r : PV) (st' : St) (n' : Nat) : Prop :=
  ∃ v H' μ', o = some (v, H') ∧ Step A μ n st H μ' n' st' H' ∧ Sim A μ' n' st' H' ∧ RepV μ' n' (Av A μ' n' st') H' r v
theorem Done.same (hS : Sim A μ n st H) {o : Option (Value × Heap)} {r : PV} (ho : o = some (v, H)) (h : RepV μ n (Av A μ n st) H r v) : Done A μ n st H o r st n :=
  ⟨v, H, μ, ho, Step.refl _ _ _ _ _, hS, h⟩
theorem plain_binV {op : BinOp} {a b r : Value} (h : binV op a b = some r) : plain r = true := by
  unfold binV at h
  split at h
  · split at h
    · unfold shV at h
      split at h
      · cases h
      · cases h; rfl
    · unfold shV at h
      split at h
      · cases h
      · cases h; rfl
    · split at h
      · unfold intV at h
        split at h
        all_goals first
          | (cases h; done)
          | (cases h; rfl)
          | (split at h <;> first | (cases h; done) | (cases h; rfl))
      · cases h
  · unfold strV at h
    split at h
    all_goals first
      | (cases h; done)
      | (cases h; rfl)
      | (split at h <;> first | (cases h; done) | (cases h; rfl))
  · cases h
theorem Av.undef {μ : Nat → Nat} {n : Nat} {B : Nat → Prop} {H : Heap} : RepV μ n B H pundef undefV := .tup rfl (fun i x y h => by simp at h)

theorem RepV.newRow {H : Heap} {B : Nat → Prop} {b o m c : Nat} (e : b = μ n) (h1 : m ≤ c) (h2 : c < 9223372036854775808) : RepV μ (n + 1) B H (.row n o m c) (.slice (some ⟨b, o, none⟩) m c) := by
  subst e
  exact .row (Nat.lt_succ_self n) h1 h2
theorem RepV.newPtr {H : Heap} {B : Nat → Prop} {b o : Nat} (e : b = μ n) : RepV μ (n + 1) B H (.ptr n o) (.pointer (some ⟨b, o, none⟩)) := by
  subst e
  exact .ptr (Nat.lt_succ_self n)
section
variable (hS : Sim A μ n st H) {ρ : X → PV} {ρ' : X → Value} (hρ : ∀ x, okX x = true → RepV μ n (Av A μ n st) H (ρ x) (ρ' x))
include hS hρ
omit hS in
theorem pparts_ok : ∀ {ps : List (Nat × Nat × X)} {l : List (Nat × List PV)}, (ps.all fun p => okX p.2.2) = true → pparts ρ ps = some l → ∃ l', partsOf ρ' ps = some l' ∧ l.length = l'.length ∧ ∀ (i : Nat) (x : Nat × List PV) (y : Nat × List Value), l[i]? = some x → l'[i]? = some y → x.1 = y.1 ∧ RepL μ n (Av A μ n st) H x.2 y.2
  | [], l, _, h => by
    simp only [pparts, Option.some.injEq] at h
    subst h
    exact ⟨[], rfl, rfl, fun i x y h => by simp at h⟩
  | (o, k, x) :: ps, l, hok, h => by
    simp only [List.all_cons, Bool.and_eq_true] at hok
    simp only [pparts] at h
    split at h
    · rename_i hk
      cases hr : pparts ρ ps with
      | none => rw [hr] at h; cases h
      | some l2 =>
        rw [hr] at h
        simp only [Option.map_some, Option.some.injEq] at h
        subst h
        obtain ⟨l', h1, h2, h3⟩ := pparts_ok hok.2 hr
        have hc := (hρ x hok.1).pcells
        refine ⟨(o, (ρ' x).cells.toList) :: l', ?_, by simp [h2], fun i x y hx hy => ?_⟩
        · simp only [partsOf, h1, Option.map_some]
          rw [if_pos (by have := hc.1; simp only [Array.length_toList] at this; omega)]
        · cases i with
          | zero => simp at hx hy; subst hx; subst hy; exact ⟨rfl, hc⟩
          | succ i => simp at hx hy; exact h3 i x y hx hy
    · cases h
omit hS hρ in
theorem play_ok {B : Nat → Prop} : ∀ {l : List (Nat × List PV)} {l' : List (Nat × List Value)} {z cs : List PV} {z' : List Value}, RepL μ n B H z z' → l.length = l'.length → (∀ (i : Nat) (x : Nat × List PV) (y : Nat × List Value), l[i]? = some x → l'[i]? = some y → x.1 = y.1 ∧ RepL μ n B H x.2 y.2) →
    play z l = some cs → ∃ cs', lay z' l' = some cs' ∧ RepL μ n B H cs cs'
  | [], [], z, cs, z', hz, _, _, h => by
    simp only [play, Option.some.injEq] at h
    subst h
    exact ⟨z', rfl, hz⟩
  | [], _ :: _, _, _, _, _, hl, _, _ => by simp at hl
  | _ :: _, [], _, _, _, _, hl, _, _ => by simp at hl
  | (o, vs) :: l, (o', vs') :: l', z, cs, z', hz, hl, hp, h => by
    obtain ⟨e, hv⟩ := hp 0 _ _ rfl rfl
    simp only at e hv
    subst e
    simp only [play] at h
    split at h
    · rename_i hle
      obtain ⟨cs', h1, h2⟩ := play_ok (z' := z'.take o ++ vs' ++ z'.drop (o + vs'.length)) (by rw [← hv.1]; exact ((hz.take o).append hv).append (hz.drop _)) (by simpa using hl) (fun i x y hx hy => hp (i + 1) x y (by simpa using hx) (by simpa using hy)) h
      refine ⟨cs', ?_, h2⟩
      simp only [lay]
      rw [if_pos (by rw [← hv.1, ← hz.1]; exact hle)]
      exact h1
    · cases h
omit hS in
theorem pbnd_ok {x : Option X} {d y r : Nat} (hok : okO x = true) (h : pbnd x ρ d y = some r) : bnd x ρ' d y = some r ∧ (x.isSome = true → r ≤ y) ∧ (x = none → r = d) := by
  cases x with
  | none => simp only [pbnd] at h; exact ⟨h, fun h => by simp at h, fun _ => by simpa using h.symm⟩
  | some x =>
    have hx := hρ x hok
    simp only [pbnd, bnd] at h ⊢
    split at h
    · rename_i k i e
      rw [e] at hx
      generalize ρ' x = v at hx
      cases hx
      simp only
      refine ⟨h, fun _ => ?_, fun h => by cases h⟩
      split at h
      · simp only [Option.some.injEq] at h; omega
      · cases h
    · cases h
omit hρ in
theorem psrc_ok {size : Nat} {m : Nat} {new : List PV} (hv : RepV μ n (Av A μ n st) H p v) (h : psrc st size p = some (m, new)) (hlen : new.length = m * size) : lenV v = some m ∧ ∃ new', srcCells H size m v = some new' ∧ RepL μ n (Av A μ n st) H new new' ∧ new'.length = m * size := by
  cases hv with
  | v hp =>
    cases v <;> first | (simp [psrc] at h; done) | skip
    · rename_i s
      simp only [psrc] at h
      split at h
      · rename_i e
        subst e
        simp only [Option.some.injEq, Prod.mk.injEq] at h
        obtain ⟨rfl, rfl⟩ := h
        refine ⟨rfl, s.data.toList.map fun b => .int .u8 b.toNat, ?_, ⟨by simp, fun i x y hx hy => ?_⟩, by simpa using hlen⟩
        · have hx : (s.extract 0 s.size).data.toList = s.data.toList := by simp
          simp only [srcCells, hx]
        · rw [List.getElem?_map] at hx hy
          cases hb : s.data.toList[i]? with
          | none => rw [hb] at hx; simp at hx
          | some b => rw [hb] at hx hy; simp at hx hy; subst hx; subst hy; exact .v rfl
      · cases h
    · rename_i a l c
      cases a with
      | some a => simp [Dm.plain] at hp
      | none =>
        cases l with
        | succ l => simp [Dm.plain] at hp
        | zero =>
          cases c with
          | succ c => simp [Dm.plain] at hp
          | zero =>
            simp only [psrc, Option.some.injEq, Prod.mk.injEq] at h
            obtain ⟨rfl, rfl⟩ := h
            exact ⟨rfl, [], rfl, .nil, by simp⟩
  | sl0 hc =>
    simp only [psrc] at h
    split at h
    · simp only [Option.some.injEq, Prod.mk.injEq] at h
      obtain ⟨rfl, rfl⟩ := h
      exact ⟨rfl, [], rfl, .nil, by simp⟩
    · cases h
  | sl9 =>
    simp only [psrc] at h
    split at h
    · simp only [Option.some.injEq, Prod.mk.injEq] at h
      obtain ⟨rfl, rfl⟩ := h
      exact ⟨rfl, [], rfl, .nil, by simp⟩
    · cases h
  | sl h1 h2 h3 h4 h5 h6 h7 h8 =>
    rename_i m' c b o cs cs'
    simp only [psrc] at h
    split at h
    · rename_i hz
      simp only [Option.some.injEq, Prod.mk.injEq] at h
      obtain ⟨rfl, rfl⟩ := h
      refine ⟨rfl, cs', ?_, RepL.up ⟨h5, h8⟩, by rw [← h5]; exact hz⟩
      simp only [srcCells]
      split
      · rename_i hz2
        have : cs' = [] := List.eq_nil_of_length_eq_zero (by rw [← h5, hz, hz2])
        rw [this]
      · rename_i hz2
        rcases h6 with h6 | h6
        · subst h6; rw [hz] at h5; exact absurd (by simpa using h5) hz2
        · rw [← hz, h5]; exact h6
    · cases h
  | row hi h1 h2 =>
    simp only [psrc] at h
    split at h
    · rename_i hz
      simp only [Option.some.injEq, Prod.mk.injEq] at h
      obtain ⟨rfl, rfl⟩ := h
      exact ⟨rfl, [], by simp only [srcCells, hz, if_true], .nil, by simp [hz]⟩
    · rename_i hz
      cases hr : prds st _ _ (_ * size) with
      | none => rw [hr] at h; cases h
      | some l =>
        rw [hr] at h
        simp only [Option.map_some, Option.some.injEq, Prod.mk.injEq] at h
        obtain ⟨rfl, rfl⟩ := h
        obtain ⟨l', q1, q2⟩ := hS.rds hi hr
        refine ⟨rfl, l', ?_, q2, by rw [← q2.1]; exact hlen⟩
        simp only [srcCells, hz, if_false]
        exact q1
  | _ => simp [psrc] at h
omit hρ in
/-- An append. -/
theorem papp_ok {size bytes e m : Nat} {new : List PV} {new' : List Value} {r : PV} (hs : RepV μ n (Av A μ n st) H p v) (hn : RepL μ n (Av A μ n st) H new new') (h : papp st n size bytes p m new = some (r, st', n')) : Done A μ n st H (appV H e size bytes v m new') r st' n' := by
  cases hs with
  | v hp =>
    cases v <;> first | (simp [papp] at h; done) | skip
    rename_i a l c
    cases a with
    | some a => simp [Dm.plain] at hp
    | none =>
      cases l with
      | succ l => simp [Dm.plain] at hp
      | zero =>
        cases c with
        | succ c => simp [Dm.plain] at hp
        | zero =>
          simp only [papp] at h
          split at h
          · rename_i hm
            subst hm
            split at h
            · rename_i hnil
              subst hnil
              have hnil' : new' = [] := List.eq_nil_of_length_eq_zero hn.1.symm
              subst hnil'
              simp only [Option.some.injEq, Prod.mk.injEq] at h
              obtain ⟨rfl, rfl, rfl⟩ := h
              exact Done.same hS (v := .slice none 0 0) (by simp [appV]) (.v rfl)
            · cases h
          · rename_i hm
            split at h
            · rename_i hb
              simp only [Option.some.injEq, Prod.mk.injEq] at h
              obtain ⟨rfl, rfl, rfl⟩ := h
              obtain ⟨h1, h2⟩ := hS.alloc hn false (.loose size) e
              refine ⟨.slice (some ⟨H.length, 0, none⟩) m m, _, _, ?_, h1, h2, ?_⟩
              · simp only [appV, Nat.zero_add]
                rw [if_neg (by omega), if_pos ⟨hb.1, trivial⟩]
              · exact .newRow (upd_same _ _ _).symm (Nat.le_refl m) hb.2
            · cases h
  | row hi h1 h2 =>
    rename_i i o len cap
    simp only [papp] at h
    split at h
    · rename_i hle
      split at h
      · rename_i hnil
        subst hnil
        have hnil' : new' = [] := List.eq_nil_of_length_eq_zero hn.1.symm
        subst hnil'
        simp only [Option.some.injEq, Prod.mk.injEq] at h
        obtain ⟨rfl, rfl, rfl⟩ := h
        refine Done.same hS (v := .slice (some ⟨μ i, o, none⟩) (len + m) cap) ?_ (.row hi hle h2)
        simp only [appV, if_true]
        rw [if_pos hle]
      · rename_i hnil
        have hnil' : ¬ new' = [] := fun e => hnil (List.eq_nil_of_length_eq_zero (by rw [hn.1, e]; rfl))
        cases hw : pwr st i (o + len * size) new with
        | none => rw [hw] at h; cases h
        | some st2 =>
          rw [hw] at h
          simp only [Option.map_some, Option.some.injEq, Prod.mk.injEq] at h
          obtain ⟨rfl, rfl, rfl⟩ := h
          obtain ⟨H2, q1, q2, q3⟩ := hS.wr hi hn hw
          refine ⟨.slice (some ⟨μ i, o, none⟩) (len + m) cap, H2, μ, ?_, q2, q3, .row hi hle h2⟩
          simp only [appV]
          rw [if_pos hle, if_neg hnil', q1]
          rfl
    · rename_i hle
      split at h
      · rename_i hb
        cases ho : st i with
        | dead => rw [ho] at h; cases h
        | cells fz kd vr cs =>
          rw [ho] at h
          simp only at h
          split at h
          · rename_i hin
            obtain ⟨cs', e', q1, q2⟩ := hS.obj i _ _ _ _ hi ho
            have hold : rds H (μ i) o (len * size) = some ((cs'.drop o).take (len * size)) := by
              simp only [Dm.rds, q1]
              rw [if_pos (by rw [← q2.1]; exact hin)]
            have hcat : RepL μ n (Av A μ n st) H ((cs.drop o).take (len * size) ++ new) ((cs'.drop o).take (len * size) ++ new') := ((q2.drop o).take _).append hn
            have hkd := hS.kdAt hi ho
            split at h
            · rename_i hsp
              simp only [Option.some.injEq, Prod.mk.injEq] at h
              obtain ⟨rfl, rfl, rfl⟩ := h
              obtain ⟨z1, z2⟩ := hS.alloc hcat false (.loose size) e
              refine ⟨.slice (some ⟨H.length, 0, none⟩) (len + m) (len + m), _, _, ?_, z1, z2, ?_⟩
              · simp only [appV]
                rw [if_neg hle, if_pos hb.1, hold, hkd]
                simp only [hsp]
              · exact .newRow (upd_same _ _ _).symm (Nat.le_refl _) hb.2
            · rename_i sz hsp
              split at h
              · rename_i hc
                simp only [Option.some.injEq, Prod.mk.injEq] at h
                obtain ⟨rfl, rfl, rfl⟩ := h
                obtain ⟨hc1, hc2, hc3⟩ := hc
                obtain ⟨k1, k2⟩ := hS.set hi (by rw [ho]; exact hc3) .dead rfl (.dead (ver H (μ i) + 1)) (fun _ _ _ _ q => by cases q)
                obtain ⟨z1, z2⟩ := k2.alloc (hcat.step k1) false (.loose size) e
                have hkl : (kill H (μ i)).length = H.length := by simp [kill]
                refine ⟨.slice (some ⟨H.length, 0, none⟩) (len + m) (len + m), _, _, ?_, k1.trans z1, z2, ?_⟩
                · simp only [appV]
                  rw [if_neg hle, if_pos hb.1, hold, hkd]
                  simp only [hsp]
                  rw [if_pos ⟨hc1, hn.flat hc2⟩]
                  rfl
                · exact .newRow (by rw [upd_same, List.length_set]) (Nat.le_refl _) hb.2
              · cases h
          · cases h
      · cases h
  | _ => simp [papp] at h

omit hS hρ in
theorem eqInts_ok {xs ys : List PV} {a b : Array Value} (ha : ∀ (i : Nat) (x : PV) (y : Value), xs[i]? = some x → a[i]? = some y → RepV μ n (Av A μ n st) H x y) (hb : ∀ (i : Nat) (x : PV) (y : Value), ys[i]? = some x → b[i]? = some y → RepV μ n (Av A μ n st) H x y) (la : xs.length = a.size) (lb : ys.length = b.size) :
    ∀ {offs : List Nat} {r : Bool}, peq.pints xs ys offs = some r → eqInts a b offs = some r
  | [], r, h => h
  | o :: offs, r, h => by
    simp only [peq.pints] at h
    split at h
    · rename_i k x k' y e1 e2
      have g1 : o < a.size := by rw [← la]; exact (List.getElem?_eq_some_iff.1 e1).1
      have g2 : o < b.size := by rw [← lb]; exact (List.getElem?_eq_some_iff.1 e2).1
      have r1 := ha o _ a[o] e1 (Array.getElem?_eq_getElem g1)
      have r2 := hb o _ b[o] e2 (Array.getElem?_eq_getElem g2)
      have s1 : a[o]? = some (.int k x) := by
        rw [Array.getElem?_eq_getElem g1]
        generalize a[o] = z at r1
        cases r1; rfl
      have s2 : b[o]? = some (.int k' y) := by
        rw [Array.getElem?_eq_getElem g2]
        generalize b[o] = z at r2
        cases r2; rfl
      simp only [eqInts, s1, s2]
      split at h
      · rename_i hk
        rw [if_pos hk]
        split at h
        · rename_i hxy
          rw [if_pos hxy]
          exact eqInts_ok ha hb la lb h
        · rename_i hxy
          rw [if_neg hxy]
          exact h
      · cases h
    · cases h
end
theorem RepV.not_nil {μ : Nat → Nat} {n : Nat} {B : Nat → Prop} {H : Heap} {x : PV} {y : Value} (h : RepV μ n B H x y) {k : Value} (e : x = .v k) : y = k ∧ plain k = true := by
  subst e
  cases h with
  | v hp => exact ⟨rfl, hp⟩
theorem array_drop_take {a : Array Value} {off k : Nat} : (a.extract off (off + k)).toList = (a.toList.drop off).take k := by
  simp
theorem rds_sub {b o k d m : Nat} {cs : List Value} (h : rds H b o k = some cs) (hd : d + m ≤ k) : rds H b (o + d) m = some ((cs.drop d).take m) := by
  unfold rds at h ⊢
  split at h
  · rename_i all e kd vr hb
    split at h
    · rename_i hin
      simp only [Option.some.injEq] at h
      subst h
      rw [if_pos (by omega), List.drop_take, List.drop_drop, List.take_take]
      congr 2
      omega
    · cases h
  · cases h
theorem psub_ok {B : Nat → Prop} {cs : List PV} {cs' : List Value} {j size b o : Nat} {l : List PV} (hc : RepL μ n B H cs cs') (h6 : cs' = [] ∨ rds H b o cs'.length = some cs') (hsz : 0 < size) (h : psub cs j size = some l) :
    ∃ l', rds H b (o + j * size) l'.length = some l' ∧ RepL μ n B H l l' ∧ l'.length = size := by
  unfold psub at h
  split at h
  · rename_i hle
    simp only [Option.some.injEq] at h
    subst h
    have hlen := hc.1
    have hle' : j * size + size ≤ cs'.length := by rw [← hlen]; rw [Nat.add_mul, Nat.one_mul] at hle; exact hle
    refine ⟨(cs'.drop (j * size)).take size, ?_, (hc.drop _).take _, by simp; omega⟩
    rcases h6 with h6 | h6
    · subst h6
      simp at hle'
      omega
    · have hl : ((cs'.drop (j * size)).take size).length = size := by simp; omega
      rw [hl]
      exact rds_sub h6 (by omega)
  · cases h
theorem rds_len {b o k : Nat} {cs : List Value} (h : rds H b o k = some cs) : cs.length = k := by
  unfold rds at h
  split at h
  · split at h
    · rename_i hin
      simp only [Option.some.injEq] at h
      subst h
      simp
      omega
    · cases h
  · cases h

/-- An operation is right. -/
theorem pop_ok (hS : Sim A μ n st H) {ρ : X → PV} {ρ' : X → Value} (hρ : ∀ x, okX x = true → RepV μ n (Av A μ n st) H (ρ x) (ρ' x)) {op : MOp} (hok : okOp op = true) {r : PV} (h : pop ρ st n op = some (r, st', n')) : Done A μ n st H (opV ρ' H op) r st' n' := by
  cases op with
  | mv x =>
    simp only [pop, Option.some.injEq, Prod.mk.injEq] at h
    obtain ⟨rfl, rfl, rfl⟩ := h
    exact Done.same hS rfl (hρ x hok)
  | pick c a b =>
    simp only [okOp, Bool.and_eq_true] at hok
    simp only [pop] at h
    split at h
    · rename_i t e
      simp only [Option.some.injEq, Prod.mk.injEq] at h
      obtain ⟨rfl, rfl, rfl⟩ := h
      obtain ⟨q, _⟩ := (hρ c hok.1.1).not_nil e
      refine Done.same (v := if t = true then ρ' a else ρ' b) hS (by simp only [opV, q]) ?_
      cases t
      · exact hρ b hok.2
      · exact hρ a hok.1.2
    · cases h
  | new z e =>
    simp only [pop] at h
    split at h
    · rename_i hz
      simp only [Option.some.injEq, Prod.mk.injEq] at h
      obtain ⟨rfl, rfl, rfl⟩ := h
      obtain ⟨h1, h2⟩ := hS.alloc (RepL.plain hz) false .fix e
      exact ⟨_, _, _, rfl, h1, h2, .newPtr (upd_same _ _ _).symm⟩
    · cases h
  | box e x =>
    simp only [pop, Option.some.injEq, Prod.mk.injEq] at h
    obtain ⟨rfl, rfl, rfl⟩ := h
    obtain ⟨h1, h2⟩ := hS.alloc (hρ x hok).pcells false .fix e
    exact ⟨_, _, _, rfl, h1, h2, .newPtr (upd_same _ _ _).symm⟩
  | build z ps =>
    simp only [pop] at h
    split at h
    · rename_i hz
      split at h
      · rename_i l hl
        obtain ⟨l', q1, q2, q3⟩ := pparts_ok hρ hok hl
        cases hp : play (z.map .v) l with
        | none => rw [hp] at h; cases h
        | some cs =>
          rw [hp] at h
          simp only [Option.map_some, Option.some.injEq, Prod.mk.injEq] at h
          obtain ⟨rfl, rfl, rfl⟩ := h
          obtain ⟨cs', q4, q5⟩ := play_ok (RepL.plain hz) q2 q3 hp
          exact Done.same (v := .agg cs'.toArray) hS (by simp only [opV, q1, q4, Option.map_some]) (.agg (by simpa using q5.1) (fun i x y hx hy => q5.2 i x y hx (by simpa using hy)))
      · cases h
    · cases h
  | lit e z ps len =>
    simp only [pop] at h
    split at h
    · rename_i hz
      split at h
      · rename_i l hl
        obtain ⟨l', q1, q2, q3⟩ := pparts_ok hρ hok hl
        cases hp : play ((zeros z len).map .v) l with
        | none => rw [hp] at h; cases h
        | some cs =>
          rw [hp] at h
          simp only [Option.map_some, Option.some.injEq, Prod.mk.injEq] at h
          obtain ⟨rfl, rfl, rfl⟩ := h
          obtain ⟨cs', q4, q5⟩ := play_ok (RepL.plain (zeros_plain hz.1 len)) q2 q3 hp
          obtain ⟨h1, h2⟩ := hS.alloc q5 false .fix e
          exact ⟨_, _, _, by simp only [opV, q1, q4, Option.map_some], h1, h2, .newRow (upd_same _ _ _).symm (Nat.le_refl _) hz.2⟩
      · cases h
    · cases h
  | ld a =>
    simp only [pop] at h
    have ha := hρ a hok
    split at h
    · rename_i i o e
      rw [e] at ha
      simp only [opV]
      generalize ρ' a = v at ha
      cases ha with
      | ptr hi =>
        cases hr : prd st i o with
        | none => rw [hr] at h; cases h
        | some x =>
          rw [hr] at h
          simp only [Option.map_some, Option.some.injEq, Prod.mk.injEq] at h
          obtain ⟨rfl, rfl, rfl⟩ := h
          obtain ⟨y, h1, h2⟩ := hS.rd hi hr
          exact Done.same hS (by simp only [h1, Option.map_some]) h2
    · rename_i x l e
      rw [e] at ha
      simp only [opV]
      generalize ρ' a = v at ha
      simp only [Option.some.injEq, Prod.mk.injEq] at h
      obtain ⟨rfl, rfl, rfl⟩ := h
      cases ha with
      | ep h3 h4 h5 h6 h8 =>
        rename_i b o cs'
        cases cs' with
        | nil => simp at h5
        | cons y cs' =>
          have := rds_rd h6 (j := 0) (v := y) rfl
          exact Done.same hS (by simp only [Nat.add_zero] at this; simp only [this, Option.map_some]) (RepV.up (h8 0 _ y rfl rfl))
    · cases h
  | lds k a =>
    simp only [pop] at h
    have ha := hρ a hok
    split at h
    · rename_i i o e
      rw [e] at ha
      simp only [opV]
      generalize ρ' a = v at ha
      cases ha with
      | ptr hi =>
        cases hr : prds st i o k with
        | none => rw [hr] at h; cases h
        | some x =>
          rw [hr] at h
          simp only [Option.map_some, Option.some.injEq, Prod.mk.injEq] at h
          obtain ⟨rfl, rfl, rfl⟩ := h
          obtain ⟨y, h1, h2⟩ := hS.rds hi hr
          exact Done.same (v := .agg y.toArray) hS (by simp only [h1, Option.map_some]) (.agg (by simpa using h2.1) (fun i x y hx hy => h2.2 i x y hx (by simpa using hy)))
    · rename_i cs e
      rw [e] at ha
      simp only [opV]
      generalize ρ' a = v at ha
      split at h
      · rename_i hk
        simp only [Option.some.injEq, Prod.mk.injEq] at h
        obtain ⟨rfl, rfl, rfl⟩ := h
        cases ha with
        | ep h3 h4 h5 h6 h8 =>
          rename_i b o cs'
          have hr := rds_sub h6 (d := 0) (m := k) (by omega)
          simp only [Nat.add_zero, List.drop_zero] at hr
          have hl : RepL μ n (Av A μ n st) H (cs.take k) (cs'.take k) := RepL.take (RepL.up ⟨h5, h8⟩) k
          exact Done.same (v := .agg (cs'.take k).toArray) hS (by simp only [hr, Option.map_some]) (.agg (by simpa using hl.1) (fun i x y hx hy => hl.2 i x y hx (by simpa using hy)))
      · cases h
    · cases h
  | st k a x =>
    simp only [okOp, Bool.and_eq_true] at hok
    simp only [pop] at h
    have ha := hρ a hok.1
    have hx := (hρ x hok.2).pcells
    split at h
    · rename_i i o e
      rw [e] at ha
      split at h
      · rename_i hk
        cases hw : pwr st i o (pcells (ρ x)) with
        | none => rw [hw] at h; cases h
        | some st2 =>
          rw [hw] at h
          simp only [Option.map_some, Option.some.injEq, Prod.mk.injEq] at h
          obtain ⟨rfl, rfl, rfl⟩ := h
          simp only [opV]
          generalize ρ' a = v at ha
          cases ha with
          | ptr hi =>
            obtain ⟨H2, q1, q2, q3⟩ := hS.wr hi hx hw
            have hsz : (ρ' x).cells.size = k := by have := hx.1; simp only [Array.length_toList] at this; omega
            exact ⟨undefV, H2, μ, by simp only [hsz, if_true, q1, Option.map_some], q2, q3, Av.undef⟩
      · cases h
    · cases h
  | chk x =>
    simp only [pop] at h
    have hx := hρ x hok
    simp only [opV]
    split at h
    · rename_i e
      rw [e] at hx
      simp only [Option.some.injEq, Prod.mk.injEq] at h
      obtain ⟨rfl, rfl, rfl⟩ := h
      generalize ρ' x = v at hx
      cases hx with
      | ptr hi => exact Done.same hS rfl (.ptr hi)
    · rename_i e
      rw [e] at hx
      simp only [Option.some.injEq, Prod.mk.injEq] at h
      obtain ⟨rfl, rfl, rfl⟩ := h
      generalize ρ' x = v at hx
      cases hx with
      | ep h3 h4 h5 h6 h8 => exact Done.same hS rfl (.ep h3 h4 h5 h6 h8)
    · rename_i e
      rw [e] at hx
      simp only [Option.some.injEq, Prod.mk.injEq] at h
      obtain ⟨rfl, rfl, rfl⟩ := h
      generalize ρ' x = v at hx
      cases hx with
      | fn h5 h8 => exact Done.same hS rfl (.fn h5 h8)
    · cases h
  | bin op x y =>
    simp only [okOp, Bool.and_eq_true] at hok
    simp only [pop] at h
    split at h
    · rename_i a b e1 e2
      obtain ⟨q1, _⟩ := (hρ x hok.1).not_nil e1
      obtain ⟨q2, _⟩ := (hρ y hok.2).not_nil e2
      cases hb : binV op a b with
      | none => rw [hb] at h; cases h
      | some r2 =>
        rw [hb] at h
        simp only [Option.map_some, Option.some.injEq, Prod.mk.injEq] at h
        obtain ⟨rfl, rfl, rfl⟩ := h
        exact Done.same hS (by simp only [opV, q1, q2, hb, Option.map_some]) (.v (plain_binV hb))
    · cases h
  | eq neq k x y =>
    simp only [okOp, Bool.and_eq_true] at hok
    simp only [pop] at h
    have hx := hρ x hok.1
    have hy := hρ y hok.2
    cases hp : peq k (ρ x) (ρ y) with
    | none => rw [hp] at h; cases h
    | some b =>
      rw [hp] at h
      simp only [Option.map_some, Option.some.injEq, Prod.mk.injEq] at h
      obtain ⟨rfl, rfl, rfl⟩ := h
      have : eqV k (ρ' x) (ρ' y) = some b := by
        unfold peq at hp
        split at hp
        · rename_i e1 e2
          rw [(hx.not_nil e1).1, (hy.not_nil e2).1]
          exact hp
        · rename_i e1 e2
          rw [(hx.not_nil e1).1, (hy.not_nil e2).1]
          exact hp
        · rename_i e1 e2
          rw [e1] at hx
          rw [(hy.not_nil e2).1]
          generalize ρ' x = v at hx
          cases hx
          exact hp
        · rename_i e1 e2
          rw [e1] at hx
          rw [(hy.not_nil e2).1]
          generalize ρ' x = v at hx
          cases hx
          exact hp
        · rename_i offs xs ys e1 e2
          rw [e1] at hx
          rw [e2] at hy
          generalize ρ' x = v at hx
          generalize ρ' y = w at hy
          cases hx with
          | agg h5 h8 =>
            cases hy with
            | agg k5 k8 => exact eqInts_ok h8 k8 h5 k5 hp
        · rename_i e1 e2
          rw [(hx.not_nil e1).1, (hy.not_nil e2).1]
          exact hp
        · rename_i e1 e2
          rw [(hx.not_nil e1).1, (hy.not_nil e2).1]
          exact hp
        · cases hp
      refine Done.same (v := .bool (if neq then !b else b)) hS (by simp only [opV, this, Option.map_some]) ?_
      cases neq
      · exact .v rfl
      · exact .v rfl
  | not x =>
    simp only [pop] at h
    split at h
    · rename_i e
      simp only [Option.some.injEq, Prod.mk.injEq] at h
      obtain ⟨rfl, rfl, rfl⟩ := h
      obtain ⟨q, _⟩ := (hρ x hok).not_nil e
      exact Done.same hS (by simp only [opV, q]) (.v rfl)
    · cases h
  | neg x =>
    simp only [pop] at h
    split at h
    · rename_i e
      simp only [Option.some.injEq, Prod.mk.injEq] at h
      obtain ⟨rfl, rfl, rfl⟩ := h
      obtain ⟨q, _⟩ := (hρ x hok).not_nil e
      exact Done.same hS (by simp only [opV, q]) (.v rfl)
    · cases h
  | cvt k x =>
    simp only [pop] at h
    split at h
    · rename_i e
      simp only [Option.some.injEq, Prod.mk.injEq] at h
      obtain ⟨rfl, rfl, rfl⟩ := h
      obtain ⟨q, _⟩ := (hρ x hok).not_nil e
      exact Done.same hS (by simp only [opV, q]) (.v rfl)
    · cases h
  | bytes e x =>
    simp only [pop] at h
    split at h
    · rename_i s e1
      split at h
      · rename_i hs
        simp only [Option.some.injEq, Prod.mk.injEq] at h
        obtain ⟨rfl, rfl, rfl⟩ := h
        obtain ⟨q, _⟩ := (hρ x hok).not_nil e1
        have hz : ((s.data.toList.map fun b => Value.int .u8 b.toNat).all plain) = true := by
          rw [List.all_eq_true]; intro y hy; obtain ⟨b, _, rfl⟩ := List.mem_map.1 hy; rfl
        have hc : RepL μ n (Av A μ n st) H ((s.data.toList.map fun b => .v (.int .u8 b.toNat))) (s.data.toList.map fun b => .int .u8 b.toNat) := by
          have := RepL.plain (μ := μ) (n := n) (A := Av A μ n st) (H := H) hz
          rwa [List.map_map] at this
        obtain ⟨h1, h2⟩ := hS.alloc hc false .rob e
        refine ⟨_, _, _, by simp only [opV, q]; rw [if_pos hs], h1, h2, .newRow (upd_same _ _ _).symm (Nat.le_refl _) (by omega)⟩
      · cases h
    · cases h
  | fld off x =>
    simp only [pop] at h
    have hx := hρ x hok
    split at h
    · rename_i cs e
      rw [e] at hx
      simp only [opV]
      generalize ρ' x = v at hx
      cases hx with
      | agg h5 h8 =>
        rename_i a
        cases hc : cs[off]? with
        | none => rw [hc] at h; cases h
        | some z =>
          rw [hc] at h
          simp only [Option.map_some, Option.some.injEq, Prod.mk.injEq] at h
          obtain ⟨rfl, rfl, rfl⟩ := h
          have hlt : off < a.size := by rw [← h5]; exact (List.getElem?_eq_some_iff.1 hc).1
          exact Done.same hS (by simp only [Array.getElem?_eq_getElem hlt, Option.map_some]) (h8 off _ _ hc (Array.getElem?_eq_getElem hlt))
    · cases h
  | flds off k x =>
    simp only [pop] at h
    have hx := hρ x hok
    split at h
    · rename_i cs e
      rw [e] at hx
      simp only [opV]
      generalize ρ' x = v at hx
      simp only [Option.some.injEq, Prod.mk.injEq] at h
      obtain ⟨rfl, rfl, rfl⟩ := h
      cases hx with
      | agg h5 h8 =>
        rename_i a
        have hl : RepL μ n (Av A μ n st) H ((cs.drop off).take k) ((a.toList.drop off).take k) := RepL.take (RepL.drop ⟨by simpa using h5, fun i x y hx hy => h8 i x y hx (by simpa using hy)⟩ off) k
        rw [← array_drop_take] at hl
        exact Done.same hS rfl (.agg (hl.1.trans Array.length_toList) (fun i x y hx hy => hl.2 i x y hx (by rw [Array.getElem?_toList]; exact hy)))
    · cases h
  | fa off x =>
    simp only [pop] at h
    have hx := hρ x hok
    simp only [opV]
    split at h
    · rename_i e
      rw [e] at hx
      simp only [Option.some.injEq, Prod.mk.injEq] at h
      obtain ⟨rfl, rfl, rfl⟩ := h
      generalize ρ' x = v at hx
      cases hx with
      | ptr hi => exact Done.same hS rfl (.ptr hi)
    · rename_i cs e
      rw [e] at hx
      split at h
      · rename_i hlt
        simp only [Option.some.injEq, Prod.mk.injEq] at h
        obtain ⟨rfl, rfl, rfl⟩ := h
        generalize ρ' x = v at hx
        cases hx with
        | ep h3 h4 h5 h6 h8 =>
          rename_i b o cs'
          have hl : RepL μ 0 (Av A μ n st) H (cs.drop off) (cs'.drop off) := RepL.drop ⟨h5, h8⟩ off
          have hr := rds_sub h6 (d := off) (m := cs'.length - off) (by omega)
          rw [List.take_of_length_le (by simp)] at hr
          refine Done.same hS rfl (.ep h3 h4 hl.1 ?_ hl.2)
          rw [List.length_drop]
          exact hr
      · cases h
    · cases h
  | ia size x i =>
    simp only [okOp, Bool.and_eq_true] at hok
    simp only [pop] at h
    have hx := hρ x hok.1
    have hi := hρ i hok.2
    simp only [opV]
    split at h
    · rename_i m cs k j e1 e2
      rw [e1] at hx
      rw [(hi.not_nil e2).1]
      split at h
      · rename_i hj
        cases hp : psub cs j.toNat size with
        | none => rw [hp] at h; cases h
        | some l =>
          rw [hp] at h
          simp only [Option.map_some, Option.some.injEq, Prod.mk.injEq] at h
          obtain ⟨rfl, rfl, rfl⟩ := h
          generalize ρ' x = v at hx
          cases hx with
          | sl0 hc => omega
          | sl9 => omega
          | sl h1 h2 h3 h4 h5 h6 h7 h8 =>
            obtain ⟨l', q1, q2, q3⟩ := psub_ok ⟨h5, h8⟩ h6 hj.2.2 hp
            refine Done.same hS (by simp only; rw [if_pos ⟨hj.1, hj.2.1⟩]; rfl) (.ep h3 h4 q2.1 q1 q2.2)
      · cases h
    · rename_i b o m c k j e1 e2
      rw [e1] at hx
      rw [(hi.not_nil e2).1]
      split at h
      · rename_i hj
        simp only [Option.some.injEq, Prod.mk.injEq] at h
        obtain ⟨rfl, rfl, rfl⟩ := h
        generalize ρ' x = v at hx
        cases hx with
        | row hi h1 h2 => exact Done.same hS (by simp only; rw [if_pos hj]; rfl) (.ptr hi)
      · cases h
    · cases h
  | ix x i =>
    simp only [okOp, Bool.and_eq_true] at hok
    simp only [pop] at h
    split at h
    · rename_i s k j e1 e2
      obtain ⟨q1, _⟩ := (hρ x hok.1).not_nil e1
      obtain ⟨q2, _⟩ := (hρ i hok.2).not_nil e2
      split at h
      · rename_i hj
        cases hb : s[j.toNat]? with
        | none => rw [hb] at h; cases h
        | some b =>
          rw [hb] at h
          simp only [Option.map_some, Option.some.injEq, Prod.mk.injEq] at h
          obtain ⟨rfl, rfl, rfl⟩ := h
          exact Done.same hS (by simp only [opV, q1, q2]; rw [if_pos hj, hb]; rfl) (.v rfl)
      · cases h
    · cases h
  | sl size x lo hi mx =>
    simp only [okOp, Bool.and_eq_true] at hok
    obtain ⟨⟨⟨ok1, ok2⟩, ok3⟩, ok4⟩ := hok
    simp only [pop] at h
    have hx := hρ x ok1
    simp only [opV]
    split at h
    · rename_i m cs e
      rw [e] at hx
      split at h
      · rename_i hc
        obtain ⟨hmx, hlen, hsz⟩ := hc
        have hmx' : mx = none := by simpa using hmx
        subst hmx'
        split at h
        · cases h
        · rename_i hh eh
          split at h
          · cases h
          · rename_i ll el
            split at h
            · rename_i hlt
              simp only [Option.some.injEq, Prod.mk.injEq] at h
              obtain ⟨rfl, rfl, rfl⟩ := h
              obtain ⟨b1, b2, b3⟩ := pbnd_ok hρ ok3 eh
              obtain ⟨c1, c2, c3⟩ := pbnd_ok hρ ok2 el
              have hhm : hh ≤ m := by
                cases hi with
                | none => have := b3 rfl; omega
                | some x => exact b2 rfl
              have hll : ll ≤ hh := by
                cases lo with
                | none => have := c3 rfl; omega
                | some x => exact c2 rfl
              generalize ρ' x = v at hx
              cases hx with
              | sl0 hc => omega
              | sl9 => omega
              | sl h1 h2 h3 h4 h5 h6 h7 h8 =>
                rename_i c b o cs'
                have hb1 : bnd none ρ' c c = some c := rfl
                have hb2 : bnd hi ρ' m c = some hh := by
                  cases hi with
                  | none => exact b1
                  | some x =>
                    simp only [bnd] at b1 ⊢
                    split at b1
                    · rename_i k i e1
                      split at b1
                      · rename_i hi2
                        rw [if_pos (by omega)]
                        exact b1
                      · cases b1
                    · cases b1
                have hsl : slV H size true (some ⟨b, o, none⟩) hh ll c = some (.slice (some ⟨b, o + ll * size, none⟩) (hh - ll) (c - ll)) := by
                  simp only [slV]
                  rcases h7 with h7 | ⟨sz, h7, h7'⟩
                  · simp only [h7]
                    rw [if_neg (by omega)]
                  · have : sz = size := by
                      rw [hlen] at h7'
                      exact (Nat.eq_of_mul_eq_mul_left (by omega) h7').symm
                    subst this
                    simp only [h7, if_true]
                    rw [if_pos ⟨trivial, by omega, by omega, by omega⟩]
                have hl : RepL μ 0 (Av A μ n st) H ((cs.drop (ll * size)).take ((hh - ll) * size)) ((cs'.drop (ll * size)).take ((hh - ll) * size)) := RepL.take (RepL.drop ⟨h5, h8⟩ _) _
                have hmul : ll * size + (hh - ll) * size ≤ m * size := by rw [← Nat.add_mul]; exact Nat.mul_le_mul_right _ (by omega)
                have hlen2 : ((cs.drop (ll * size)).take ((hh - ll) * size)).length = (hh - ll) * size := by simp; omega
                refine Done.same hS (v := .slice (some ⟨b, o + ll * size, none⟩) (hh - ll) (c - ll)) ?_ (.sl (by omega) (by omega) h3 h4 hl.1 ?_ ?_ hl.2)
                · simp only [hb1, hb2, c1, Option.isNone_none, hsl, Option.map_some]
                · rcases h6 with h6 | h6
                  · left; subst h6; simp
                  · right
                    have := rds_sub h6 (d := ll * size) (m := (hh - ll) * size) (by omega)
                    rw [← hl.1, hlen2]
                    exact this
                · rcases h7 with h7 | ⟨sz, h7, h7'⟩
                  · exact .inl h7
                  · refine .inr ⟨sz, h7, ?_⟩
                    rw [hlen] at h7'
                    have : sz = size := (Nat.eq_of_mul_eq_mul_left (by omega) h7').symm
                    rw [hlen2, this]
            · cases h
      · cases h
    · rename_i i o len cap e
      rw [e] at hx
      split at h
      · cases h
      rename_i hsome
      split at h
      · cases h
      · rename_i m em
        split at h
        · cases h
        · rename_i hh eh
          split at h
          · cases h
          · rename_i ll el
            obtain ⟨a1, a2, a3⟩ := pbnd_ok hρ ok4 em
            obtain ⟨b1, b2, b3⟩ := pbnd_ok hρ ok3 eh
            obtain ⟨c1, c2, c3⟩ := pbnd_ok hρ ok2 el
            cases hp : psl st size mx.isNone i o hh ll m with
            | none => rw [hp] at h; cases h
            | some r2 =>
              rw [hp] at h
              simp only [Option.map_some, Option.some.injEq, Prod.mk.injEq] at h
              obtain ⟨rfl, rfl, rfl⟩ := h
              generalize ρ' x = v at hx
              have hhm0 : m ≤ cap → len ≤ cap → hh ≤ m := by
                intro z1 z2
                cases hi with
                | none =>
                  have := b3 rfl
                  cases mx with
                  | none => have := a3 rfl; omega
                  | some x => simp at hsome
                | some x => exact b2 rfl
              cases hx with
              | row hi h1 h2 =>
                have hmc : m ≤ cap := by
                  cases mx with
                  | none => have := a3 rfl; omega
                  | some x => exact a2 rfl
                have hhm : hh ≤ m := hhm0 hmc h1
                simp only [a1, b1, c1]
                unfold psl at hp
                cases ho : st i with
                | dead => rw [ho] at hp; cases hp
                | cells fz kd vr cs =>
                  rw [ho] at hp
                  have hkd := hS.kdAt hi ho
                  simp only at hp
                  simp only [slV, hkd]
                  cases hsp : kd.spare with
                  | none =>
                    simp only [hsp] at hp ⊢
                    split at hp
                    · rename_i e1
                      simp only [Option.some.injEq] at hp
                      subst hp
                      rw [if_pos e1]
                      exact Done.same hS rfl (.row hi (by omega) (by omega))
                    · rename_i e1
                      simp only [Option.some.injEq] at hp
                      subst hp
                      rw [if_neg e1]
                      exact Done.same hS rfl (.row hi (by omega) (by omega))
                  | some sz =>
                    simp only [hsp] at hp ⊢
                    split at hp
                    · rename_i e1
                      rw [if_pos e1]
                      split at hp
                      · rename_i e2
                        simp only [Option.some.injEq] at hp
                        subst hp
                        rw [if_pos e2]
                        exact Done.same hS rfl (.row hi (by omega) (by omega))
                      · cases hp
                    · rename_i e1
                      rw [if_neg e1]
                      split at hp
                      · rename_i e2
                        simp only [Option.some.injEq] at hp
                        subst hp
                        rw [if_pos e2]
                        exact Done.same hS rfl (.row hi (by omega) (by omega))
                      · rename_i e2
                        simp only [Option.some.injEq] at hp
                        subst hp
                        rw [if_neg e2]
                        exact Done.same hS rfl (.row hi (by omega) (by omega))
    · rename_i e
      rw [(hx.not_nil e).1]
      split at h
      · cases h
      · rename_i m em
        split at h
        · cases h
        · rename_i hh eh
          split at h
          · cases h
          · rename_i ll el
            obtain ⟨a1, a2, a3⟩ := pbnd_ok hρ ok4 em
            obtain ⟨b1, b2, b3⟩ := pbnd_ok hρ ok3 eh
            obtain ⟨c1, c2, c3⟩ := pbnd_ok hρ ok2 el
            simp only [Option.some.injEq, Prod.mk.injEq] at h
            obtain ⟨rfl, rfl, rfl⟩ := h
            have hm0 : m = 0 := by
              cases mx with
              | none => exact a3 rfl
              | some x => have := a2 rfl; omega
            have hh0 : hh = 0 := by
              cases hi with
              | none => exact b3 rfl
              | some x => have := b2 rfl; omega
            subst hm0
            subst hh0
            refine Done.same hS (v := .slice none 0 0) ?_ (.v rfl)
            simp only [a1, b1, c1, slV, Option.map_some, Nat.zero_sub]
    · cases h
  | sls x lo hi =>
    simp only [okOp, Bool.and_eq_true] at hok
    simp only [pop] at h
    split at h
    · rename_i s e
      split at h
      · cases h
      · rename_i hh eh
        split at h
        · cases h
        · rename_i ll el
          simp only [Option.some.injEq, Prod.mk.injEq] at h
          obtain ⟨rfl, rfl, rfl⟩ := h
          exact Done.same hS (by simp only [opV, ((hρ x hok.1.1).not_nil e).1, (pbnd_ok hρ hok.2 eh).1, (pbnd_ok hρ hok.1.2 el).1]) (.v rfl)
    · cases h
  | mk e size bytes z len cap =>
    simp only [okOp, Bool.and_eq_true] at hok
    simp only [pop] at h
    split at h
    · rename_i l c e1 e2
      split at h
      · rename_i hc
        simp only [Option.some.injEq, Prod.mk.injEq] at h
        obtain ⟨rfl, rfl, rfl⟩ := h
        obtain ⟨h1, h2⟩ := hS.alloc (RepL.plain (zeros_plain hc.1 c.toNat)) false .fix e
        refine ⟨_, _, _, by simp only [opV, ((hρ _ hok.1).not_nil e1).1, ((hρ _ hok.2).not_nil e2).1]; rw [if_pos hc.2], h1, h2, .newRow (upd_same _ _ _).symm (by omega) (by omega)⟩
      · cases h
    · cases h
  | iface t x =>
    simp only [pop] at h
    split at h
    · rename_i a e
      simp only [Option.some.injEq, Prod.mk.injEq] at h
      obtain ⟨rfl, rfl, rfl⟩ := h
      obtain ⟨q1, q2⟩ := (hρ x hok).not_nil e
      exact Done.same hS (by simp only [opV, q1]) (.v q2)
    · cases h
  | ext x i =>
    simp only [pop] at h
    have hx := hρ x hok
    split at h
    · rename_i cs e
      rw [e] at hx
      simp only [opV]
      generalize ρ' x = v at hx
      cases hx with
      | tup h5 h8 =>
        rename_i a
        cases hc : cs[i]? with
        | none => rw [hc] at h; cases h
        | some z =>
          rw [hc] at h
          simp only [Option.map_some, Option.some.injEq, Prod.mk.injEq] at h
          obtain ⟨rfl, rfl, rfl⟩ := h
          have hlt : i < a.size := by rw [← h5]; exact (List.getElem?_eq_some_iff.1 hc).1
          exact Done.same hS (by simp only [Array.getElem?_eq_getElem hlt, Option.map_some]) (h8 i _ _ hc (Array.getElem?_eq_getElem hlt))
    · cases h
  | fn f caps =>
    simp only [okOp, List.all_eq_true] at hok
    simp only [pop, Option.some.injEq, Prod.mk.injEq] at h
    obtain ⟨rfl, rfl, rfl⟩ := h
    refine Done.same hS (v := .func (.func f) #[] (caps.map ρ').toArray) rfl (.fn (by simp) fun i x y hx hy => ?_)
    rw [List.getElem?_map] at hx
    simp only [List.getElem?_toArray, List.getElem?_map] at hy
    cases hc : caps[i]? with
    | none => rw [hc] at hx; cases hx
    | some c =>
      rw [hc] at hx hy
      simp only [Option.map_some, Option.some.injEq] at hx hy
      subst hx
      subst hy
      exact hρ c (hok c (List.mem_of_getElem? hc))
  | app e size bytes z s x =>
    simp only [okOp, Bool.and_eq_true] at hok
    simp only [pop] at h
    split at h
    · rename_i m new hs
      split at h
      · rename_i hl
        obtain ⟨q1, new', q2, q3, q4⟩ := psrc_ok hS (hρ x hok.2) hs hl
        have := papp_ok hS (e := e) (hρ s hok.1) q3 h
        simp only [opV, q1, q2, q4, if_true]
        exact this
      · cases h
    · cases h
  | cap x =>
    simp only [pop] at h
    have hx := hρ x hok
    simp only [opV]
    split at h
    · rename_i e
      simp only [Option.some.injEq, Prod.mk.injEq] at h
      obtain ⟨rfl, rfl, rfl⟩ := h
      rw [(hx.not_nil e).1]
      exact Done.same hS rfl (.v rfl)
    · rename_i i o m c e
      rw [e] at hx
      generalize ρ' x = v at hx
      cases hx with
      | row hi h1 h2 =>
        cases ho : st i with
        | dead => rw [ho] at h; cases h
        | cells fz kd vr cs =>
          rw [ho] at h
          simp only at h
          have hkd := hS.kdAt hi ho
          split at h
          · rename_i hsp
            simp only [Option.some.injEq, Prod.mk.injEq] at h
            obtain ⟨rfl, rfl, rfl⟩ := h
            exact Done.same hS (by simp only [hkd, hsp]) (.v rfl)
          · cases h
    · cases h
  | appz e size bytes z s x =>
    simp only [okOp, Bool.and_eq_true] at hok
    simp only [pop] at h
    have hs := hρ s hok.1
    split at h
    · rename_i k e1
      split at h
      · rename_i len e2
        split at h
        · rename_i hc
          obtain ⟨hc1, hc2, hc3, hc4, hc5⟩ := hc
          have hl : len0 (ρ' s) = len := by
            unfold plen at e2
            split at e2
            · rename_i e3; rw [e3] at hs; generalize ρ' s = v at hs; cases hs <;> (cases e2; rfl)
            · rename_i e3; rw [e3] at hs; generalize ρ' s = v at hs; cases hs; cases e2; rfl
            · rename_i e3; rw [(hs.not_nil e3).1]; cases e2; rfl
            · cases e2
          have := papp_ok hS (e := e) hs (RepL.plain (zeros_plain hc1 k.toNat)) h
          simp only [opV, ((hρ _ hok.2).not_nil e1).1, hl]
          rw [if_pos ⟨hc2, hc3, hc4, hc5⟩]
          exact this
        · cases h
      · cases h
    · cases h
  | cpy size d s =>
    simp only [okOp, Bool.and_eq_true] at hok
    simp only [pop] at h
    have hd := hρ d hok.1
    have hs := hρ s hok.2
    split at h
    · rename_i sl e1
      split at h
      · rename_i i o dl c e2
        rw [e2] at hd
        have hl : lenV (ρ' s) = some sl := by
          unfold plen at e1
          split at e1
          · rename_i e3; rw [e3] at hs; generalize ρ' s = v at hs; cases hs <;> (cases e1; rfl)
          · rename_i e3; rw [e3] at hs; generalize ρ' s = v at hs; cases hs; cases e1; rfl
          · rename_i e3; rw [(hs.not_nil e3).1]; cases e1; rfl
          · cases e1
        have hc : ∀ cells, pcop st size (min sl dl) (ρ s) = some cells → ∃ cells', srcCells H size (min sl dl) (ρ' s) = some cells' ∧ RepL μ n (Av A μ n st) H cells cells' := by
          intro cells hp
          unfold pcop at hp
          split at hp
          · rename_i m cs e3
            rw [e3] at hs
            split at hp
            · rename_i hz
              simp only [Option.some.injEq] at hp
              subst hp
              generalize ρ' s = v at hs
              cases hs with
              | sl0 h0 => exact ⟨[], rfl, by simpa using RepL.nil⟩
              | sl9 =>
                have : min sl dl = 0 := by omega
                rw [this]
                exact ⟨[], rfl, by simpa using RepL.nil⟩
              | sl h1 h2 h3 h4 h5 h6 h7 h8 =>
                rename_i c' b o' cs'
                simp only [srcCells]
                split
                · rename_i h0; rw [h0]; exact ⟨[], rfl, by simpa using RepL.nil⟩
                · rename_i h0
                  have hle : min sl dl * size ≤ cs'.length := by rw [← h5, hz.1]; exact Nat.mul_le_mul_right _ hz.2
                  rcases h6 with h6 | h6
                  · subst h6; simp at hle; omega
                  · have := rds_sub h6 (d := 0) (m := min sl dl * size) (by omega)
                    simp only [Nat.add_zero, List.drop_zero] at this
                    exact ⟨_, this, RepL.take (RepL.up ⟨h5, h8⟩) _⟩
            · cases hp
          · rename_i i' o' m' c' e3
            rw [e3] at hs
            generalize ρ' s = v at hs
            cases hs with
            | row hi h1 h2 =>
              simp only [srcCells]
              split at hp
              · rename_i h0
                cases hp
                rw [if_pos h0]
                exact ⟨[], rfl, .nil⟩
              · rename_i h0
                rw [if_neg h0]
                exact hS.rds hi hp
          · rename_i e3
            rw [(hs.not_nil e3).1]
            cases hp
            exact ⟨[], rfl, .nil⟩
          · cases hp
        simp only [opV, hl]
        generalize ρ' d = v at hd
        cases hd with
        | row hi h1 h2 =>
          simp only
          split at h
          · rename_i hp
            simp only [Option.some.injEq, Prod.mk.injEq] at h
            obtain ⟨rfl, rfl, rfl⟩ := h
            obtain ⟨cells', q1, q2⟩ := hc _ hp
            have : cells' = [] := List.eq_nil_of_length_eq_zero q2.1.symm
            subst this
            exact Done.same hS (by simp only [q1, cpyH, if_true, Option.map_some]) (.v rfl)
          · rename_i c0 cs0 hp
            cases hw : pwr st i o (c0 :: cs0) with
            | none => rw [hw] at h; cases h
            | some st2 =>
              rw [hw] at h
              simp only [Option.map_some, Option.some.injEq, Prod.mk.injEq] at h
              obtain ⟨rfl, rfl, rfl⟩ := h
              obtain ⟨cells', q1, q2⟩ := hc _ hp
              obtain ⟨H2, z1, z2, z3⟩ := hS.wr hi q2 hw
              have hne : ¬ cells' = [] := fun e => by rw [e] at q2; have := q2.1; simp at this
              exact ⟨_, H2, μ, by simp only [q1, cpyH, if_neg hne, z1, Option.map_some], z2, z3, .v rfl⟩
          · cases h
      · cases h
    · cases h
  | clr z x =>
    simp only [pop] at h
    have hx := hρ x hok
    split at h
    · rename_i i o m c e
      rw [e] at hx
      split at h
      · rename_i hz
        simp only [opV]
        generalize ρ' x = v at hx
        cases hx with
        | row hi h1 h2 =>
          simp only
          split at h
          · rename_i h0
            simp only [Option.some.injEq, Prod.mk.injEq] at h
            obtain ⟨rfl, rfl, rfl⟩ := h
            exact Done.same hS (by rw [if_pos h0]) Av.undef
          · rename_i h0
            cases hw : pwr st i o ((zeros z m).map .v) with
            | none => rw [hw] at h; cases h
            | some st2 =>
              rw [hw] at h
              simp only [Option.map_some, Option.some.injEq, Prod.mk.injEq] at h
              obtain ⟨rfl, rfl, rfl⟩ := h
              obtain ⟨H2, z1, z2, z3⟩ := hS.wr hi (RepL.plain (zeros_plain hz m)) hw
              exact ⟨_, H2, μ, by rw [if_neg h0, z1]; rfl, z2, z3, Av.undef⟩
      · cases h
    · cases h
  | len x =>
    simp only [pop] at h
    have hx := hρ x hok
    simp only [opV]
    split at h
    · rename_i m cs e
      rw [e] at hx
      simp only [Option.some.injEq, Prod.mk.injEq] at h
      obtain ⟨rfl, rfl, rfl⟩ := h
      generalize ρ' x = v at hx
      cases hx <;> exact Done.same hS rfl (.v rfl)
    · rename_i i o m c e
      rw [e] at hx
      simp only [Option.some.injEq, Prod.mk.injEq] at h
      obtain ⟨rfl, rfl, rfl⟩ := h
      generalize ρ' x = v at hx
      cases hx <;> exact Done.same hS rfl (.v rfl)
    · rename_i e
      simp only [Option.some.injEq, Prod.mk.injEq] at h
      obtain ⟨rfl, rfl, rfl⟩ := h
      rw [(hx.not_nil e).1]
      exact Done.same hS rfl (.v rfl)
    · cases h
  | slen x =>
    simp only [pop] at h
    split at h
    · rename_i s e
      simp only [Option.some.injEq, Prod.mk.injEq] at h
      obtain ⟨rfl, rfl, rfl⟩ := h
      exact Done.same hS (by simp only [opV, ((hρ x hok).not_nil e).1]) (.v rfl)
    · cases h
  | max2 x y =>
    simp only [okOp, Bool.and_eq_true] at hok
    simp only [pop] at h
    split at h
    · rename_i k a k' b e1 e2
      simp only [Option.some.injEq, Prod.mk.injEq] at h
      obtain ⟨rfl, rfl, rfl⟩ := h
      exact Done.same hS (by simp only [opV, ((hρ _ hok.1).not_nil e1).1, ((hρ _ hok.2).not_nil e2).1]) (.v rfl)
    · cases h
  | _ => simp [pop] at h
end Dm
end
section
set_option linter.unusedVariables false
set_option linter.unusedSimpArgs false
namespace Dm
open Go
variable {T : Tab} {pr : Prims} {μ μ' μ'' : Nat → Nat} {n n' n'' N : Nat} {A B : Nat → Prop} {H H' H'' : Heap} {st st' st'' : St} {p : PV} {v : Value} {pt : PT} {tm : Tm}

def RepT (N : Nat) (μ : Nat → Nat) (n : Nat) (B : Nat → Prop) (H : Heap) (pt : PT) (tm : Tm) : Prop := N ≤ tm.length ∧ ∀ t, RepV μ n B H (pt t) (tm.getD t undefV)
theorem RepT.step (h : RepT N μ n (Av A μ n st) H pt tm) (s : Step A μ n st H μ' n' st' H') : RepT N μ' n' (Av A μ' n' st') H' pt tm := ⟨h.1, fun t => (h.2 t).step s⟩
theorem RepT.put {d : Option Nat} (h : RepT N μ n B H pt tm) (hd : (match d with | some d => decide (d < N) | none => true) = true) (hv : RepV μ n B H p v) : RepT N μ n B H (pput pt d p) (put tm d v) := by
  cases d with
  | none => exact h
  | some d =>
    simp only [decide_eq_true_eq] at hd
    refine ⟨by simp only [Dm.put, List.length_set]; exact h.1, fun t => ?_⟩
    simp only [Dm.put, pput]
    by_cases e : t = d
    · subst e
      rw [upd_same, List.getD_eq_getElem?_getD, List.getElem?_set_self (by have := h.1; omega)]
      exact hv
    · rw [upd_ne e, List.getD_eq_getElem?_getD, List.getElem?_set_ne (Ne.symm e), ← List.getD_eq_getElem?_getD]
      exact h.2 t
theorem RepT.ev (h : RepT N μ n B H pt tm) (x : X) (hx : okX x = true) : RepV μ n B H (pev pt x) (ev tm x) := by
  cases x with
  | t n => exact h.2 n
  | c v => exact .v hx
  | f n => exact .fn rfl (fun i x y h => by simp at h)
/-- What is left alone. -/
theorem keep_ok (hS : Sim A μ n st H) (hS' : Sim A μ' n' st' H') (s : Step A μ n st H μ' n' st' H') (hT : RepT N μ n (Av A μ n st) H pt tm) : ∀ {keep : List X}, keep.all okX = true → keepP pt st st' keep → keep.all (kept tm H H') = true
  | [], _, _ => rfl
  | x :: keep, hok, h => by
    simp only [List.all_cons, Bool.and_eq_true] at hok ⊢
    refine ⟨?_, keep_ok hS hS' s hT hok.2 h.2⟩
    have hx := hT.ev x hok.1
    have hk := h.1
    have hver : ∀ b, b < H.length → ¬ Av A μ n st b → (decide (b < H.length) && ver H b == ver H' b) = true := fun b h1 h2 => by
      have : ver H' b = ver H b := by simp only [ver, (s.pure b h1 h2).2]
      simp [h1, this]
    have hown : ∀ i, i < n → (st i).ver.isSome = true ∧ (st i).ver = (st' i).ver → (decide (μ i < H.length) && ver H (μ i) == ver H' (μ i)) = true := fun i hi hq => by
      obtain ⟨k, e⟩ := Option.isSome_iff_exists.1 hq.1
      have e1 := hS.ver hi e
      have e2 := hS'.ver (Nat.lt_of_lt_of_le hi s.le) (hq.2 ▸ e)
      rw [s.mu i hi] at e2
      simp [hS.lt i hi, e1, e2]
    unfold kept
    generalize pev pt x = q at hx hk
    generalize ev tm x = y at hx
    cases hx with
    | v hp => cases y <;> first | rfl | skip
              · rename_i a; cases a <;> first | rfl | (simp [Dm.plain] at hp)
              · rename_i a _ _; cases a <;> first | rfl | (simp [Dm.plain] at hp)
    | sl0 _ => rfl
    | sl9 => rfl
    | sl h1 h2 h3 h4 => exact hver _ h4 h3
    | ep h3 h4 => exact hver _ h4 h3
    | agg _ _ => rfl
    | tup _ _ => rfl
    | fn _ _ => rfl
    | ptr hi => exact hown _ hi hk
    | row hi _ _ => exact hown _ hi hk

/-- What is left: a state of the store that stands, and so. -/
def PPost (A : Nat → Prop) (N : Nat) (μ : Nat → Nat) (n : Nat) (st : St) (H : Heap) (Q : PQ) (tm' : Tm) (H' : Heap) : Prop :=
  ∃ μ' pt' st' n', Step A μ n st H μ' n' st' H' ∧ Sim A μ' n' st' H' ∧ RepT N μ' n' (Av A μ' n' st') H' pt' tm' ∧ Q pt' st' n'
theorem PPost.after {Q : PQ} {tm' : Tm} (s : Step A μ n st H μ' n' st' H') (h : PPost A N μ' n' st' H' Q tm' H'') : PPost A N μ n st H Q tm' H'' := by
  obtain ⟨μ2, pt2, st2, n2, h1, h2, h3, h4⟩ := h
  exact ⟨μ2, pt2, st2, n2, s.trans h1, h2, h3, h4⟩
theorem opC_of {C : CallF} {ρ : X → Value} {op : MOp} (h : ∀ f args, op ≠ .call f args) : opC C ρ H op = opV ρ H op := by
  cases op <;> first | rfl | exact absurd rfl (h _ _)
theorem Vos_ok : ∀ {ops : List MO} {Q : PQ} {pt : PT} {st : St} {n : Nat}, ops.all (okMO N) = true → Vos T pr ops Q pt st n →
    ∀ {A : Nat → Prop} {μ : Nat → Nat} {H : Heap} {tm : Tm}, Sim A μ n st H → RepT N μ n (Av A μ n st) H pt tm → Wos T pr ops (PPost A N μ n st H Q) tm H
  | [], Q, pt, st, n, _, h, A, μ, H, tm, hS, hT => Wos_nil.2 ⟨μ, pt, st, n, Step.refl _ _ _ _ _, hS, hT, h⟩
  | ⟨d, op, g, keep⟩ :: r, Q, pt, st, n, hok, h, A, μ, H, tm, hS, hT => by
    simp only [List.all_cons, Bool.and_eq_true] at hok
    obtain ⟨hok1, hok2⟩ := hok
    have hok1' := hok1
    simp only [okMO, Bool.and_eq_true] at hok1'
    obtain ⟨⟨k1, k2⟩, k3⟩ := hok1'
    have main : pOp T pr op d keep pt st n (Vos T pr r Q) → Wos T pr (⟨d, op, none, keep⟩ :: r) (PPost A N μ n st H Q) tm H := by
      intro h
      by_cases hc : ∃ f args, op = .call f args
      · obtain ⟨f, args, rfl⟩ := hc
        simp only [okOp, Bool.and_eq_true] at k1
        simp only [pOp, pCall] at h
        rw [Wos_call]
        split at h
        · rename_i t as ht
          have hf := hT.ev f k1.1
          unfold ptgt at ht
          split at ht
          · rename_i g caps e
            rw [e] at hf
            simp only [Option.some.injEq, Prod.mk.injEq] at ht
            obtain ⟨rfl, rfl⟩ := ht
            generalize ev tm f = fv at hf
            cases hf with
            | fn h5 h8 =>
              rename_i a
              have hargs : RepL μ n (Av A μ n st) H (args.map (pev pt) ++ caps) (args.map (ev tm) ++ a.toList) := by
                refine RepL.append ⟨by simp, fun i x y hx hy => ?_⟩ ⟨by simpa using h5, fun i x y hx hy => h8 i x y hx (by simpa using hy)⟩
                rw [List.getElem?_map] at hx hy
                cases hz : args[i]? with
                | none => rw [hz] at hx; cases hx
                | some z =>
                  rw [hz] at hx hy
                  simp only [Option.map_some, Option.some.injEq] at hx hy
                  subst hx
                  subst hy
                  exact hT.ev z (List.all_eq_true.1 k1.2 z (List.mem_of_getElem? hz))
              simp only [tgtOf, List.nil_append, wTgt, wCall]
              refine (h A μ H _ hS hargs).mono fun v H' hq => ?_
              obtain ⟨μ', r', st', n', s, hS', hr, hk, hq⟩ := hq
              refine ⟨keep_ok hS hS' s hT k3 hk, ?_⟩
              have := Vos_ok hok2 hq hS' ((hT.step s).put k2 hr)
              obtain ⟨kk, tm', H2, q1, q2⟩ := this
              exact ⟨kk, tm', H2, q1, q2.after s⟩
          · cases ht
        · exact h.elim
      · have hnc : ∀ f args, op ≠ .call f args := fun f args e => hc ⟨f, args, e⟩
        have h2 : pGo (pop (pev pt) st n op) d keep pt st (Vos T pr r Q) := by
          cases op <;> first | exact h | exact absurd rfl (hnc _ _)
        unfold pGo at h2
        split at h2
        · rename_i v st' n' hp
          obtain ⟨v', H', μ', q1, q2, q3, q4⟩ := pop_ok hS (fun x hx => hT.ev x hx) k1 hp
          refine Wos_cons (k := 0) (tm1 := put tm d v') (H1 := H') ?_ ?_
          · simp only [runO, wants, if_true, opC_of hnc, q1, keep_ok hS q3 q2 hT k3 h2.1]
          · obtain ⟨kk, tm', H2, z1, z2⟩ := Vos_ok hok2 h2.2 q3 ((hT.step q2).put k2 q4)
            exact ⟨kk, tm', H2, z1, z2.after q2⟩
        · exact h2.elim
    cases g with
    | none => exact main h
    | some tb =>
      obtain ⟨t, b⟩ := tb
      have h' : pGuard (pt t) b (pOp T pr op d keep pt st n (Vos T pr r Q)) (Vos T pr r Q (pput pt d pundef) st n) := h
      rw [Wos_guard]
      have ht := hT.2 t
      unfold pGuard at h'
      split at h'
      · rename_i b' e
        rw [e] at ht
        have e2 : tm.getD t undefV = .bool b' := by
          generalize tm.getD t undefV = y at ht
          cases ht; rfl
        simp only [guardOf, e2, wIf]
        split at h'
        · rename_i hb
          subst hb
          simp only [beq_self_eq_true]
          exact main h'
        · rename_i hb
          have : (b' == b) = false := by simpa using hb
          simp only [this]
          exact Vos_ok hok2 h' hS (hT.put k2 Av.undef)
      · exact h'.elim

theorem V_ok : ∀ {c : MCode} {Q : PQE} {pt : PT} {st : St} {n : Nat}, okC N c = true → V T pr c Q pt st n →
    ∀ {A : Nat → Prop} {μ : Nat → Nat} {H : Heap} {tm : Tm}, Sim A μ n st H → RepT N μ n (Av A μ n st) H pt tm → W T pr c (fun e tm' H' => PPost A N μ n st H (Q e) tm' H') tm H
  | .skip, Q, pt, st, n, _, h, A, μ, H, tm, hS, hT => W_skip.2 ⟨μ, pt, st, n, Step.refl _ _ _ _ _, hS, hT, h⟩
  | .ret, Q, pt, st, n, _, h, A, μ, H, tm, hS, hT => W_ret.2 ⟨μ, pt, st, n, Step.refl _ _ _ _ _, hS, hT, h⟩
  | .exit i, Q, pt, st, n, _, h, A, μ, H, tm, hS, hT => W_exit.2 ⟨μ, pt, st, n, Step.refl _ _ _ _ _, hS, hT, h⟩
  | .reg ops, Q, pt, st, n, hok, h, A, μ, H, tm, hS, hT => W_reg.2 (Vos_ok hok h hS hT)
  | .dreg _ ops, Q, pt, st, n, hok, h, A, μ, H, tm, hS, hT => W_dreg.2 (Vos_ok hok h hS hT)
  | .seq a b, Q, pt, st, n, hok, h, A, μ, H, tm, hS, hT => by
    simp only [okC, Bool.and_eq_true] at hok
    rw [W_seq]
    refine (V_ok (c := a) hok.1 h hS hT).mono fun e tm' H' hp => ?_
    obtain ⟨μ', pt', st', n', s, hS', hT', hq⟩ := hp
    cases e with
    | normal =>
      refine (V_ok (c := b) hok.2 hq hS' hT').mono fun e tm2 H2 hp => hp.after s
    | exit i => exact ⟨μ', pt', st', n', s, hS', hT', hq⟩
    | ret => exact ⟨μ', pt', st', n', s, hS', hT', hq⟩
  | .ite x a b, Q, pt, st, n, hok, h, A, μ, H, tm, hS, hT => by
    simp only [okC, Bool.and_eq_true] at hok
    rw [W_ite]
    have hx := hT.ev x hok.1.1
    have h' : pIte (pev pt x) (V T pr a Q pt st n) (V T pr b Q pt st n) := h
    unfold pIte at h'
    split at h'
    · rename_i t e
      rw [e] at hx
      generalize ev tm x = y at hx
      cases hx
      cases t
      · exact V_ok (c := b) hok.2 h' hS hT
      · exact V_ok (c := a) hok.1.2 h' hS hT
    · exact h'.elim
  | .blk id c, Q, pt, st, n, hok, h, A, μ, H, tm, hS, hT => by
    rw [W_blk]
    refine (V_ok (c := c) hok h hS hT).mono fun e tm' H' hp => ?_
    obtain ⟨μ', pt', st', n', s, hS', hT', hq⟩ := hp
    cases e with
    | normal => exact ⟨μ', pt', st', n', s, hS', hT', hq⟩
    | ret => exact ⟨μ', pt', st', n', s, hS', hT', hq⟩
    | exit i =>
      simp only [pBlk] at hq
      simp only [InBlk]
      split
      · rename_i e; rw [if_pos e] at hq; exact ⟨μ', pt', st', n', s, hS', hT', hq⟩
      · rename_i e; rw [if_neg e] at hq; exact ⟨μ', pt', st', n', s, hS', hT', hq⟩
  | .loop c, Q, pt, st, n, hok, h, A, μ, H, tm, hS, hT => by
    obtain ⟨I, k, h0, hI⟩ := h
    refine W.loop (fun k tm' H' => PPost A N μ n st H (I k) tm' H') ?_ k tm H ⟨μ, pt, st, n, Step.refl _ _ _ _ _, hS, hT, h0⟩
    rintro k tm' H' ⟨μ', pt', st', n', s, hS', hT', hq⟩
    refine (V_ok (c := c) hok (hI k pt' st' n' hq) hS' hT').mono fun e tm2 H2 hp => ?_
    obtain ⟨μ2, pt2, st2, n2, s2, hS2, hT2, hq2⟩ := hp.after s
    cases e with
    | normal => obtain ⟨k', hk, hq2⟩ := hq2; exact ⟨k', hk, μ2, pt2, st2, n2, s2, hS2, hT2, hq2⟩
    | exit i => exact ⟨μ2, pt2, st2, n2, s2, hS2, hT2, hq2⟩
    | ret => exact ⟨μ2, pt2, st2, n2, s2, hS2, hT2, hq2⟩
  | .rangeF _ _ _ _, Q, pt, st, n, _, h, A, μ, H, tm, hS, hT => h.elim

/-! ### Functions -/
def ofL (l : List PV) : PT := fun t => l.getD t pundef
def presOf (pt : PT) (st : St) : MRes → Option PV
  | .t n => some (pt n)
  | .cell n size => match pt n with
    | .ptr i o => match size with
      | none => prd st i o
      | some k => (prds st i o k).map .agg
    | _ => none
def presAll (pt : PT) (st : St) : List MRes → Option (List PV)
  | [] => some []
  | r :: rs => match presOf pt st r, presAll pt st rs with
    | some v, some vs => some (v :: vs)
    | _, _ => none
def pone (vs : List PV) : PV :=
  match vs with
  | [v] => v
  | vs => .tup vs
def pRes (o : Option (List PV)) (K : PV → Prop) : Prop :=
  match o with
  | some vs => K (pone vs)
  | none => False
/-- A function's end. -/
def pFun (rs : List MRes) (Q : PV → St → Nat → Prop) : PQE
  | .normal => fun pt st n => pRes (presAll pt st rs) fun v => Q v st n
  | .ret => fun pt st n => pRes (presAll pt st rs) fun v => Q v st n
  | .exit _ => fun _ _ _ => False
theorem pres_ok (hS : Sim A μ n st H) (hT : RepT N μ n (Av A μ n st) H pt tm) {r : MRes} {x : PV} (h : presOf pt st r = some x) : ∃ y, resOf tm H r = some y ∧ RepV μ n (Av A μ n st) H x y := by
  cases r with
  | t k =>
    simp only [presOf, Option.some.injEq] at h
    subst h
    exact ⟨_, rfl, hT.2 k⟩
  | cell k size =>
    have hk := hT.2 k
    simp only [presOf] at h
    simp only [resOf]
    split at h
    · rename_i i o e
      rw [e] at hk
      generalize tm.getD k undefV = y at hk
      cases hk with
      | ptr hi =>
        cases size with
        | none => exact hS.rd hi h
        | some s =>
          simp only at h
          cases hr : prds st i o s with
          | none => rw [hr] at h; cases h
          | some l =>
            rw [hr] at h
            simp only [Option.map_some, Option.some.injEq] at h
            subst h
            obtain ⟨l', q1, q2⟩ := hS.rds hi hr
            exact ⟨.agg l'.toArray, by simp only [q1, Option.map_some], .agg (by simpa using q2.1) (fun i x y hx hy => q2.2 i x y hx (by simpa using hy))⟩
    · cases h
theorem presAll_ok (hS : Sim A μ n st H) (hT : RepT N μ n (Av A μ n st) H pt tm) : ∀ {rs : List MRes} {l : List PV}, presAll pt st rs = some l → ∃ l', resAll tm H rs = some l' ∧ RepL μ n (Av A μ n st) H l l'
  | [], l, h => by
    simp only [presAll, Option.some.injEq] at h
    subst h
    exact ⟨[], rfl, .nil⟩
  | r :: rs, l, h => by
    simp only [presAll] at h
    split at h
    · rename_i x xs e1 e2
      simp only [Option.some.injEq] at h
      subst h
      obtain ⟨y, q1, q2⟩ := pres_ok hS hT e1
      obtain ⟨ys, q3, q4⟩ := presAll_ok hS hT e2
      exact ⟨y :: ys, by simp only [resAll, q1, q3], .cons q2 q4⟩
    · cases h
theorem pone_ok {l : List PV} {l' : List Value} (h : RepL μ n B H l l') : RepV μ n B H (pone l) (one l') := by
  obtain ⟨h1, h2⟩ := h
  match l, l', h1, h2 with
  | [x], [y], _, h2 => exact h2 0 x y rfl rfl
  | [], [], _, h2 => exact .tup rfl (fun i x y h => by simp at h)
  | x :: x2 :: l, y :: y2 :: l', h1, h2 => exact .tup (by simpa using h1) (fun i a b ha hb => h2 i a b ha (by simpa using hb))
/-- A function's answer, from its body. -/
theorem PAns.fn {f : Nat} {mf : MFun} {args : List PV} {Q : PV → St → Nat → Prop} (hp : pr f = none) (hT : T f = some mf) (hok : okC mf.ntmps mf.body = true) (h : V T pr mf.body (pFun mf.results Q) (ofL args) st n) : PAns T pr (.fn f) args st n Q := by
  intro A μ H as hS hA
  refine Ans.fn hp hT ?_
  have hT0 : RepT mf.ntmps μ n (Av A μ n st) H (ofL args) (as ++ List.replicate (mf.ntmps - as.length) undefV) := by
    refine ⟨by simp; omega, fun t => ?_⟩
    simp only [ofL]
    rw [List.getD_eq_getElem?_getD, List.getD_eq_getElem?_getD]
    cases hx : args[t]? with
    | some x =>
      obtain ⟨y, hy, hv⟩ := hA.get hx
      rw [List.getElem?_append_left (List.getElem?_eq_some_iff.1 hy).1, hy]
      exact hv
    | none =>
      have : as.length ≤ t := by rw [← hA.1]; exact List.getElem?_eq_none_iff.1 hx
      rw [List.getElem?_append_right this, List.getElem?_replicate]
      split
      · exact Av.undef
      · exact Av.undef
  refine (V_ok hok h hS hT0).mono fun e tm' H' hp => ?_
  obtain ⟨μ', pt', st', n', s, hS', hT', hq⟩ := hp
  have main : pRes (presAll pt' st' mf.results) (fun v => Q v st' n') → ∃ vs, resAll tm' H' mf.results = some vs ∧ ∃ μ' r st' n', Step A μ n st H μ' n' st' H' ∧ Sim A μ' n' st' H' ∧ RepV μ' n' (Av A μ' n' st') H' r (one vs) ∧ Q r st' n' := by
    intro hq
    unfold pRes at hq
    split at hq
    · rename_i vs e
      obtain ⟨l', q1, q2⟩ := presAll_ok hS' hT' e
      exact ⟨l', q1, μ', _, st', n', s, hS', pone_ok q2, hq⟩
    · exact hq.elim
  cases e with
  | normal => exact ⟨fun i e => (nomatch e), main hq⟩
  | ret => exact ⟨fun i e => (nomatch e), main hq⟩
  | exit i => exact hq.elim
end Dm
end
section
set_option linter.unusedVariables false
set_option linter.unusedSimpArgs false
namespace Dm
open Go
variable {T : Tab} {pr : Prims} {μ μ' μ'' : Nat → Nat} {n n' n'' N : Nat} {A B : Nat → Prop} {H H' H'' : Heap} {st st' st'' : St} {p q : PV} {v : Value} {pt : PT} {tm : Tm}

/-- What a value is, the store left behind: rows may be looked through as told. -/
inductive Pur (ok : Nat → Bool → Prop) (st : St) : PV → PV → Prop
  | v (x : Value) : Pur ok st (.v x) (.v x)
  | nil : Pur ok st pnil (.sl 0 [])
  | sl (m : Nat) (cs : List PV) : Pur ok st (.sl m cs) (.sl m cs)
  | ep (cs : List PV) : Pur ok st (.ep cs) (.ep cs)
  | agg {cs cs' : List PV} (h : cs.length = cs'.length) (h2 : ∀ (i : Nat) (x y : PV), cs[i]? = some x → cs'[i]? = some y → Pur ok st x y) : Pur ok st (.agg cs) (.agg cs')
  | tup {cs cs' : List PV} (h : cs.length = cs'.length) (h2 : ∀ (i : Nat) (x y : PV), cs[i]? = some x → cs'[i]? = some y → Pur ok st x y) : Pur ok st (.tup cs) (.tup cs')
  | fn (f : Nat) {cs cs' : List PV} (h : cs.length = cs'.length) (h2 : ∀ (i : Nat) (x y : PV), cs[i]? = some x → cs'[i]? = some y → Pur ok st x y) : Pur ok st (.fn f cs) (.fn f cs')
  | ptr {i o : Nat} {fz : Bool} {kd : Kd} {vr : Nat} {cs cs' : List PV} (hi : st i = .cells fz kd vr cs) (hok : ok i fz) (ho : o ≤ cs.length) (h : (cs.drop o).length = cs'.length) (h2 : ∀ (j : Nat) (x y : PV), (cs.drop o)[j]? = some x → cs'[j]? = some y → Pur ok st x y) : Pur ok st (.ptr i o) (.ep cs')
  | row {i o m c sz : Nat} {fz : Bool} {kd : Kd} {vr : Nat} {cs cs' : List PV} (hi : st i = .cells fz kd vr cs) (hok : ok i fz) (hk : kd.spare = none ∨ kd.spare = some sz) (ho : o + m * sz ≤ cs.length) (h : cs'.length = m * sz) (h2 : ∀ (j : Nat) (x y : PV), ((cs.drop o).take (m * sz))[j]? = some x → cs'[j]? = some y → Pur ok st x y) : Pur ok st (.row i o m c) (.sl m cs')
def PurL (ok : Nat → Bool → Prop) (st : St) (l l' : List PV) : Prop := l.length = l'.length ∧ ∀ (i : Nat) (x y : PV), l[i]? = some x → l'[i]? = some y → Pur ok st x y
def anyRow : Nat → Bool → Prop := fun _ _ => True
def finRow : Nat → Bool → Prop := fun _ fz => fz = true
def notRow (k : Nat) : Nat → Bool → Prop := fun i _ => i ≠ k

theorem PurL.nil {ok : Nat → Bool → Prop} : PurL ok st [] [] := ⟨rfl, fun i x y h => by simp at h⟩
theorem PurL.cons {ok : Nat → Bool → Prop} {l l' : List PV} (h : Pur ok st p q) (hl : PurL ok st l l') : PurL ok st (p :: l) (q :: l') := by
  refine ⟨by simp [hl.1], fun i x y hx hy => ?_⟩
  cases i with
  | zero => simp at hx hy; subst hx; subst hy; exact h
  | succ i => simp at hx hy; exact hl.2 i x y hx hy
theorem PurL.append {ok : Nat → Bool → Prop} {l l' k k' : List PV} (h : PurL ok st l l') (h2 : PurL ok st k k') : PurL ok st (l ++ k) (l' ++ k') := by
  refine ⟨by simp [h.1, h2.1], fun i x y hx hy => ?_⟩
  rw [List.getElem?_append] at hx hy
  rw [h.1] at hx
  split at hx
  · rename_i hi; rw [if_pos hi] at hy; exact h.2 i x y hx hy
  · rename_i hi; rw [if_neg hi] at hy; exact h2.2 _ x y hx hy
/-- Plain values. -/
def isV : PV → Bool
  | .v _ => true
  | _ => false
theorem PurL.plain {ok : Nat → Bool → Prop} {l : List PV} (h : l.all isV = true) : PurL ok st l l := by
  refine ⟨rfl, fun i x y hx hy => ?_⟩
  rw [hx] at hy
  cases hy
  have := List.all_eq_true.1 h x (List.mem_of_getElem? hx)
  cases x <;> first | exact .v _ | (cases this)
def noAddr : PV → Bool
  | .v _ => true
  | .agg l => l.all isV
  | .tup l => l.all isV
  | _ => false
theorem RepV.plainAll {l : List PV} {l' : List Value} (h : l.all isV = true) (hl : l.length = l'.length) (hr : ∀ (i : Nat) (x : PV) (y : Value), l[i]? = some x → l'[i]? = some y → RepV μ n A H x y) : RepL μ' n' B H' l l' := by
  refine ⟨hl, fun i x y hx hy => ?_⟩
  have h1 := hr i x y hx hy
  have := List.all_eq_true.1 h x (List.mem_of_getElem? hx)
  cases h1 <;> first | (exact .v (by assumption)) | (cases this)
theorem RepV.noAddr (h : RepV μ n A H p v) (hp : noAddr p = true) : RepV μ' n' B H' p v := by
  cases h with
  | v h => exact .v h
  | agg h5 h8 =>
    have := RepV.plainAll (μ' := μ') (n' := n') (B := B) (H' := H') hp (l' := _) (h5.trans Array.length_toList.symm) (fun i x y hx hy => h8 i x y hx (by simpa using hy))
    exact .agg h5 (fun i x y hx hy => this.2 i x y hx (by simpa using hy))
  | tup h5 h8 =>
    have := RepV.plainAll (μ' := μ') (n' := n') (B := B) (H' := H') hp (l' := _) (h5.trans Array.length_toList.symm) (fun i x y hx hy => h8 i x y hx (by simpa using hy))
    exact .tup h5 (fun i x y hx hy => this.2 i x y hx (by simpa using hy))
  | _ => simp [Dm.noAddr] at hp

theorem Pur.rep {ok : Nat → Bool → Prop} (hS : Sim A μ n st H) (hB : ∀ b, b < H.length → ¬ Av A μ n st b → ¬ B b) (hrow : ∀ i fz kd vr cs, i < n → st i = .cells fz kd vr cs → ok i fz → ¬ B (μ i)) (h : Pur ok st p q) : ∀ {v : Value}, RepV μ n (Av A μ n st) H p v → RepV μ' 0 B H q v := by
  have low : ∀ {p : PV} {v : Value}, RepV μ 0 (Av A μ n st) H p v → RepV μ' 0 B H p v := fun h => h.mono (fun i hi => absurd hi (Nat.not_lt_zero i)) (Nat.le_refl 0) (fun b hb hx => ⟨hB b hb hx, rfl⟩) (Nat.le_refl _)
  induction h with
  | v x => intro v h; exact h.noAddr rfl
  | nil =>
    intro v h
    cases h
    exact .sl0 (by omega)
  | sl m cs =>
    intro v h
    cases h with
    | sl0 h => exact .sl0 h
    | sl9 => exact .sl9
    | sl h1 h2 h3 h4 h5 h6 h7 h8 => exact low (.sl h1 h2 h3 h4 h5 h6 h7 h8)
  | ep cs =>
    intro v h
    cases h with
    | ep h3 h4 h5 h6 h8 => exact low (.ep h3 h4 h5 h6 h8)
  | agg hl _ ih =>
    intro v h
    cases h with
    | agg h5 h8 => exact .agg (hl.symm.trans h5) (fun i x y hx hy => by
        have hi : i < _ := (List.getElem?_eq_some_iff.1 hx).1
        rw [← hl] at hi
        exact ih i _ x (List.getElem?_eq_getElem hi) hx (h8 i _ y (List.getElem?_eq_getElem hi) hy))
  | tup hl _ ih =>
    intro v h
    cases h with
    | tup h5 h8 => exact .tup (hl.symm.trans h5) (fun i x y hx hy => by
        have hi : i < _ := (List.getElem?_eq_some_iff.1 hx).1
        rw [← hl] at hi
        exact ih i _ x (List.getElem?_eq_getElem hi) hx (h8 i _ y (List.getElem?_eq_getElem hi) hy))
  | fn f hl _ ih =>
    intro v h
    cases h with
    | fn h5 h8 => exact .fn (hl.symm.trans h5) (fun i x y hx hy => by
        have hi : i < _ := (List.getElem?_eq_some_iff.1 hx).1
        rw [← hl] at hi
        exact ih i _ x (List.getElem?_eq_getElem hi) hx (h8 i _ y (List.getElem?_eq_getElem hi) hy))
  | ptr hi hok ho hl _ ih =>
    rename_i i o fz kd vr cs cs' _
    intro v h
    cases h with
    | ptr hin =>
      obtain ⟨c2, e, q1, q2⟩ := hS.obj i _ _ _ _ hin hi
      have hd := q2.drop o
      refine .ep (cs' := c2.drop o) (hrow i _ _ _ _ hin hi hok) (hS.lt i hin) (hl.symm.trans hd.1) ?_ (fun j x y hx hy => ?_)
      · simp only [Dm.rds, q1, List.length_drop]
        rw [if_pos (by have := q2.1; omega), List.take_of_length_le (by simp)]
      · have hj : j < _ := (List.getElem?_eq_some_iff.1 hx).1
        rw [← hl] at hj
        exact ih j _ x (List.getElem?_eq_getElem hj) hx (hd.2 j _ y (List.getElem?_eq_getElem hj) hy)
  | row hi hok hk ho hl _ ih =>
    rename_i i o m c sz fz kd vr cs cs' _
    intro v h
    cases h with
    | row hin h1 h2 =>
      obtain ⟨c2, e, q1, q2⟩ := hS.obj i _ _ _ _ hin hi
      have hd := (q2.drop o).take (m * sz)
      have hkd := hS.kdAt hin hi
      have hlen : ((cs.drop o).take (m * sz)).length = m * sz := by simp; omega
      refine .sl (cs' := (c2.drop o).take (m * sz)) h1 h2 (hrow i _ _ _ _ hin hi hok) (hS.lt i hin) (by rw [← hd.1, hlen, hl]) (.inr ?_) ?_ (fun j x y hx hy => ?_)
      · rw [← hd.1, hlen]
        simp only [Dm.rds, q1]
        rw [if_pos (by rw [← q2.1]; exact ho)]
      · rw [hkd]
        rcases hk with hk | hk
        · exact .inl hk
        · exact .inr ⟨sz, hk, hl⟩
      · have hj : j < _ := (List.getElem?_eq_some_iff.1 hx).1
        rw [hl, ← hlen] at hj
        exact ih j _ x (List.getElem?_eq_getElem hj) hx (hd.2 j _ y (List.getElem?_eq_getElem hj) hy)
theorem PurL.rep {ok : Nat → Bool → Prop} (hS : Sim A μ n st H) (hB : ∀ b, b < H.length → ¬ Av A μ n st b → ¬ B b) (hrow : ∀ i fz kd vr cs, i < n → st i = .cells fz kd vr cs → ok i fz → ¬ B (μ i)) {l k : List PV} {l' : List Value} (h : PurL ok st l k) (hl : RepL μ n (Av A μ n st) H l l') : RepL μ' 0 B H k l' := by
  refine ⟨h.1.symm.trans hl.1, fun i x y hx hy => ?_⟩
  have hi : i < k.length := (List.getElem?_eq_some_iff.1 hx).1
  rw [← h.1] at hi
  exact (h.2 i _ x (List.getElem?_eq_getElem hi) hx).rep hS hB hrow (hl.2 i _ y (List.getElem?_eq_getElem hi) hy)
theorem fin_rows (hS : Sim A μ n st H) : ∀ i fz kd vr cs, i < n → st i = .cells fz kd vr cs → finRow i fz → ¬ Av A μ n st (μ i) := by
  rintro i fz kd vr cs hi ho hf (q | ⟨j, hj, e, hq⟩)
  · exact hS.notA i hi q
  · have := hS.inj j i hj hi e
    subst this
    rw [ho] at hq
    have : fz = true := hf
    subst this
    cases hq
theorem any_rows (hS : Sim A μ n st H) : ∀ i fz kd vr cs, i < n → st i = .cells fz kd vr cs → anyRow i fz → ¬ A (μ i) := fun i _ _ _ _ hi _ _ => hS.notA i hi

/-! ### Functions told by their values -/
section
variable (T : Tab) (pr : Prims)
/-- A function answers so, changing nothing that was there. -/
def Closed (f : Nat) (args : List PV) (r : PV) : Prop :=
  ∀ (B : Nat → Prop) (H : Heap) (as : List Value), (∀ b, B b → b < H.length) → RepL id 0 B H args as → Ans T pr (.fn f) as H fun v H' => More H H' ∧ RepV id 0 B H' r v
/-- The answer is a slice in a row of its own. -/
def OwnP (B : Nat → Prop) (k : Nat) (H : Heap) (sz m : Nat) (cs : List PV) (v : Value) : Prop :=
  cs.length = m * sz ∧ ((v = .slice none 0 0 ∧ m = 0) ∨ ∃ b c ex all e kd vr, v = .slice (some ⟨b, 0, none⟩) m c ∧ m ≤ c ∧ c < 9223372036854775808 ∧ k ≤ b ∧ H[b]? = some (.cells all e kd vr) ∧ (cs ++ ex).length = c * sz ∧ (kd = .fix ∨ kd = .loose sz) ∧ ex.all isV = true ∧ RepL id 0 (fun x => B x ∨ x = b) H (cs ++ ex) all)
def ClosedF (f : Nat) (args : List PV) (sz m : Nat) (cs : List PV) : Prop :=
  ∀ (B : Nat → Prop) (H : Heap) (as : List Value), (∀ b, B b → b < H.length) → RepL id 0 B H args as → Ans T pr (.fn f) as H fun v H' => More H H' ∧ OwnP B H.length H' sz m cs v
end
theorem Sim.start (hA : ∀ b, A b → b < H.length) : Sim A id 0 (fun _ => .dead) H :=
  ⟨hA, fun i hi => absurd hi (Nat.not_lt_zero i), fun i hi => absurd hi (Nat.not_lt_zero i), fun i j hi => absurd hi (Nat.not_lt_zero i), fun i _ _ _ _ hi => absurd hi (Nat.not_lt_zero i)⟩
theorem Av.start {A : Nat → Prop} {b : Nat} : Av A id 0 (fun _ => .dead) b ↔ A b := ⟨fun h => h.elim id (fun ⟨i, hi, _⟩ => absurd hi (Nat.not_lt_zero i)), .inl⟩
theorem Step.more {μ : Nat → Nat} {st : St} (s : Step A μ 0 st H μ' n' st' H') : More H H' := More.of s.len fun i hi => s.out i hi fun j hj => absurd hj (Nat.not_lt_zero j)
/-- From a function's body. -/
theorem Closed.of {f : Nat} {mf : MFun} {args : List PV} {r : PV} (hp : pr f = none) (hT : T f = some mf) (hok : okC mf.ntmps mf.body = true) (h : V T pr mf.body (pFun mf.results fun p st n => Pur anyRow st p r) (ofL args) (fun _ => .dead) 0) : Closed T pr f args r := by
  intro B H as hB hA
  have hav : Av B id 0 (fun _ => .dead) = B := funext fun b => propext Av.start
  refine (PAns.fn hp hT hok h B id H as (Sim.start hB) (by rw [hav]; exact hA)).mono fun v H' hq => ?_
  obtain ⟨μ', r', st', n', s, hS, hr, hq⟩ := hq
  exact ⟨s.more, hq.rep hS (fun b hb hx hb2 => hx (.inl hb2)) (any_rows hS) hr⟩
/-- A list of one's own, at the end of a function. -/
def LstP (st : St) (p : PV) (sz m : Nat) (cs : List PV) : Prop :=
  cs.length = m * sz ∧ ((p = pnil ∧ m = 0) ∨ ∃ i c kd vr cs0 ex, p = .row i 0 m c ∧ st i = .cells false kd vr cs0 ∧ (cs ++ ex).length = c * sz ∧ (kd = .fix ∨ kd = .loose sz) ∧ ex.all isV = true ∧ PurL (notRow i) st cs0 (cs ++ ex))
theorem ClosedF.of {f : Nat} {mf : MFun} {args cs : List PV} {sz m : Nat} (hp : pr f = none) (hT : T f = some mf) (hok : okC mf.ntmps mf.body = true) (h : V T pr mf.body (pFun mf.results fun p st n => LstP st p sz m cs) (ofL args) (fun _ => .dead) 0) : ClosedF T pr f args sz m cs := by
  intro B H as hB hA
  have hav : Av B id 0 (fun _ => .dead) = B := funext fun b => propext Av.start
  refine (PAns.fn hp hT hok h B id H as (Sim.start hB) (by rw [hav]; exact hA)).mono fun v H' hq => ?_
  obtain ⟨μ', r', st', n', s, hS, hr, hq⟩ := hq
  refine ⟨s.more, hq.1, ?_⟩
  rcases hq.2 with ⟨rfl, h0⟩ | ⟨i, c, kd, vr, cs0, ex, rfl, q1, q2, q3, q3', q4⟩
  · cases hr
    exact .inl ⟨rfl, h0⟩
  · cases hr with
    | row hi h1 h2 =>
      obtain ⟨c2, e, z1, z2⟩ := hS.obj i _ _ _ _ hi q1
      refine .inr ⟨μ' i, c, ex, c2, e, kd, vr, rfl, h1, h2, s.fresh i (Nat.zero_le i) hi, z1, q2, q3, q3', ?_⟩
      refine q4.rep hS (B := fun x => B x ∨ x = μ' i) (fun b hb hx hb2 => ?_) (fun j fz kd vr cs hj ho hne => ?_) z2
      · rcases hb2 with hb2 | hb2
        · exact hx (.inl hb2)
        · subst hb2; exact hx (.inr ⟨i, hi, rfl, by rw [q1]; rfl⟩)
      · rintro (hb2 | hb2)
        · exact hS.notA j hj hb2
        · exact hne (hS.inj j i hj hi hb2)

theorem Sim.more (hS : Sim A μ n st H) (hm : More H H') : Step A μ n st H μ n st H' ∧ Sim A μ n st H' := by
  have s : Step A μ n st H μ n st H' := ⟨Nat.le_refl _, fun _ _ => rfl, fun i h1 h2 => by omega, hm.len, fun b hb _ => hm.at hb, fun b hb hx => ⟨hx, hm.at hb⟩⟩
  refine ⟨s, fun b hb => Nat.lt_of_lt_of_le (hS.adom b hb) hm.len, fun i hi => Nat.lt_of_lt_of_le (hS.lt i hi) hm.len, hS.notA, hS.inj, fun i fz kd vr cs hi ho => ?_⟩
  obtain ⟨c2, e, q1, q2⟩ := hS.obj i _ _ _ _ hi ho
  exact ⟨c2, e, hm.get q1, q2.step s⟩
theorem Av.lt (hS : Sim A μ n st H) {b : Nat} (h : Av A μ n st b) : b < H.length := by
  rcases h with h | ⟨i, hi, rfl, _⟩
  · exact hS.adom b h
  · exact hS.lt i hi
/-- A call of such a function, what it is given being final. -/
theorem PAns.closed {f : Nat} {args args' : List PV} {r : PV} {Q : PV → St → Nat → Prop} (hf : Closed T pr f args' r) (ha : PurL finRow st args args') (hq : Q r st n) : PAns T pr (.fn f) args st n Q := by
  intro A μ H as hS hA
  refine (hf (Av A μ n st) H as (fun b hb => Av.lt hS hb) (ha.rep hS (fun b _ hx => hx) (fin_rows hS) hA)).mono fun v H' hv => ?_
  obtain ⟨s, hS'⟩ := hS.more hv.1
  exact ⟨μ, r, st, n, s, hS', hv.2.up, hq⟩
/-- A call whose answer holds no address. -/
theorem PAns.scalar {f : Nat} {args args' : List PV} {r : PV} {Q : PV → St → Nat → Prop} (hf : Closed T pr f args' r) (ha : PurL anyRow st args args') (hr : noAddr r = true) (hq : Q r st n) : PAns T pr (.fn f) args st n Q := by
  intro A μ H as hS hA
  refine (hf A H as hS.adom (ha.rep hS (fun b _ hx hb => hx (.inl hb)) (any_rows hS) hA)).mono fun v H' hv => ?_
  obtain ⟨s, hS'⟩ := hS.more hv.1
  exact ⟨μ, r, st, n, s, hS', hv.2.noAddr hr, hq⟩
/-- A list of one's own: nothing, or a row at its begin. -/
def Lst (st : St) (n : Nat) (p : PV) (sz m : Nat) (cs : List PV) : Prop :=
  cs.length = m * sz ∧ ((p = pnil ∧ m = 0) ∨ ∃ i c kd vr ex, p = .row i 0 m c ∧ i < n ∧ m ≤ c ∧ c < 9223372036854775808 ∧ st i = .cells false kd vr (cs ++ ex) ∧ (cs ++ ex).length = c * sz ∧ (kd = .fix ∨ kd = .loose sz) ∧ ex.all isV = true)
theorem own_in (hS : Sim A μ n st H) (hm : More H H') {b e vr : Nat} {kd : Kd} {all : List Value} {cs : List PV} (hb : H.length ≤ b) (hH : H'[b]? = some (.cells all e kd vr)) (hcs : RepL μ 0 (fun x => Av A μ n st x ∨ x = b) H' cs all) :
    Step A μ n st H (upd μ n b) (n + 1) (upd st n (.cells false kd vr cs)) H' ∧ Sim A (upd μ n b) (n + 1) (upd st n (.cells false kd vr cs)) H' := by
  obtain ⟨s0, hS'⟩ := hS.more hm
  have hbl : b < H'.length := (List.getElem?_eq_some_iff.1 hH).1
  have hs : Step A μ n st H (upd μ n b) (n + 1) (upd st n (.cells false kd vr cs)) H' := by
    refine ⟨Nat.le_succ n, fun i hi => upd_ne (by omega), fun i h1 h2 => ?_, hm.len, fun b hb _ => hm.at hb, fun b' hb' h => ⟨Av.alloc (by omega) h, hm.at hb'⟩⟩
    have : i = n := by omega
    subst this
    rw [upd_same]
    exact hb
  refine ⟨hs, ⟨fun b hb => Nat.lt_of_lt_of_le (hS.adom b hb) hm.len, fun i hi => ?_, fun i hi => ?_, fun i j hi hj hij => ?_, fun i fz' kd' vr' cs2 hi ho => ?_⟩⟩
  · by_cases h : i = n
    · subst h; rw [upd_same]; exact hbl
    · rw [upd_ne h]; exact Nat.lt_of_lt_of_le (hS.lt i (by omega)) hm.len
  · by_cases h : i = n
    · subst h; rw [upd_same]; intro q; have := hS.adom _ q; omega
    · rw [upd_ne h]; exact hS.notA i (by omega)
  · by_cases h : i = n
    · by_cases h2 : j = n
      · omega
      · subst h
        rw [upd_same, upd_ne h2] at hij
        have := hS.lt j (by omega)
        omega
    · by_cases h2 : j = n
      · subst h2
        rw [upd_same, upd_ne h] at hij
        have := hS.lt i (by omega)
        omega
      · rw [upd_ne h, upd_ne h2] at hij
        exact hS.inj i j (by omega) (by omega) hij
  · by_cases h : i = n
    · subst h
      rw [upd_same] at ho ⊢
      cases ho
      refine ⟨all, e, hH, hcs.mono (fun j hj => absurd hj (Nat.not_lt_zero j)) (Nat.zero_le _) (fun x hx hnx => ⟨Av.alloc (fun e => hnx (.inr e)) (fun q => hnx (.inl q)), rfl⟩) (Nat.le_refl _)⟩
    · rw [upd_ne h] at ho ⊢
      obtain ⟨c2, e2, h1, h2⟩ := hS.obj i _ _ _ _ (by omega) ho
      exact ⟨c2, e2, hm.get h1, h2.step hs⟩
def NewP (n : Nat) (p : PV) : Prop := ∀ i o m c, p = .row i o m c → n ≤ i
theorem own_call {cs : List PV} {sz m : Nat} {Q : PV → St → Nat → Prop} (hS : Sim A μ n st H) {v : Value} (hm : More H H') (ho : OwnP B H.length H' sz m cs v) 
    (hcs : ∀ (ex : List PV) (all : List Value) (b : Nat), ex.all isV = true → RepL id 0 (fun x => B x ∨ x = b) H' (cs ++ ex) all → RepL μ 0 (fun x => Av A μ n st x ∨ x = b) H' (cs ++ ex) all)
    (hq : ∀ p st' n', Lst st' n' p sz m cs → n ≤ n' → (∀ i, i < n → st' i = st i) → NewP n p → Q p st' n') :
    ∃ μ' r st' n', Step A μ n st H μ' n' st' H' ∧ Sim A μ' n' st' H' ∧ RepV μ' n' (Av A μ' n' st') H' r v ∧ Q r st' n' := by
  obtain ⟨hl, ho⟩ := ho
  rcases ho with ⟨rfl, h0⟩ | ⟨b, c, ex, all, e, kd, vr, rfl, q1, q2, q3, q4, q5, q6, q6', q7⟩
  · obtain ⟨s, hS'⟩ := hS.more hm
    exact ⟨μ, pnil, st, n, s, hS', .v rfl, hq _ _ _ ⟨hl, .inl ⟨rfl, h0⟩⟩ (Nat.le_refl n) (fun _ _ => rfl) (fun i o m c e => by cases e)⟩
  · obtain ⟨s, hS'⟩ := own_in hS hm q3 q4 (hcs _ _ _ q6' q7)
    refine ⟨_, .row n 0 m c, _, _, s, hS', .newRow (upd_same _ _ _).symm q1 q2, hq _ _ _ ⟨hl, .inr ⟨n, c, kd, vr, ex, rfl, Nat.lt_succ_self n, q1, q2, upd_same _ _ _, q5, q6, q6'⟩⟩ (Nat.le_succ n) (fun i hi => upd_ne (by omega)) (fun i o m c e => ?_)⟩
    cases e
    exact Nat.le_refl n
/-- A call whose answer is a list of its own. -/
theorem PAns.fresh {f : Nat} {args args' cs : List PV} {sz m : Nat} {Q : PV → St → Nat → Prop} (hf : ClosedF T pr f args' sz m cs) (ha : PurL finRow st args args')
    (hq : ∀ p st' n', Lst st' n' p sz m cs → n ≤ n' → (∀ i, i < n → st' i = st i) → NewP n p → Q p st' n') : PAns T pr (.fn f) args st n Q := by
  intro A μ H as hS hA
  refine (hf (Av A μ n st) H as (fun b hb => Av.lt hS hb) (ha.rep hS (fun b _ hx => hx) (fin_rows hS) hA)).mono fun v H' hv => ?_
  exact own_call hS hv.1 hv.2 (fun l all b _ h => RepL.up h) hq
/-- .. of plain values. -/
theorem PAns.freshV {f : Nat} {args args' cs : List PV} {sz m : Nat} {Q : PV → St → Nat → Prop} (hf : ClosedF T pr f args' sz m cs) (ha : PurL anyRow st args args') (hcs : cs.all isV = true)
    (hq : ∀ p st' n', Lst st' n' p sz m cs → n ≤ n' → (∀ i, i < n → st' i = st i) → NewP n p → Q p st' n') : PAns T pr (.fn f) args st n Q := by
  intro A μ H as hS hA
  refine (hf A H as hS.adom (ha.rep hS (fun b _ hx hb => hx (.inl hb)) (any_rows hS) hA)).mono fun v H' hv => ?_
  exact own_call hS hv.1 hv.2 (fun ex all b hex h => RepV.plainAll (by rw [List.all_append, hcs, hex]; rfl) h.1 h.2) hq
/-- What is read again and again is final from here on. -/
theorem PAns.freeze {t : Tgt} {args : List PV} {Q : PV → St → Nat → Prop} {i : Nat} {fz : Bool} {kd : Kd} {vr : Nat} {cs : List PV} (ho : st i = .cells fz kd vr cs) (h : PAns T pr t args (upd st i (.cells true kd vr cs)) n Q) : PAns T pr t args st n Q := by
  intro A μ H as hS hA
  obtain ⟨s, hS'⟩ := hS.freeze ho
  refine (h A μ H as hS' (hA.step s)).mono fun v H' hv => ?_
  obtain ⟨μ', r, st', n', s', h1, h2, h3⟩ := hv
  exact ⟨μ', r, st', n', s.trans s', h1, h2, h3⟩
/-- A list of one's own is looked through. -/
theorem Lst.pur {ok : Nat → Bool → Prop} {sz m : Nat} {cs cs' : List PV} (h : Lst st n p sz m cs) (hok : ∀ i, ok i false) (hc : PurL ok st cs cs') : Pur ok st p (.sl m cs') := by
  obtain ⟨hl, h⟩ := h
  rcases h with ⟨rfl, h0⟩ | ⟨i, c, kd, vr, ex, rfl, q1, q2, q3, q4, q5, q6, q6'⟩
  · subst h0
    have : cs = [] := List.eq_nil_of_length_eq_zero (by simpa using hl)
    subst this
    have : cs' = [] := List.eq_nil_of_length_eq_zero hc.1.symm
    subst this
    exact .nil
  · have ht : ((cs ++ ex).drop 0).take (m * sz) = cs := by rw [List.drop_zero, ← hl, List.take_left]
    refine .row (sz := sz) q4 (hok i) ?_ (by simp only [List.length_append, Nat.zero_add]; omega) (by rw [← hc.1, hl]) (by rw [ht]; exact hc.2)
    rcases q6 with rfl | rfl
    · exact .inl rfl
    · exact .inr rfl
theorem Lst.nil (sz : Nat) : Lst st n pnil sz 0 [] := ⟨by simp, .inl ⟨rfl, rfl⟩⟩
theorem Lst.lstP {sz m : Nat} {cs : List PV} (h : Lst st n p sz m cs) (hc : cs.all isV = true) : LstP st p sz m cs := by
  obtain ⟨hl, h⟩ := h
  refine ⟨hl, ?_⟩
  rcases h with ⟨rfl, h0⟩ | ⟨i, c, kd, vr, ex, rfl, q1, q2, q3, q4, q5, q6, q6'⟩
  · exact .inl ⟨rfl, h0⟩
  · exact .inr ⟨i, c, kd, vr, _, ex, rfl, q4, q5, q6, q6', .plain (by rw [List.all_append, hc, q6']; rfl)⟩
end Dm
end
section
set_option linter.unusedVariables false
set_option linter.unusedSimpArgs false
namespace Dm
open Go
variable {T : Tab} {pr : Prims} {a b c : MCode} {Q : PQE} {K : PQ} {pt : PT} {st st' : St} {n n' : Nat} {d : Option Nat} {keep : List X} {ops : List MO}

/-- A fact that 'simp' takes by its proof. -/
theorem nodef {α : Sort _} {a b : α} (h : a = b) : a = b := h
theorem V_seq : V T pr (.seq a b) Q pt st n = V T pr a (pThen (V T pr b Q) Q) pt st n := nodef rfl
theorem V_skip : V T pr .skip Q pt st n = Q .normal pt st n := nodef rfl
theorem V_reg : V T pr (.reg ops) Q pt st n = Vos T pr ops (Q .normal) pt st n := nodef rfl
theorem V_dreg {ord : List Nat} : V T pr (.dreg ord ops) Q pt st n = Vos T pr ops (Q .normal) pt st n := nodef rfl
theorem V_blk {i : Nat} : V T pr (.blk i c) Q pt st n = V T pr c (pBlk i Q) pt st n := nodef rfl
theorem V_exit {i : Nat} : V T pr (.exit i) Q pt st n = Q (.exit i) pt st n := nodef rfl
theorem V_ret : V T pr .ret Q pt st n = Q .ret pt st n := nodef rfl
def vIte (T : Tab) (pr : Prims) (x : PV) (a b : MCode) (Q : PQE) (pt : PT) (st : St) (n : Nat) : Prop := pIte x (V T pr a Q pt st n) (V T pr b Q pt st n)
theorem V_ite {x : X} : V T pr (.ite x a b) Q pt st n = vIte T pr (pev pt x) a b Q pt st n := nodef rfl
theorem vIte_true : vIte T pr (.v (.bool true)) a b Q pt st n = V T pr a Q pt st n := nodef rfl
theorem vIte_false : vIte T pr (.v (.bool false)) a b Q pt st n = V T pr b Q pt st n := nodef rfl
theorem vIte_split {t : Bool} (h1 : t = true → V T pr a Q pt st n) (h2 : t = false → V T pr b Q pt st n) : vIte T pr (.v (.bool t)) a b Q pt st n := by
  cases t
  · exact h2 rfl
  · exact h1 rfl
theorem pThen_normal : pThen K Q .normal pt st n = K pt st n := nodef rfl
theorem pThen_exit {i : Nat} : pThen K Q (.exit i) pt st n = Q (.exit i) pt st n := nodef rfl
theorem pThen_ret : pThen K Q .ret pt st n = Q .ret pt st n := nodef rfl
theorem pBlk_normal {i : Nat} : pBlk i Q .normal pt st n = Q .normal pt st n := nodef rfl
theorem pBlk_ret {i : Nat} : pBlk i Q .ret pt st n = Q .ret pt st n := nodef rfl
theorem pBlk_exit {i j : Nat} : pBlk i Q (.exit j) pt st n = (if j = i then Q .normal pt st n else Q (.exit j) pt st n) := by
  simp only [pBlk]; split <;> rfl
theorem pFun_normal {rs : List MRes} {R : PV → St → Nat → Prop} : pFun rs R .normal pt st n = pRes (presAll pt st rs) (fun v => R v st n) := nodef rfl
theorem pFun_ret {rs : List MRes} {R : PV → St → Nat → Prop} : pFun rs R .ret pt st n = pRes (presAll pt st rs) (fun v => R v st n) := nodef rfl
theorem pRes_some {l : List PV} {R : PV → Prop} : pRes (some l) R = R (pone l) := nodef rfl
theorem Vos_nil' : Vos T pr [] K pt st n = K pt st n := nodef rfl
theorem Vos_go {op : MOp} : Vos T pr (⟨d, op, none, keep⟩ :: ops) K pt st n = pOp T pr op d keep pt st n (Vos T pr ops K) := nodef rfl
def vGuard (T : Tab) (pr : Prims) (x : PV) (b : Bool) (op : MOp) (d : Option Nat) (keep : List X) (ops : List MO) (K : PQ) (pt : PT) (st : St) (n : Nat) : Prop := pGuard x b (pOp T pr op d keep pt st n (Vos T pr ops K)) (Vos T pr ops K (pput pt d pundef) st n)
theorem Vos_guard' {op : MOp} {t : Nat} {g : Bool} : Vos T pr (⟨d, op, some (t, g), keep⟩ :: ops) K pt st n = vGuard T pr (pt t) g op d keep ops K pt st n := nodef rfl
theorem vGuard_tt {op : MOp} : vGuard T pr (.v (.bool true)) true op d keep ops K pt st n = pOp T pr op d keep pt st n (Vos T pr ops K) := nodef rfl
theorem vGuard_ff {op : MOp} : vGuard T pr (.v (.bool false)) false op d keep ops K pt st n = pOp T pr op d keep pt st n (Vos T pr ops K) := nodef rfl
theorem vGuard_tf {op : MOp} : vGuard T pr (.v (.bool true)) false op d keep ops K pt st n = Vos T pr ops K (pput pt d pundef) st n := nodef rfl
theorem vGuard_ft {op : MOp} : vGuard T pr (.v (.bool false)) true op d keep ops K pt st n = Vos T pr ops K (pput pt d pundef) st n := nodef rfl
theorem vGuard_split {op : MOp} {t g : Bool} (h1 : t = g → pOp T pr op d keep pt st n (Vos T pr ops K)) (h2 : t = !g → Vos T pr ops K (pput pt d pundef) st n) : vGuard T pr (.v (.bool t)) g op d keep ops K pt st n := by
  cases t <;> cases g <;> first | exact h1 rfl | exact h2 rfl
theorem pGo_some {v : PV} : pGo (some (v, st', n')) d keep pt st K = (keepP pt st st' keep ∧ K (pput pt d v) st' n') := nodef rfl
theorem pGo_ite {c : Prop} [Decidable c] {o : Option (PV × St × Nat)} : pGo (if c then o else none) d keep pt st K = (c ∧ pGo o d keep pt st K) := by
  by_cases h : c <;> simp [h, pGo]
theorem pOp_call {f : X} {args : List X} : pOp T pr (.call f args) d keep pt st n K = pCall T pr (ptgt (pev pt f) (args.map (pev pt))) d keep pt st n K := nodef rfl
theorem pCall_some {t : Tgt} {as : List PV} : pCall T pr (some (t, as)) d keep pt st n K = PAns T pr t as st n (fun v st' n' => keepP pt st st' keep ∧ K (pput pt d v) st' n') := nodef rfl
theorem ptgt_fn {g : Nat} {caps args : List PV} : ptgt (.fn g caps) args = some (.fn g, args ++ caps) := nodef rfl
theorem pput_some {t : Nat} {v : PV} : pput pt (some t) v = upd pt t v := nodef rfl
theorem pput_none {v : PV} : pput pt none v = pt := nodef rfl
theorem pev_t {t : Nat} : pev pt (.t t) = pt t := nodef rfl
theorem pev_c {v : Value} : pev pt (.c v) = .v v := nodef rfl
theorem pev_f {f : Nat} : pev pt (.f f) = .fn f [] := nodef rfl
theorem keepP_nil : keepP pt st st' [] = True := nodef rfl
theorem keepP_cons {x : X} : keepP pt st st' (x :: keep) = (keptP (pev pt x) st st' ∧ keepP pt st st' keep) := nodef rfl
theorem ofL_zero {x : PV} {l : List PV} : ofL (x :: l) 0 = x := nodef rfl
theorem ofL_succ {x : PV} {l : List PV} {i : Nat} : ofL (x :: l) (i + 1) = ofL l i := nodef rfl
theorem ofL_nil {i : Nat} : ofL [] i = pundef := nodef rfl
theorem pOp_mv {x : X} : pOp T pr (.mv x) d keep pt st n K = pGo (pop (pev pt) st n (.mv x)) d keep pt st K := nodef rfl
theorem pOp_pick {a b c : X} : pOp T pr (.pick a b c) d keep pt st n K = pGo (pop (pev pt) st n (.pick a b c)) d keep pt st K := nodef rfl
theorem pOp_new {z : List Value} {e : Nat} : pOp T pr (.new z e) d keep pt st n K = pGo (pop (pev pt) st n (.new z e)) d keep pt st K := nodef rfl
theorem pOp_box {e : Nat} {x : X} : pOp T pr (.box e x) d keep pt st n K = pGo (pop (pev pt) st n (.box e x)) d keep pt st K := nodef rfl
theorem pOp_build {z : List Value} {ps : List (Nat × Nat × X)} : pOp T pr (.build z ps) d keep pt st n K = pGo (pop (pev pt) st n (.build z ps)) d keep pt st K := nodef rfl
theorem pOp_lit {e : Nat} {z : List Value} {ps : List (Nat × Nat × X)} {len : Nat} : pOp T pr (.lit e z ps len) d keep pt st n K = pGo (pop (pev pt) st n (.lit e z ps len)) d keep pt st K := nodef rfl
theorem pOp_ld {a : X} : pOp T pr (.ld a) d keep pt st n K = pGo (pop (pev pt) st n (.ld a)) d keep pt st K := nodef rfl
theorem pOp_lds {k : Nat} {a : X} : pOp T pr (.lds k a) d keep pt st n K = pGo (pop (pev pt) st n (.lds k a)) d keep pt st K := nodef rfl
theorem pOp_st {k : Nat} {a x : X} : pOp T pr (.st k a x) d keep pt st n K = pGo (pop (pev pt) st n (.st k a x)) d keep pt st K := nodef rfl
theorem pOp_chk {x : X} : pOp T pr (.chk x) d keep pt st n K = pGo (pop (pev pt) st n (.chk x)) d keep pt st K := nodef rfl
theorem pOp_bin {op : BinOp} {x y : X} : pOp T pr (.bin op x y) d keep pt st n K = pGo (pop (pev pt) st n (.bin op x y)) d keep pt st K := nodef rfl
theorem pOp_eq {neq : Bool} {k : EqK} {x y : X} : pOp T pr (.eq neq k x y) d keep pt st n K = pGo (pop (pev pt) st n (.eq neq k x y)) d keep pt st K := nodef rfl
theorem pOp_not {x : X} : pOp T pr (.not x) d keep pt st n K = pGo (pop (pev pt) st n (.not x)) d keep pt st K := nodef rfl
theorem pOp_neg {x : X} : pOp T pr (.neg x) d keep pt st n K = pGo (pop (pev pt) st n (.neg x)) d keep pt st K := nodef rfl
theorem pOp_cvt {k : IntKind} {x : X} : pOp T pr (.cvt k x) d keep pt st n K = pGo (pop (pev pt) st n (.cvt k x)) d keep pt st K := nodef rfl
theorem pOp_bytes {e : Nat} {x : X} : pOp T pr (.bytes e x) d keep pt st n K = pGo (pop (pev pt) st n (.bytes e x)) d keep pt st K := nodef rfl
theorem pOp_fld {o : Nat} {x : X} : pOp T pr (.fld o x) d keep pt st n K = pGo (pop (pev pt) st n (.fld o x)) d keep pt st K := nodef rfl
theorem pOp_flds {o k : Nat} {x : X} : pOp T pr (.flds o k x) d keep pt st n K = pGo (pop (pev pt) st n (.flds o k x)) d keep pt st K := nodef rfl
theorem pOp_fa {o : Nat} {x : X} : pOp T pr (.fa o x) d keep pt st n K = pGo (pop (pev pt) st n (.fa o x)) d keep pt st K := nodef rfl
theorem pOp_ia {k : Nat} {x i : X} : pOp T pr (.ia k x i) d keep pt st n K = pGo (pop (pev pt) st n (.ia k x i)) d keep pt st K := nodef rfl
theorem pOp_ix {x i : X} : pOp T pr (.ix x i) d keep pt st n K = pGo (pop (pev pt) st n (.ix x i)) d keep pt st K := nodef rfl
theorem pOp_sl {k : Nat} {x : X} {lo hi mx : Option X} : pOp T pr (.sl k x lo hi mx) d keep pt st n K = pGo (pop (pev pt) st n (.sl k x lo hi mx)) d keep pt st K := nodef rfl
theorem pOp_sls {x : X} {lo hi : Option X} : pOp T pr (.sls x lo hi) d keep pt st n K = pGo (pop (pev pt) st n (.sls x lo hi)) d keep pt st K := nodef rfl
theorem pOp_mk {e s b : Nat} {z : List Value} {l c : X} : pOp T pr (.mk e s b z l c) d keep pt st n K = pGo (pop (pev pt) st n (.mk e s b z l c)) d keep pt st K := nodef rfl
theorem pOp_iface {t : Nat} {x : X} : pOp T pr (.iface t x) d keep pt st n K = pGo (pop (pev pt) st n (.iface t x)) d keep pt st K := nodef rfl
theorem pOp_ext {x : X} {i : Nat} : pOp T pr (.ext x i) d keep pt st n K = pGo (pop (pev pt) st n (.ext x i)) d keep pt st K := nodef rfl
theorem pOp_fn {f : Nat} {l : List X} : pOp T pr (.fn f l) d keep pt st n K = pGo (pop (pev pt) st n (.fn f l)) d keep pt st K := nodef rfl
theorem pOp_len {x : X} : pOp T pr (.len x) d keep pt st n K = pGo (pop (pev pt) st n (.len x)) d keep pt st K := nodef rfl
theorem pOp_slen {x : X} : pOp T pr (.slen x) d keep pt st n K = pGo (pop (pev pt) st n (.slen x)) d keep pt st K := nodef rfl
theorem pOp_max2 {x y : X} : pOp T pr (.max2 x y) d keep pt st n K = pGo (pop (pev pt) st n (.max2 x y)) d keep pt st K := nodef rfl
theorem pOp_cap {x : X} : pOp T pr (.cap x) d keep pt st n K = pGo (pop (pev pt) st n (.cap x)) d keep pt st K := nodef rfl
theorem pOp_appz {e a b : Nat} {z : List Value} {s x : X} : pOp T pr (.appz e a b z s x) d keep pt st n K = pGo (pop (pev pt) st n (.appz e a b z s x)) d keep pt st K := nodef rfl
theorem pOp_cpy {k : Nat} {x y : X} : pOp T pr (.cpy k x y) d keep pt st n K = pGo (pop (pev pt) st n (.cpy k x y)) d keep pt st K := nodef rfl
theorem pOp_clr {z : List Value} {x : X} : pOp T pr (.clr z x) d keep pt st n K = pGo (pop (pev pt) st n (.clr z x)) d keep pt st K := nodef rfl

/-! ### Loops -/
theorem V_loop {c : MCode} (I : Nat → PQ) (k : Nat) (h0 : I k pt st n) (h : ∀ k pt st n, I k pt st n → V T pr c (pRound I k Q) pt st n) : V T pr (.loop c) Q pt st n := ⟨I, k, h0, h⟩
theorem pRound_normal {I : Nat → PQ} {k : Nat} : pRound I k Q .normal pt st n = ∃ k', k' < k ∧ I k' pt st n := nodef rfl
theorem pRound_exit {I : Nat → PQ} {k i : Nat} : pRound I k Q (.exit i) pt st n = Q (.exit i) pt st n := nodef rfl
theorem pRound_ret {I : Nat → PQ} {k : Nat} : pRound I k Q .ret pt st n = Q .ret pt st n := nodef rfl
/-- Rounds that are counted. -/
def pCount (J : Nat → PQ) (len i : Nat) (Q : PQE) : PQE
  | .normal => fun pt st n => i < len ∧ J (i + 1) pt st n
  | .exit e => Q (.exit e)
  | .ret => Q .ret
theorem pCount_normal {J : Nat → PQ} {len i : Nat} : pCount J len i Q .normal pt st n = (i < len ∧ J (i + 1) pt st n) := nodef rfl
theorem pCount_exit {J : Nat → PQ} {len i e : Nat} : pCount J len i Q (.exit e) pt st n = Q (.exit e) pt st n := nodef rfl
theorem pCount_ret {J : Nat → PQ} {len i : Nat} : pCount J len i Q .ret pt st n = Q .ret pt st n := nodef rfl
theorem Vos_mono {T : Tab} {pr : Prims} : ∀ {ops : List MO} {K K' : PQ} {pt : PT} {st : St} {n : Nat}, (∀ pt st n, K pt st n → K' pt st n) → Vos T pr ops K pt st n → Vos T pr ops K' pt st n
  | [], K, K', pt, st, n, hk, h => hk _ _ _ h
  | ⟨d, op, g, keep⟩ :: r, K, K', pt, st, n, hk, h => by
    have hr : ∀ pt st n, Vos T pr r K pt st n → Vos T pr r K' pt st n := fun pt st n h => Vos_mono hk h
    have main : pOp T pr op d keep pt st n (Vos T pr r K) → pOp T pr op d keep pt st n (Vos T pr r K') := by
      intro h
      have hgo : ∀ o, pGo o d keep pt st (Vos T pr r K) → pGo o d keep pt st (Vos T pr r K') := by
        intro o h
        cases o with
        | none => exact h
        | some x => exact ⟨h.1, hr _ _ _ h.2⟩
      by_cases hc : ∃ f args, op = .call f args
      · obtain ⟨f, args, rfl⟩ := hc
        rw [pOp_call] at h ⊢
        cases ht : ptgt (pev pt f) (args.map (pev pt)) with
        | none => rw [ht] at h; exact h
        | some x =>
          rw [ht] at h
          intro A μ H as hS hA
          refine (h A μ H as hS hA).mono fun v H' hv => ?_
          obtain ⟨μ', r', st', n', s, h1, h2, h3, h4⟩ := hv
          exact ⟨μ', r', st', n', s, h1, h2, h3, hr _ _ _ h4⟩
      · have e : ∀ K, pOp T pr op d keep pt st n K = pGo (pop (pev pt) st n op) d keep pt st K := fun K => by
          cases op <;> first | rfl | exact absurd ⟨_, _, rfl⟩ hc
        rw [e] at h ⊢
        exact hgo _ h
    cases g with
    | none => exact main h
    | some tb =>
      obtain ⟨t, b⟩ := tb
      rw [Vos_guard'] at h ⊢
      unfold vGuard at h ⊢
      generalize pt t = c at h ⊢
      unfold pGuard at h ⊢
      split at h
      · split at h
        · rename_i e; rw [if_pos e]; exact main h
        · rename_i e; rw [if_neg e]; exact hr _ _ _ h
      · exact h.elim
theorem V_mono {T : Tab} {pr : Prims} : ∀ {c : MCode} {Q Q' : PQE} {pt : PT} {st : St} {n : Nat}, (∀ e pt st n, Q e pt st n → Q' e pt st n) → V T pr c Q pt st n → V T pr c Q' pt st n
  | .skip, Q, Q', pt, st, n, hq, h => hq _ _ _ _ h
  | .ret, Q, Q', pt, st, n, hq, h => hq _ _ _ _ h
  | .exit _, Q, Q', pt, st, n, hq, h => hq _ _ _ _ h
  | .reg _, Q, Q', pt, st, n, hq, h => Vos_mono (hq .normal) h
  | .dreg _ _, Q, Q', pt, st, n, hq, h => Vos_mono (hq .normal) h
  | .seq a b, Q, Q', pt, st, n, hq, h => V_mono (c := a) (fun e pt st n h => by
      cases e with
      | normal => exact V_mono (c := b) hq h
      | exit i => exact hq _ _ _ _ h
      | ret => exact hq _ _ _ _ h) h
  | .ite x a b, Q, Q', pt, st, n, hq, h => by
    rw [V_ite] at h ⊢
    unfold vIte at h ⊢
    generalize pev pt x = c at h ⊢
    unfold pIte at h ⊢
    split at h
    · split at h
      · rename_i e; rw [if_pos e]; exact V_mono (c := a) hq h
      · rename_i e; rw [if_neg e]; exact V_mono (c := b) hq h
    · exact h.elim
  | .blk id c, Q, Q', pt, st, n, hq, h => V_mono (c := c) (fun e pt st n h => by
      cases e with
      | normal => exact hq _ _ _ _ h
      | exit i =>
        rw [pBlk_exit] at h ⊢
        split
        · rename_i e; rw [if_pos e] at h; exact hq _ _ _ _ h
        · rename_i e; rw [if_neg e] at h; exact hq _ _ _ _ h
      | ret => exact hq _ _ _ _ h) h
  | .loop c, Q, Q', pt, st, n, hq, h => by
    obtain ⟨I, k, h0, hI⟩ := h
    refine ⟨I, k, h0, fun k pt st n h => V_mono (c := c) (fun e pt st n h => ?_) (hI k pt st n h)⟩
    cases e with
    | normal => exact h
    | exit i => exact hq _ _ _ _ h
    | ret => exact hq _ _ _ _ h
  | .rangeF _ _ _ _, Q, Q', pt, st, n, hq, h => h.elim
theorem V_count {c : MCode} (J : Nat → PQ) (len : Nat) (h0 : J 0 pt st n) (h : ∀ i pt st n, i ≤ len → J i pt st n → V T pr c (pCount J len i Q) pt st n) : V T pr (.loop c) Q pt st n := by
  refine ⟨fun k pt st n => ∃ i, k = len - i ∧ i ≤ len ∧ J i pt st n, len, ⟨0, rfl, Nat.zero_le _, h0⟩, fun k pt st n hk => ?_⟩
  obtain ⟨i, rfl, hi, hj⟩ := hk
  refine V_mono (fun e pt st n h => ?_) (h i pt st n hi hj)
  cases e with
  | normal => exact ⟨len - (i + 1), by have := h.1; omega, i + 1, rfl, h.1, h.2⟩
  | exit i => exact h
  | ret => exact h

/-! ### Lists of numbers, truths -/
def pints (l : List Int) : List PV := l.map fun x => .v (.int .i64 x)
def pbools (l : List Bool) : List PV := l.map fun x => .v (.bool x)
theorem pints_length {l : List Int} : (pints l).length = l.length := by simp [pints]
theorem pbools_length {l : List Bool} : (pbools l).length = l.length := by simp [pbools]
theorem pints_V {l : List Int} : (pints l).all isV = true := by simp [pints, isV]
theorem pbools_V {l : List Bool} : (pbools l).all isV = true := by simp [pbools, isV]
theorem pints_flat {l : List Int} : (pints l).all pflat = true := by simp [pints, pflat]
theorem pbools_flat {l : List Bool} : (pbools l).all pflat = true := by simp [pbools, pflat]
theorem pints_append {l k : List Int} : pints l ++ pints k = pints (l ++ k) := by simp [pints]
theorem pbools_append {l k : List Bool} : pbools l ++ pbools k = pbools (l ++ k) := by simp [pbools]
theorem psub_one {cs : List PV} {j : Nat} : psub cs j 1 = (cs[j]?).map fun x => [x] := by
  unfold psub
  split
  · rename_i h
    have hj : j < cs.length := by omega
    rw [List.getElem?_eq_getElem hj, Nat.mul_one, List.drop_eq_getElem_cons hj]
    rfl
  · rename_i h
    rw [List.getElem?_eq_none (by omega)]
    rfl
theorem psub_ints {l : List Int} {j : Nat} : psub (pints l) j 1 = (l[j]?).map fun x => [.v (.int .i64 x)] := by
  rw [psub_one, pints, List.getElem?_map, Option.map_map]; rfl
theorem psub_bools {l : List Bool} {j : Nat} : psub (pbools l) j 1 = (l[j]?).map fun x => [.v (.bool x)] := by
  rw [psub_one, pbools, List.getElem?_map, Option.map_map]; rfl

/-! ### Appending -/
theorem app_lst {e sz bytes m k : Nat} {z : List Value} {s x : X} {p q : PV} {cs new : List PV} (h : Lst st n p sz m cs) (hs : pev pt s = p) (hq : pev pt x = q) (hx : psrc st sz q = some (k, new)) (hl : new.length = k * sz) (hf : new.all pflat = true) (hb : (m + k) * bytes ≤ 140737488355328) (hsz : 0 < sz) (hby : 0 < bytes)
    (hK : ∀ p' st' n', Lst st' n' p' sz (m + k) (cs ++ new) → n ≤ n' → (∀ i, i < n → (∀ o m c, p ≠ .row i o m c) → st' i = st i) → (∀ i o m c, p' = .row i o m c → (∃ o m c, p = .row i o m c) ∨ n ≤ i) → keepP pt st st' keep ∧ K (pput pt d p') st' n') : pOp T pr (.app e sz bytes z s x) d keep pt st n K := by
  show pGo (pop (pev pt) st n (.app e sz bytes z s x)) d keep pt st K
  simp only [pop, hq, hx, hl, if_true, hs]
  obtain ⟨h1, h2⟩ := h
  have hsum : (cs ++ new).length = (m + k) * sz := by rw [List.length_append, h1, hl, Nat.add_mul]
  have hmk : m + k ≤ (m + k) * bytes := Nat.le_mul_of_pos_right _ hby
  rcases h2 with ⟨rfl, rfl⟩ | ⟨i, c, kd, vr, ex, rfl, q1, q2, q3, q4, q5, q6, q7⟩
  · have hcs : cs = [] := List.eq_nil_of_length_eq_zero (by simpa using h1)
    subst hcs
    simp only [papp, pnil]
    by_cases hk : k = 0
    · subst hk
      have hn : new = [] := List.eq_nil_of_length_eq_zero (by simpa using hl)
      subst hn
      simp only [if_true]
      exact hK _ _ _ (Lst.nil sz) (Nat.le_refl n) (fun _ _ _ => rfl) (fun i o m c e => by cases e)
    · simp only [hk, if_false]
      rw [if_pos ⟨by simpa using hb, by omega⟩]
      refine hK _ _ _ ⟨hsum, .inr ⟨n, k, .loose sz, 0, [], by simp, Nat.lt_succ_self n, by omega, by omega, by rw [upd_same]; simp, by simpa using hl, .inr rfl, rfl⟩⟩ (Nat.le_succ n) (fun i hi _ => upd_ne (by omega)) (fun i o m c e => ?_)
      cases e
      exact .inr (Nat.le_refl n)
  · simp only [papp]
    by_cases hle : m + k ≤ c
    · rw [if_pos hle]
      by_cases hn : new = []
      · subst hn
        have hk : k = 0 := by
          simp only [List.length_nil] at hl
          rcases Nat.mul_eq_zero.1 hl.symm with q | q <;> omega
        subst hk
        simp only [if_true]
        refine hK _ _ _ ⟨hsum, .inr ⟨i, c, kd, vr, ex, rfl, q1, hle, q3, by rw [q4, List.append_nil], by rw [List.append_nil]; exact q5, ?_, q7⟩⟩ (Nat.le_refl n) (fun _ _ _ => rfl) (fun j o m' c' e => ?_)
        · exact q6
        · cases e; exact .inl ⟨_, _, _, rfl⟩
      · rw [if_neg hn]
        have hkp : 0 < k := by
          rcases Nat.eq_zero_or_pos k with q | q
          · subst q; exact absurd (List.eq_nil_of_length_eq_zero (by simpa using hl)) hn
          · exact q
        have hkw : kd.w = true := by rcases q6 with q | q <;> (subst q; rfl)
        have hlen : 0 + m * sz + new.length ≤ (cs ++ ex).length := by
          rw [q5, hl, Nat.zero_add, ← Nat.add_mul]; exact Nat.mul_le_mul_right _ hle
        have hw : pwr st i (0 + m * sz) new = some (upd st i (.cells false kd (vr + 1) ((cs ++ new) ++ ex.drop new.length))) := by
          simp only [pwr, q4]
          rw [if_pos ⟨hkw, hlen, hf⟩]
          congr 3
          rw [Nat.zero_add, ← h1, List.take_left, Nat.add_comm, ← List.drop_drop]
          have : List.drop new.length (List.drop cs.length (cs ++ ex)) = ex.drop new.length := by rw [List.drop_left]
          rw [List.drop_drop, Nat.add_comm, ← List.drop_drop] at this
          rw [List.drop_drop, Nat.add_comm new.length, ← List.drop_drop, List.drop_left]
        rw [hw]
        refine hK _ _ _ ⟨hsum, .inr ⟨i, c, kd, vr + 1, ex.drop new.length, rfl, q1, hle, q3, upd_same _ _ _, ?_, q6, ?_⟩⟩ (Nat.le_refl n) (fun j hj hne => upd_ne (fun e => ?_)) (fun j o m' c' e => ?_)
        · rw [List.length_append] at q5
          rw [List.length_append, List.length_append, List.length_drop]
          rw [List.length_append] at hlen
          omega
        · rw [List.all_eq_true] at q7 ⊢
          exact fun y hy => q7 y (List.mem_of_mem_drop hy)
        · subst e; exact hne _ _ _ rfl
        · cases e; exact .inl ⟨_, _, _, rfl⟩
    · rw [if_neg hle, if_pos ⟨hb, by omega⟩, q4]
      have hin : 0 + m * sz ≤ (cs ++ ex).length := by rw [q5, Nat.zero_add]; exact Nat.mul_le_mul_right _ q2
      simp only [hin, if_true]
      have htake : ((cs ++ ex).drop 0).take (m * sz) = cs := by rw [List.drop_zero, ← h1, List.take_left]
      rw [htake]
      rcases q6 with rfl | rfl
      · simp only [Kd.spare]
        refine hK _ _ _ ⟨hsum, .inr ⟨n, m + k, .loose sz, 0, [], rfl, Nat.lt_succ_self n, Nat.le_refl _, by omega, by rw [upd_same, List.append_nil], by rw [List.append_nil]; exact hsum, .inr rfl, rfl⟩⟩ (Nat.le_succ n) (fun i hi _ => upd_ne (by omega)) (fun i o m c e => ?_)
        cases e
        exact .inr (Nat.le_refl n)
      · simp only [Kd.spare, hf, and_self, if_true]
        refine hK _ _ _ ⟨hsum, .inr ⟨n, m + k, .loose sz, 0, [], rfl, Nat.lt_succ_self n, Nat.le_refl _, by omega, by rw [upd_same, List.append_nil], by rw [List.append_nil]; exact hsum, .inr rfl, rfl⟩⟩ (Nat.le_succ n) (fun j hj hne => ?_) (fun i o m c e => ?_)
        · rw [upd_ne (by omega), upd_ne (fun e => ?_)]
          subst e
          exact hne _ _ _ rfl
        · cases e
          exact .inr (Nat.le_refl n)
end Dm
end
section
set_option linter.defProp false
namespace Dm
open Go
theorem lt_t {a b : Int} (h : a < b) : (a < b) = True := eq_true h
theorem lt_f {a b : Int} (h : ¬ a < b) : (a < b) = False := eq_false h
theorem le_t {a b : Int} (h : a ≤ b) : (a ≤ b) = True := eq_true h
theorem le_f {a b : Int} (h : ¬ a ≤ b) : (a ≤ b) = False := eq_false h
theorem gt_t {a b : Int} (h : a > b) : (a > b) = True := eq_true h
theorem gt_f {a b : Int} (h : ¬ a > b) : (a > b) = False := eq_false h
theorem ge_t {a b : Int} (h : a ≥ b) : (a ≥ b) = True := eq_true h
theorem ge_f {a b : Int} (h : ¬ a ≥ b) : (a ≥ b) = False := eq_false h
theorem ltN_t {a b : Nat} (h : a < b) : (a < b) = True := eq_true h
theorem ltN_f {a b : Nat} (h : ¬ a < b) : (a < b) = False := eq_false h
theorem leN_t {a b : Nat} (h : a ≤ b) : (a ≤ b) = True := eq_true h
theorem leN_f {a b : Nat} (h : ¬ a ≤ b) : (a ≤ b) = False := eq_false h
theorem beq_t {a b : Int} (h : a = b) : (a == b) = true := beq_iff_eq.2 h
theorem beq_f {a b : Int} (h : ¬ a = b) : (a == b) = false := by simpa using h
theorem bne_t {a b : Int} (h : ¬ a = b) : (a != b) = true := by simpa using h
theorem bne_f {a b : Int} (h : a = b) : (a != b) = false := by simpa using h
/-- What stands behind a piece. -/
def cutE (M : PQ) : PQE
  | .normal => M
  | _ => fun _ _ _ => False
theorem cutE_normal {M : PQ} {pt : PT} {st : St} {n : Nat} : cutE M .normal pt st n = M pt st n := rfl
theorem V_cut {T : Tab} {pr : Prims} {c rest : MCode} {Q Q' : PQE} {id : Nat} {pt : PT} {st : St} {n : Nat} (M : PQ) (h : V T pr c (pBlk id (cutE M)) pt st n) (hM : ∀ pt st n, M pt st n → V T pr rest Q pt st n) : V T pr c (pBlk id (pThen (V T pr rest Q) Q')) pt st n := by
  refine V_mono (fun e pt st n h => ?_) h
  cases e with
  | normal => exact hM _ _ _ h
  | ret => exact h.elim
  | exit i =>
    rw [pBlk_exit] at h ⊢
    split
    · rename_i e; rw [if_pos e] at h; exact hM _ _ _ h
    · rename_i e; rw [if_neg e] at h; exact h.elim
/-- The element at a place. -/
theorem psubi {l : List Int} {j : Nat} (h : j < l.length) : psub (pints l) j 1 = some [.v (.int .i64 (l.getD j 0))] := by
  rw [psub_ints, List.getD_eq_getElem?_getD, List.getElem?_eq_getElem h]; rfl
theorem psubb {l : List Bool} {j : Nat} (h : j < l.length) : psub (pbools l) j 1 = some [.v (.bool (l.getD j false))] := by
  rw [psub_bools, List.getD_eq_getElem?_getD, List.getElem?_eq_getElem h]; rfl
theorem pget {L : List Int} {ex : List PV} {j : Nat} (h : j < L.length) : (pints L ++ ex)[j]? = some (.v (.int .i64 (L.getD j 0))) := by
  rw [List.getElem?_append_left (by simpa [pints] using h), pints, List.getElem?_map, List.getD_eq_getElem?_getD, List.getElem?_eq_getElem h]; rfl
theorem pget0 {L : List Int} {j : Nat} (h : j < L.length) : (pints L)[j]? = some (.v (.int .i64 (L.getD j 0))) := by
  rw [pints, List.getElem?_map, List.getD_eq_getElem?_getD, List.getElem?_eq_getElem h]; rfl
/-- A slice of a row of one's own, but at its very end. -/
theorem psl_own {st : St} {i vr h l m o : Nat} {fz : Bool} {kd : Kd} {cs : List PV} (hi : st i = .cells fz kd vr cs) (hk : kd = .fix ∨ kd = .loose 1) (hl : l < m) : psl st 1 true i o h l m = some (.row i (o + l * 1) (h - l) (m - l)) := by
  simp only [psl, hi]
  rcases hk with rfl | rfl
  · simp only [Kd.spare]; rw [if_neg (by omega)]
  · simp only [Kd.spare, if_true]; rw [if_pos ⟨trivial, by omega, by omega, by omega⟩]
theorem pcells_v {x : Value} : pcells (.v x) = [.v x] := rfl
theorem pcells_sl {m : Nat} {cs : List PV} : pcells (.sl m cs) = [.sl m cs] := rfl
theorem pcells_ep {cs : List PV} : pcells (.ep cs) = [.ep cs] := rfl
theorem pcells_agg {cs : List PV} : pcells (.agg cs) = cs := rfl
theorem pcells_fn {f : Nat} {cs : List PV} : pcells (.fn f cs) = [.fn f cs] := rfl
theorem pcells_ptr {i o : Nat} : pcells (.ptr i o) = [.ptr i o] := rfl
theorem pcells_row {i o m c : Nat} : pcells (.row i o m c) = [.row i o m c] := rfl
theorem pflat_v {x : Value} : pflat (.v x) = true := rfl
theorem pflat_sl {m : Nat} {cs : List PV} : pflat (.sl m cs) = true := rfl
theorem pflat_ep {cs : List PV} : pflat (.ep cs) = true := rfl
theorem pflat_fn {f : Nat} {cs : List PV} : pflat (.fn f cs) = true := rfl
theorem pflat_ptr {i o : Nat} : pflat (.ptr i o) = true := rfl
theorem pflat_row {i o m c : Nat} : pflat (.row i o m c) = true := rfl
theorem Lst.pc {st : St} {n sz m : Nat} {p : PV} {cs : List PV} (h : Lst st n p sz m cs) : pcells p = [p] := by
  rcases h.2 with ⟨rfl, _⟩ | ⟨i, c, kd, vr, ex, rfl, _⟩ <;> rfl
theorem Lst.pf {st : St} {n sz m : Nat} {p : PV} {cs : List PV} (h : Lst st n p sz m cs) : pflat p = true := by
  rcases h.2 with ⟨rfl, _⟩ | ⟨i, c, kd, vr, ex, rfl, _⟩ <;> rfl
/-- A list of one's own that is not written stays. -/
theorem Lst.keep {st st' : St} {n n' sz m : Nat} {p : PV} {cs : List PV} (h : Lst st n p sz m cs) (hn : n ≤ n') (hk : ∀ i o m c, p = .row i o m c → st' i = st i) : Lst st' n' p sz m cs := by
  refine ⟨h.1, ?_⟩
  rcases h.2 with ⟨rfl, h0⟩ | ⟨i, c, kd, vr, ex, rfl, q1, q2, q3, q4, q5⟩
  · exact .inl ⟨rfl, h0⟩
  · exact .inr ⟨i, c, kd, vr, ex, rfl, by omega, q2, q3, by rw [hk i 0 m c rfl]; exact q4, q5⟩
theorem Lst.lt {st : St} {n sz m : Nat} {p : PV} {cs : List PV} (h : Lst st n p sz m cs) {i o k c : Nat} (e : p = .row i o k c) : i < n := by
  rcases h.2 with ⟨rfl, h0⟩ | ⟨i', c', kd, vr, ex, rfl, q1, q2⟩
  · cases e
  · cases e; exact q1
/-- Values that hold no address of the store. -/
def PureL (l : List PV) : Prop := ∀ ok st, PurL ok st l l
def PureP (p : PV) : Prop := ∀ ok st, Pur ok st p p
theorem PureL.nil : PureL [] := fun _ _ => .nil
theorem PureL.cons {p : PV} {l : List PV} (h : PureP p) (hl : PureL l) : PureL (p :: l) := fun ok st => .cons (h ok st) (hl ok st)
theorem PureP.v (x : Value) : PureP (.v x) := fun _ _ => .v x
theorem PureP.sl (m : Nat) (cs : List PV) : PureP (.sl m cs) := fun _ _ => .sl m cs
theorem PureP.ep (cs : List PV) : PureP (.ep cs) := fun _ _ => .ep cs
theorem PureP.agg {l : List PV} (h : PureL l) : PureP (.agg l) := fun ok st => .agg rfl (h ok st).2
theorem PureP.tup {l : List PV} (h : PureL l) : PureP (.tup l) := fun ok st => .tup rfl (h ok st).2
theorem PureP.fn (f : Nat) {l : List PV} (h : PureL l) : PureP (.fn f l) := fun ok st => .fn f rfl (h ok st).2
theorem PureL.plain {l : List PV} (h : l.all isV = true) : PureL l := fun _ _ => .plain h
/-- The rules for reckoning, as one. -/
def PR :=
  And.intro @V_seq <| And.intro @V_skip <| And.intro @V_reg <| And.intro @V_dreg <| And.intro @V_blk <| And.intro @V_exit <|
  And.intro @V_ret <| And.intro @V_ite <| And.intro @vIte_true <| And.intro @vIte_false <| And.intro @pThen_normal <| And.intro @pThen_exit <|
  And.intro @pThen_ret <| And.intro @pBlk_normal <| And.intro @pBlk_ret <| And.intro @pBlk_exit <| And.intro @cutE_normal <| And.intro @pFun_normal <|
  And.intro @pFun_ret <| And.intro @pRes_some <| And.intro @Vos_nil' <| And.intro @Vos_go <| And.intro @Vos_guard' <| And.intro @vGuard_tt <|
  And.intro @vGuard_ff <| And.intro @vGuard_tf <| And.intro @vGuard_ft <| And.intro @pGo_some <| And.intro @pGo_ite <| And.intro @pOp_call <|
  And.intro @pCall_some <| And.intro @ptgt_fn <| And.intro @pput_some <| And.intro @pput_none <| And.intro @pev_t <| And.intro @pev_c <|
  And.intro @pev_f <| And.intro @keepP_nil <| And.intro @keepP_cons <| And.intro @ofL_zero <| And.intro @ofL_succ <| And.intro @ofL_nil <|
  And.intro @pOp_mv <| And.intro @pOp_pick <| And.intro @pOp_new <| And.intro @pOp_box <| And.intro @pOp_build <| And.intro @pOp_lit <|
  And.intro @pOp_ld <| And.intro @pOp_lds <| And.intro @pOp_st <| And.intro @pOp_chk <| And.intro @pOp_bin <| And.intro @pOp_eq <|
  And.intro @pOp_not <| And.intro @pOp_neg <| And.intro @pOp_cvt <| And.intro @pOp_bytes <| And.intro @pOp_fld <| And.intro @pOp_flds <|
  And.intro @pOp_fa <| And.intro @pOp_ia <| And.intro @pOp_ix <| And.intro @pOp_sl <| And.intro @pOp_sls <| And.intro @pOp_mk <|
  And.intro @pOp_iface <| And.intro @pOp_ext <| And.intro @pOp_fn <| And.intro @pOp_len <| And.intro @pOp_slen <| And.intro @pOp_max2 <|
  And.intro @pOp_cap <| And.intro @pOp_clr <| And.intro @pRound_normal <| And.intro @pRound_exit <| And.intro @pRound_ret <| And.intro @pCount_normal <|
  And.intro @pCount_exit <| And.intro @pCount_ret <| And.intro @upd_eq <| And.intro @pcells_v <| And.intro @pcells_sl <| And.intro @pcells_ep <|
  And.intro @pcells_agg <| And.intro @pcells_fn <| And.intro @pcells_ptr <| And.intro @pcells_row <| And.intro @pflat_v <| And.intro @pflat_sl <|
  And.intro @pflat_ep <| And.intro @pflat_fn <| And.intro @pflat_ptr <| And.intro @pflat_row <| And.intro @Option.map_some.{0, 0} <| And.intro @Option.map_none.{0, 0} <|
  And.intro @beq_self_eq_true.{0} <| And.intro @true_and <| And.intro @and_true <| And.intro @eq_self.{1} <| And.intro @List.map_cons.{0, 0} <| And.intro @List.map_nil.{0, 0} <|
  And.intro @List.cons_append.{0} <| And.intro @List.nil_append.{0} <| And.intro @List.append_nil.{0} <| And.intro @List.length_cons.{0} <| And.intro @List.length_nil.{0} <| And.intro @List.getElem?_cons_zero.{0} <|
  And.intro @List.getElem?_cons_succ.{0} <| And.intro @List.drop_succ_cons.{0} <| And.intro @List.drop_zero.{0} <| And.intro @List.take_succ_cons.{0} <| And.intro @List.take_zero.{0} <| And.intro @List.all_cons.{0} <|
  And.intro @List.all_nil.{0} <| And.intro @Bool.and_self <| And.intro @Bool.and_true <| And.intro @Bool.true_and <| And.intro @Bool.false_eq_true <| And.intro @Bool.true_eq_false <|
  And.intro @Option.isNone_none.{0} <| And.intro @Option.isNone_some.{0} <| And.intro @Option.isSome_none.{0} <| And.intro @Option.isSome_some.{0} <| And.intro @decide_eq_true_eq <| And.intro @decide_true <|
  And.intro @Int.toNat_natCast <| And.intro @Nat.mul_one <| And.intro @Nat.zero_add <| And.intro @pints_length <| And.intro @pbools_length <| And.intro @ne_eq.{1} <|
  And.intro @Int.toNat_zero <| And.intro @Nat.sub_zero <| And.intro @Int.sub_zero <| And.intro @Bool.not_true <| And.intro @Bool.not_false <| And.intro @lt_t <|
  And.intro @lt_f <| And.intro @le_t <| And.intro @le_f <| And.intro @gt_t <| And.intro @gt_f <| And.intro @ge_t <|
  And.intro @ge_f <| And.intro @ltN_t <| And.intro @ltN_f <| And.intro @leN_t <| And.intro @leN_f <| And.intro @beq_t <|
  And.intro @beq_f <| And.intro @bne_t <| And.intro @bne_f <| And.intro @wrap_id <| And.intro @psubi <| And.intro @psubb <|
  And.intro @pget <| And.intro @pget0 <| And.intro @decide_false <| And.intro @not_false_eq_true <| And.intro @not_true_eq_false <| And.intro @and_false <|
  And.intro @false_and <|
  @and_self
end Dm
end
section
set_option linter.unusedVariables false
set_option linter.unusedSimpArgs false
namespace Dm
open Go
variable {T : Tab} {pr : Prims} {B : Nat → Prop} {H H' : Heap}
/-- A slice that is handed over: nothing; or a row, whose cells are read. -/
theorem RepV.slc {μ : Nat → Nat} {n sz m : Nat} {cs : List PV} {s : Value} (h : RepV μ n B H (.sl m cs) s) (hl : cs.length = m * sz) :
    (∃ c, s = .slice none 0 c ∧ m = 0) ∨ ∃ a cs' c, s = .slice (some a) m c ∧ RepL μ 0 B H cs cs' ∧ lenV s = some m ∧ srcCells H sz m s = some cs' ∧ cs'.length = m * sz := by
  cases h with
  | sl0 h => exact .inl ⟨_, rfl, rfl⟩
  | sl9 => exact .inr ⟨_, [], _, rfl, .nil, rfl, by simp [srcCells], by simp⟩
  | sl h1 h2 h3 h4 h5 h6 h7 h8 =>
    rename_i c b o cs'
    refine .inr ⟨_, cs', _, rfl, ⟨h5, h8⟩, rfl, ?_, by rw [← h5]; exact hl⟩
    simp only [srcCells]
    split
    · rename_i h0
      rw [h0] at hl
      have : cs' = [] := List.eq_nil_of_length_eq_zero (by rw [← h5]; exact hl)
      rw [this]
    · rename_i h0
      rcases h6 with h6 | h6
      · subst h6; rw [hl] at h5; exact absurd h5 h0
      · rw [← hl, h5]; exact h6
theorem RepL.flat0 {μ : Nat → Nat} {n : Nat} {cs : List PV} {cs' : List Value} (h : RepL μ n B H cs cs') (hf : cs.all isV = true) : cs'.all Dm.flat = true :=
  h.flat (by rw [List.all_eq_true] at hf ⊢; intro x hx; have := hf x hx; cases x <;> first | rfl | cases this)

theorem pints_take {l : List Int} {n : Nat} : (pints l).take n = pints (l.take n) := by simp [pints, List.map_take]
theorem pints_drop {l : List Int} {n : Nat} : (pints l).drop n = pints (l.drop n) := by simp [pints, List.map_drop]
theorem pints_inj {l k : List Int} (h : pints l = pints k) : l = k := by
  induction l generalizing k with
  | nil => cases k with
    | nil => rfl
    | cons x k => cases h
  | cons x l ih => cases k with
    | nil => cases h
    | cons y k =>
      simp only [pints, List.map_cons, List.cons.injEq, PV.v.injEq, Value.int.injEq, true_and] at h
      rw [h.1, ih h.2]
/-- Cells are copied into a row of whole numbers. -/
theorem cpy_ints {K : PQ} {pt : PT} {st : St} {n i o dl c sl vr : Nat} {kd : Kd} {d : Option Nat} {keep : List X} {x y : X} {p : PV} {L new : List Int} (hx : pev pt x = .row i o dl c) (hy : pev pt y = p) (hp : plen p = some sl) (hc : pcop st 1 (min sl dl) p = some (pints new)) (hnew : new.length = min sl dl)
    (hi : st i = .cells false kd vr (pints L)) (hkw : kd.w = true) (hle : o + new.length ≤ L.length)
    (hK : ∀ st' v', st' i = .cells false kd v' (pints (L.take o ++ new ++ L.drop (o + new.length))) → (∀ j, j ≠ i → st' j = st j) → keepP pt st st' keep ∧ K (pput pt d (.v (.int .i64 (min sl dl : Nat)))) st' n) : pOp T pr (.cpy 1 x y) d keep pt st n K := by
  show pGo (pop (pev pt) st n (.cpy 1 x y)) d keep pt st K
  simp only [pop, hx, hy, hp, hc]
  cases new with
  | nil =>
    simp only [pints, List.map_nil]
    exact hK st vr (by simpa using hi) (fun _ _ => rfl)
  | cons a new =>
    have e : pints (a :: new) = .v (.int .i64 a) :: pints new := rfl
    simp only [e]
    have hw : pwr st i o (.v (.int .i64 a) :: pints new) = some (upd st i (.cells false kd (vr + 1) (pints (L.take o ++ (a :: new) ++ L.drop (o + (a :: new).length))))) := by
      simp only [pwr, hi]
      rw [if_pos ⟨hkw, by simpa [pints_length] using hle, by rw [← e]; exact pints_flat⟩]
      congr 3
      rw [← e, pints_take, pints_drop, pints_append, pints_append, pints_length]
    rw [hw]
    exact hK _ _ (upd_same _ _ _) (fun j hj => upd_ne hj)
/-- Part of a row of one's own, looked through. -/
theorem pur_part {st : St} {i n c vr : Nat} {fz : Bool} {kd : Kd} {L : List Int} {ex : List PV} (h : st i = .cells fz kd vr (pints L ++ ex)) (hk : kd = .fix ∨ kd = .loose 1) (hn : n ≤ L.length) : Pur anyRow st (.row i 0 n c) (.sl (L.take n).length (pints (L.take n))) := by
  have e : (L.take n).length = n := by simp; omega
  rw [e]
  refine .row (sz := 1) h trivial (by rcases hk with rfl | rfl <;> simp [Kd.spare]) (by simp [pints_length]; omega) (by simp [pints_length]; omega) ?_
  have : ((pints L ++ ex).drop 0).take (n * 1) = pints (L.take n) := by
    rw [List.drop_zero, Nat.mul_one, List.take_append_of_le_length (by simpa [pints_length] using hn), pints_take]
  rw [this]
  exact (PurL.plain pints_V).2
/-- A row of one's own, cut short. -/
theorem Lst.cut {st : St} {n i m c q : Nat} {L : List Int} (h : Lst st n (.row i 0 m c) 1 m (pints L)) (hq : q ≤ m) : Lst st n (.row i 0 q c) 1 q (pints (L.take q)) := by
  have hL : L.length = m := by have := h.1; simpa [pints_length] using this
  rcases h.2 with ⟨e, _⟩ | ⟨i', c', kd, vr, ex, e, q1, q2, q3, q4, q5, q6, q7⟩
  · cases e
  · cases e
    refine ⟨by simp [pints_length]; omega, .inr ⟨i, c, kd, vr, pints (L.drop q) ++ ex, rfl, q1, by omega, q3, ?_, ?_, q6, ?_⟩⟩
    · rw [q4, ← List.append_assoc, pints_append, List.take_append_drop]
    · rw [← List.append_assoc, pints_append, List.take_append_drop]; exact q5
    · rw [List.all_append, pints_V, q7]; rfl
/-- A list that is not empty stands in a row. -/
theorem Lst.row' {st : St} {n m : Nat} {P : PV} {L : List Int} (h : Lst st n P 1 m (pints L)) (hm : 0 < m) : ∃ i c kd vr ex, P = .row i 0 m c ∧ i < n ∧ m ≤ c ∧ c < 9223372036854775808 ∧ st i = .cells false kd vr (pints L ++ ex) ∧ (kd = .fix ∨ kd = .loose 1) ∧ L.length = m := by
  have hL : L.length = m := by have := h.1; simpa [pints_length] using this
  rcases h.2 with ⟨_, h0⟩ | ⟨i', c', kd, vr, ex, e, q1, q2, q3, q4, q5, q6, q7⟩
  · omega
  · exact ⟨i', c', kd, vr, ex, e, q1, q2, q3, q4, q6, hL⟩
end Dm
end
