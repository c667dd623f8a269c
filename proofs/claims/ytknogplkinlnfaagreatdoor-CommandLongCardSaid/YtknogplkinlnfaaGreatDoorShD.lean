/- Rules by which the machine's runs are told for arguments that are not known: no conditions. -/
import Derived.Test.YtknogplkinlnfaaGreatDoorShA
set_option linter.unusedVariables false
set_option linter.unusedSimpArgs false
set_option linter.unusedSectionVars false
namespace Go.Shadow
open Go

variable {C : Ctx} {E E' : Ev}

/-! ## More fuel gives no other answer -/

structure Ev.Le (E E' : Ev) : Prop where
  code : ∀ c e st r, E.code c e st = some r → E'.code c e st = some r
  call : ∀ f args st r, E.call f args st = some r → E'.call f args st = some r
  yield : ∀ b args st r, E.yield b args st = some r → E'.yield b args st = some r

theorem Ev.Le.refl (E : Ev) : E.Le E := ⟨fun _ _ _ _ h => h, fun _ _ _ _ h => h, fun _ _ _ _ h => h⟩
theorem Ev.Le.trans {E E' E'' : Ev} (a : E.Le E') (b : E'.Le E'') : E.Le E'' := ⟨fun _ _ _ _ h => b.code _ _ _ _ (a.code _ _ _ _ h), fun _ _ _ _ h => b.call _ _ _ _ (a.call _ _ _ _ h), fun _ _ _ _ h => b.yield _ _ _ _ (a.yield _ _ _ _ h)⟩

theorem callMeth_le (h : E.Le E') {recv : AVal} {name : String} {args : List AVal} {st : St} {r : AVal × St} (hr : callMeth C E recv name args st = some r) : callMeth C E' recv name args st = some r := by
  unfold callMeth at hr ⊢
  split at hr
  · split at hr
    · rename_i hm; (try simp only [hm]); exact h.call _ _ _ _ hr
    · rename_i hm
      (try simp only [hm])
      split at hr
      · rename_i hl; (try simp only [hl]); exact h.call _ _ _ _ hr
      · cases hr
    · cases hr
  · cases hr

theorem callVal_le (h : E.Le E') {v : AVal} {args : List AVal} {st : St} {r : AVal × St} (hr : callVal C E v args st = some r) : callVal C E' v args st = some r := by
  unfold callVal at hr ⊢
  split at hr
  · exact h.call _ _ _ _ hr
  · split at hr
    · rename_i he; (try simp only [he]); exact callMeth_le h hr
    · cases hr
  · exact h.yield _ _ _ _ hr
  · cases hr

theorem stepAny_le (h : E.Le E') {e : Env} {op : AOp} {st : St} {r : AVal × St} (hr : stepAny C E e op st = some r) : stepAny C E' e op st = some r := by
  unfold stepAny at hr ⊢
  split at hr
  · split at hr
    · rename_i hv; (try simp only [hv]); exact h.call _ _ _ _ hr
    · cases hr
  · split at hr
    · rename_i hv hv'; (try simp only [hv, hv']); exact callVal_le h hr
    · cases hr
  · split at hr
    · rename_i hv hv'; (try simp only [hv, hv']); exact callMeth_le h hr
    · cases hr
  · exact hr

theorem evalOps_le (h : E.Le E') : ∀ {ops : List AOper} {e : Env} {st : St} {r : Env × St}, evalOps C E ops e st = some r → evalOps C E' ops e st = some r
  | [], _, _, _, hr => hr
  | o :: os, e, st, r, hr => by
    simp only [evalOps] at hr ⊢
    split at hr
    · rename_i hw
      split at hr
      · rename_i hs
        simp only [stepAny_le h hs]
        exact evalOps_le h hr
      · cases hr
    · exact evalOps_le h hr
    · cases hr

theorem evalDraw_le (h : E.Le E') {un : List (Nat × Nat)} {base : Nat} : ∀ {ops : List AOper} {ls : List Look} {ws : List (Nat × St × St)} {cs fs : List Nat} {e : Env} {st : St} {r : Env × St},
    evalDraw C E un base ls ws cs fs ops e st = some r → evalDraw C E' un base ls ws cs fs ops e st = some r
  | [], _, _, _, _, _, _, _, hr => hr
  | o :: os, ls, ws, cs, fs, e, st, r, hr => by
    simp only [evalDraw] at hr ⊢
    split at hr
    · rename_i hw
      split at hr
      · rename_i hk
        split at hr
        · rename_i s hs
          split at hr
          · exact evalDraw_le h hr
          · cases hr
        · cases hr
      · rename_i hk
        split at hr
        · rename_i v st1 hst
          simp only [stepAny_le h hst]
          split at hr
          · rename_i hkp; exact evalDraw_le h hr
          · rename_i hkr; exact evalDraw_le h hr
          · rename_i hnp hnr
            split at hr
            · rename_i hun
              simp only [hun]
              exact evalDraw_le h hr
            · cases hr
        · cases hr
    · exact evalDraw_le h hr
    · cases hr

theorem evalCode_le (h : E.Le E') : ∀ {c : ACode} {e : Env} {st : St} {r : AExit × Env × St}, evalCode C E c e st = some r → evalCode C E' c e st = some r
  | .skip, _, _, _, hr => hr
  | .label _, _, _, _, hr => hr
  | .exit _, _, _, _, hr => hr
  | .goto _, _, _, _, hr => hr
  | .ret, _, _, _, hr => hr
  | .fail, _, _, _, hr => hr
  | .region ops, e, st, r, hr => by
    simp only [evalCode] at hr ⊢
    split at hr
    · rename_i ho; simp only [evalOps_le h ho]; exact hr
    · cases hr
  | .draw ops un k, e, st, r, hr => by
    simp only [evalCode] at hr ⊢
    split at hr
    · rename_i ho; simp only [evalDraw_le h ho]; exact hr
    · cases hr
  | .seq a b, e, st, r, hr => by
    simp only [evalCode] at hr ⊢
    split at hr
    · rename_i ha; simp only [evalCode_le h ha]; exact evalCode_le h hr
    · rename_i hn
      rw [evalCode_le h hr]
      split
      · rename_i e' st' hx; exact absurd (by rw [hr, hx]) (hn e' st')
      · rfl
  | .cond c a b, e, st, r, hr => by
    simp only [evalCode] at hr ⊢
    split at hr
    · split at hr
      · exact evalCode_le h hr
      · exact evalCode_le h hr
    · cases hr
  | .block id a, e, st, r, hr => by
    simp only [evalCode] at hr ⊢
    split at hr
    · rename_i ha; simp only [evalCode_le h ha]; exact hr
    · rename_i hn
      rw [evalCode_le h hr]
      split
      · rename_i j e' st' hx; exact absurd (by rw [hr, hx]) (hn j e' st')
      · rfl
  | .loop l a, e, st, r, hr => by
    simp only [evalCode] at hr ⊢
    split at hr
    · rename_i ha; simp only [evalCode_le h ha]; exact h.code _ _ _ _ hr
    · rename_i hn
      rw [evalCode_le h hr]
      split
      · rename_i e' st' hx; exact absurd (by rw [hr, hx]) (hn e' st')
      · rfl
  | .scope l a c, e, st, r, hr => by
    simp only [evalCode] at hr ⊢
    split at hr
    · rename_i lb e1 st1 ha
      simp only [evalCode_le h ha]
      split at hr
      · rename_i hf; (try simp only [hf]); exact h.code _ _ _ _ hr
      · rename_i hf; (try simp only [hf]); exact hr
    · rename_i hn
      rw [evalCode_le h hr]
      split
      · rename_i lb e' st' hx; exact absurd (by rw [hr, hx]) (hn lb e' st')
      · rfl
  | .rangeFunc f ps a b, e, st, r, hr => by
    simp only [evalCode] at hr ⊢
    split at hr
    · rename_i v hv
      split at hr
      · rename_i hen
        split at hr
        · rename_i hc
          (try simp only [hen, callVal_le h hc, if_true])
          exact hr
        · cases hr
      · cases hr
    · cases hr

theorem Ev.Le.next (h : E.Le E') : (E.next C).Le (E'.next C) where
  code := fun c e st r hr => evalCode_le h hr
  call := fun f args st r hr => by
    simp only [Ev.next, evalCall] at hr ⊢
    split at hr
    · rename_i hp; rw [if_pos hp]; exact hr
    · rename_i hp
      rw [if_neg hp]
      split at hr
      · cases hr
      · rename_i fn hf
        split at hr
        · rename_i x e st' hc
          simp only [evalCode_le h hc]
          exact hr
        · cases hr
  yield := fun b args st r hr => by
    simp only [Ev.next, evalYield] at hr ⊢
    split at hr
    · rename_i hb
      split at hr
      · rename_i hs
        split at hr
        · rename_i h1
          simp only [evalCode_le h h1]
          split at hr
          · rename_i h2
            split at hr
            · rename_i h3
              simp only [evalCode_le h h3]
              exact hr
            · cases hr
          · cases hr
        · cases hr
      · cases hr
    · cases hr

theorem ev_le_succ : ∀ n, (ev C n).Le (ev C (n + 1))
  | 0 => ⟨fun _ _ _ _ h => by simp [ev, Ev.none] at h, fun _ _ _ _ h => by simp [ev, Ev.none] at h, fun _ _ _ _ h => by simp [ev, Ev.none] at h⟩
  | n + 1 => (ev_le_succ n).next

theorem ev_le {n m : Nat} (h : n ≤ m) : (ev C n).Le (ev C m) := by
  induction h with
  | refl => exact .refl _
  | step _ ih => exact ih.trans (ev_le_succ _)

end Go.Shadow

namespace Go.Shadow
open Go

variable {C : Ctx}

/-! ## What code comes to, whatever the fuel -/

def WP (C : Ctx) (c : ACode) (e : Env) (st : St) (Q : AExit → Env → St → Prop) : Prop := ∃ n x e' st', evalCode C (ev C n) c e st = some (x, e', st') ∧ Q x e' st'
def WPOps (C : Ctx) (ops : List AOper) (e : Env) (st : St) (Q : Env → St → Prop) : Prop := ∃ n e' st', evalOps C (ev C n) ops e st = some (e', st') ∧ Q e' st'
def WPStep (C : Ctx) (op : AOp) (e : Env) (st : St) (Q : AVal → St → Prop) : Prop := ∃ n v st', stepAny C (ev C n) e op st = some (v, st') ∧ Q v st'
def WPCall (C : Ctx) (f : FuncId) (args : List AVal) (st : St) (Q : AVal → St → Prop) : Prop := ∃ n v st', (ev C n).call f args st = some (v, st') ∧ Q v st'
def WPVal (C : Ctx) (x : AVal) (args : List AVal) (st : St) (Q : AVal → St → Prop) : Prop := ∃ n v st', callVal C (ev C n) x args st = some (v, st') ∧ Q v st'

theorem WPCall.mono {f : FuncId} {args : List AVal} {st : St} {Q Q' : AVal → St → Prop} (h : WPCall C f args st Q) (hq : ∀ v st', Q v st' → Q' v st') : WPCall C f args st Q' :=
  let ⟨n, v, st', h1, h2⟩ := h; ⟨n, v, st', h1, hq _ _ h2⟩
theorem WP.mono {c : ACode} {e : Env} {st : St} {Q Q' : AExit → Env → St → Prop} (h : WP C c e st Q) (hq : ∀ x e' st', Q x e' st' → Q' x e' st') : WP C c e st Q' :=
  let ⟨n, x, e', st', h1, h2⟩ := h; ⟨n, x, e', st', h1, hq _ _ _ h2⟩

/-- A call that comes to just this. -/
theorem wpCall_iff {f : FuncId} {args : List AVal} {st : St} {v : AVal} {st' : St} (h : WPCall C f args st fun w s => w = v ∧ s = st') {Q : AVal → St → Prop} : WPCall C f args st Q ↔ Q v st' := by
  obtain ⟨n, v, st', h1, rfl, rfl⟩ := h
  refine ⟨fun ⟨m, w, s, h2, hq⟩ => ?_, fun hq => ⟨n, _, _, h1, hq⟩⟩
  have e1 := (ev_le (C := C) (Nat.le_max_left n m)).call _ _ _ _ h1
  have e2 := (ev_le (C := C) (Nat.le_max_right n m)).call _ _ _ _ h2
  rw [e1] at e2
  cases e2
  exact hq

theorem wpCall_of_ev {n : Nat} {f : FuncId} {args : List AVal} {st : St} {v : AVal} {st' : St} (h : (ev C n).call f args st = some (v, st')) : WPCall C f args st fun w s => w = v ∧ s = st' := ⟨n, v, st', h, rfl, rfl⟩

def seqQ (k : Env → St → Prop) (Q : AExit → Env → St → Prop) : AExit → Env → St → Prop
  | .normal, e, st => k e st
  | x, e, st => Q x e st
def blockQ (id : Nat) (Q : AExit → Env → St → Prop) : AExit → Env → St → Prop
  | .exit j, e, st => if j = id then Q .normal e st else Q (.exit j) e st
  | x, e, st => Q x e st
def scopeQ (C : Ctx) (live : List Nat) (body : ACode) (Q : AExit → Env → St → Prop) : AExit → Env → St → Prop
  | .goto l, e, st => match findLabelA body l with
    | some rest => WP C (.scope live body rest) (e.restrict live) st Q
    | none => Q (.goto l) e st
  | x, e, st => Q x e st
def condQ (v : Option AVal) (A B : Prop) : Prop :=
  match v with
  | some (.bool t) => (t = true → A) ∧ (t = false → B)
  | _ => False
def wantQ (v : Option Bool) (A B : Prop) : Prop :=
  match v with
  | some t => (t = true → A) ∧ (t = false → B)
  | none => False
def someQ (r : Option (AVal × St)) (Q : AVal → St → Prop) : Prop :=
  match r with
  | some (v, st) => Q v st
  | none => False
def stepQ (C : Ctx) (op : AOp) (e : Env) (st : St) (Q : AVal → St → Prop) : Prop :=
  match op with
  | .call f args => match evOs C e args with
    | some vs => WPCall C f vs st Q
    | none => False
  | .callv f args => match evO C e f, evOs C e args with
    | some v, some vs => WPVal C v vs st Q
    | _, _ => False
  | .invoke _ _ _ => WPStep C op e st Q
  | op => someQ (stepOp C e op st) Q

theorem wp_skip {e : Env} {st : St} {Q : AExit → Env → St → Prop} : WP C .skip e st Q ↔ Q .normal e st :=
  ⟨fun ⟨_, _, _, _, h, hq⟩ => by simp only [evalCode, Option.some.injEq, Prod.mk.injEq] at h; obtain ⟨rfl, rfl, rfl⟩ := h; exact hq, fun hq => ⟨0, _, _, _, rfl, hq⟩⟩
theorem wp_label {l : Nat} {e : Env} {st : St} {Q : AExit → Env → St → Prop} : WP C (.label l) e st Q ↔ Q .normal e st :=
  ⟨fun ⟨_, _, _, _, h, hq⟩ => by simp only [evalCode, Option.some.injEq, Prod.mk.injEq] at h; obtain ⟨rfl, rfl, rfl⟩ := h; exact hq, fun hq => ⟨0, _, _, _, rfl, hq⟩⟩
theorem wp_exit {l : Nat} {e : Env} {st : St} {Q : AExit → Env → St → Prop} : WP C (.exit l) e st Q ↔ Q (.exit l) e st :=
  ⟨fun ⟨_, _, _, _, h, hq⟩ => by simp only [evalCode, Option.some.injEq, Prod.mk.injEq] at h; obtain ⟨rfl, rfl, rfl⟩ := h; exact hq, fun hq => ⟨0, _, _, _, rfl, hq⟩⟩
theorem wp_goto {l : Nat} {e : Env} {st : St} {Q : AExit → Env → St → Prop} : WP C (.goto l) e st Q ↔ Q (.goto l) e st :=
  ⟨fun ⟨_, _, _, _, h, hq⟩ => by simp only [evalCode, Option.some.injEq, Prod.mk.injEq] at h; obtain ⟨rfl, rfl, rfl⟩ := h; exact hq, fun hq => ⟨0, _, _, _, rfl, hq⟩⟩
theorem wp_ret {e : Env} {st : St} {Q : AExit → Env → St → Prop} : WP C .ret e st Q ↔ Q .ret e st :=
  ⟨fun ⟨_, _, _, _, h, hq⟩ => by simp only [evalCode, Option.some.injEq, Prod.mk.injEq] at h; obtain ⟨rfl, rfl, rfl⟩ := h; exact hq, fun hq => ⟨0, _, _, _, rfl, hq⟩⟩

theorem code_mono {n m : Nat} (h : n ≤ m) {c : ACode} {e : Env} {st : St} {r : AExit × Env × St} (hr : evalCode C (ev C n) c e st = some r) : evalCode C (ev C m) c e st = some r := evalCode_le (ev_le h) hr

theorem wp_seq {a b : ACode} {e : Env} {st : St} {Q : AExit → Env → St → Prop} : WP C (.seq a b) e st Q ↔ WP C a e st (seqQ (fun e st => WP C b e st Q) Q) := by
  constructor
  · rintro ⟨n, x, e', st', h, hq⟩
    simp only [evalCode] at h
    split at h
    · rename_i e1 st1 h1
      exact ⟨n, _, _, _, h1, n, _, _, _, h, hq⟩
    · rename_i hn
      refine ⟨n, x, e', st', h, ?_⟩
      cases x with
      | normal => exact absurd h (hn e' st')
      | _ => exact hq
  · rintro ⟨n, x, e1, st1, h1, hq⟩
    cases x with
    | normal =>
      obtain ⟨m, y, e', st', h2, hq⟩ := hq
      refine ⟨max n m, y, e', st', ?_, hq⟩
      simp only [evalCode, code_mono (Nat.le_max_left n m) h1, code_mono (Nat.le_max_right n m) h2]
    | exit j => exact ⟨n, _, e1, st1, by simp only [evalCode, h1], hq⟩
    | goto j => exact ⟨n, _, e1, st1, by simp only [evalCode, h1], hq⟩
    | ret => exact ⟨n, _, e1, st1, by simp only [evalCode, h1], hq⟩

theorem wp_cond {c : Oprd} {a b : ACode} {e : Env} {st : St} {Q : AExit → Env → St → Prop} : WP C (.cond c a b) e st Q ↔ condQ (evO C e c) (WP C a e st Q) (WP C b e st Q) := by
  unfold WP condQ
  simp only [evalCode]
  cases evO C e c with
  | none => simp
  | some v => cases v with
    | bool t => cases t <;> simp
    | _ => simp

theorem wp_block {id : Nat} {a : ACode} {e : Env} {st : St} {Q : AExit → Env → St → Prop} : WP C (.block id a) e st Q ↔ WP C a e st (blockQ id Q) := by
  constructor
  · rintro ⟨n, x, e', st', h, hq⟩
    simp only [evalCode] at h
    split at h
    · rename_i j e1 st1 h1
      refine ⟨n, _, _, _, h1, ?_⟩
      simp only [blockQ]
      split at h
      · rename_i hj; rw [if_pos hj]; cases h; exact hq
      · rename_i hj; rw [if_neg hj]; cases h; exact hq
    · rename_i hn
      refine ⟨n, x, e', st', h, ?_⟩
      cases x with
      | exit j => exact absurd h (hn j e' st')
      | _ => exact hq
  · rintro ⟨n, x, e1, st1, h1, hq⟩
    cases x with
    | exit j =>
      simp only [blockQ] at hq
      by_cases hj : j = id
      · rw [if_pos hj] at hq
        exact ⟨n, _, _, _, by simp only [evalCode, h1, if_pos hj], hq⟩
      · rw [if_neg hj] at hq
        exact ⟨n, _, _, _, by simp only [evalCode, h1, if_neg hj], hq⟩
    | normal => exact ⟨n, _, e1, st1, by simp only [evalCode, h1], hq⟩
    | goto j => exact ⟨n, _, e1, st1, by simp only [evalCode, h1], hq⟩
    | ret => exact ⟨n, _, e1, st1, by simp only [evalCode, h1], hq⟩

theorem ev_code {n : Nat} : (ev C (n + 1)).code = evalCode C (ev C n) := rfl

theorem wp_loop {live : List Nat} {a : ACode} {e : Env} {st : St} {Q : AExit → Env → St → Prop} : WP C (.loop live a) e st Q ↔ WP C a (e.restrict live) st (seqQ (fun e st => WP C (.loop live a) e st Q) Q) := by
  constructor
  · rintro ⟨n, x, e', st', h, hq⟩
    simp only [evalCode] at h
    split at h
    · rename_i e1 st1 h1
      cases n with
      | zero => simp [ev, Ev.none] at h
      | succ n => exact ⟨n + 1, _, _, _, h1, n, _, _, _, h, hq⟩
    · rename_i hn
      refine ⟨n, x, e', st', h, ?_⟩
      cases x with
      | normal => exact absurd h (hn e' st')
      | _ => exact hq
  · rintro ⟨n, x, e1, st1, h1, hq⟩
    cases x with
    | normal =>
      obtain ⟨m, y, e', st', h2, hq⟩ := hq
      refine ⟨max n m + 1, y, e', st', ?_, hq⟩
      simp only [evalCode, code_mono (Nat.le_succ_of_le (Nat.le_max_left n m)) h1, ev_code]
      exact code_mono (Nat.le_max_right n m) h2
    | exit j => exact ⟨n, _, e1, st1, by simp only [evalCode, h1], hq⟩
    | goto j => exact ⟨n, _, e1, st1, by simp only [evalCode, h1], hq⟩
    | ret => exact ⟨n, _, e1, st1, by simp only [evalCode, h1], hq⟩

theorem wp_scope {live : List Nat} {body cur : ACode} {e : Env} {st : St} {Q : AExit → Env → St → Prop} : WP C (.scope live body cur) e st Q ↔ WP C cur e st (scopeQ C live body Q) := by
  constructor
  · rintro ⟨n, x, e', st', h, hq⟩
    simp only [evalCode] at h
    split at h
    · rename_i l e1 st1 h1
      refine ⟨n, _, _, _, h1, ?_⟩
      simp only [scopeQ]
      split at h
      · rename_i rest hr
        simp only [hr]
        cases n with
        | zero => simp [ev, Ev.none] at h
        | succ n => exact ⟨n, _, _, _, h, hq⟩
      · rename_i hr
        simp only [hr]
        cases h
        exact hq
    · rename_i hn
      refine ⟨n, x, e', st', h, ?_⟩
      cases x with
      | goto l => exact absurd h (hn l e' st')
      | _ => exact hq
  · rintro ⟨n, x, e1, st1, h1, hq⟩
    cases x with
    | goto l =>
      simp only [scopeQ] at hq
      split at hq
      · rename_i rest hr
        obtain ⟨m, y, e', st', h2, hq⟩ := hq
        refine ⟨max n m + 1, y, e', st', ?_, hq⟩
        simp only [evalCode, code_mono (Nat.le_succ_of_le (Nat.le_max_left n m)) h1, hr, ev_code]
        exact code_mono (Nat.le_max_right n m) h2
      · rename_i hr
        exact ⟨n, _, _, _, by simp only [evalCode, h1, hr], hq⟩
    | normal => exact ⟨n, _, e1, st1, by simp only [evalCode, h1], hq⟩
    | exit j => exact ⟨n, _, e1, st1, by simp only [evalCode, h1], hq⟩
    | ret => exact ⟨n, _, e1, st1, by simp only [evalCode, h1], hq⟩

theorem wp_region {ops : List AOper} {e : Env} {st : St} {Q : AExit → Env → St → Prop} : WP C (.region ops) e st Q ↔ WPOps C ops e st (Q .normal) := by
  constructor
  · rintro ⟨n, x, e', st', h, hq⟩
    simp only [evalCode] at h
    split at h
    · rename_i h1; cases h; exact ⟨n, _, _, h1, hq⟩
    · cases h
  · rintro ⟨n, e', st', h, hq⟩
    exact ⟨n, _, _, _, by simp only [evalCode, h], hq⟩

theorem wp_ops_nil {e : Env} {st : St} {Q : Env → St → Prop} : WPOps C [] e st Q ↔ Q e st := by
  constructor
  · rintro ⟨n, e', st', h, hq⟩
    simp only [evalOps, Option.some.injEq, Prod.mk.injEq] at h
    obtain ⟨rfl, rfl⟩ := h
    exact hq
  · exact fun hq => ⟨0, _, _, rfl, hq⟩

theorem wp_ops {o : AOper} {os : List AOper} {e : Env} {st : St} {Q : Env → St → Prop} : WPOps C (o :: os) e st Q ↔ wantQ (wantedA e o.guard) (WPStep C o.op e st fun v st' => WPOps C os (e.put o.dst v) st' Q) (WPOps C os (e.put o.dst (.tuple [])) st Q) := by
  unfold wantQ
  constructor
  · rintro ⟨n, e', st', h, hq⟩
    simp only [evalOps] at h
    split at h
    · rename_i hw
      rw [hw]
      split at h
      · rename_i v st1 h1
        exact ⟨fun _ => ⟨n, v, st1, h1, n, e', st', h, hq⟩, fun hf => (by cases hf)⟩
      · cases h
    · rename_i hw
      rw [hw]
      exact ⟨fun hf => (by cases hf), fun _ => ⟨n, e', st', h, hq⟩⟩
    · cases h
  · intro h
    split at h
    · rename_i t hw
      cases t with
      | true =>
        obtain ⟨n, v, st1, h1, m, e', st', h2, hq⟩ := h.1 rfl
        refine ⟨max n m, e', st', ?_, hq⟩
        simp only [evalOps, hw, stepAny_le (ev_le (Nat.le_max_left n m)) h1]
        exact evalOps_le (ev_le (Nat.le_max_right n m)) h2
      | false =>
        obtain ⟨n, e', st', h2, hq⟩ := h.2 rfl
        exact ⟨n, e', st', by simp only [evalOps, hw]; exact h2, hq⟩
    · cases h

theorem wp_step {op : AOp} {e : Env} {st : St} {Q : AVal → St → Prop} : WPStep C op e st Q ↔ stepQ C op e st Q := by
  unfold stepQ
  split
  · rename_i f args
    unfold WPStep WPCall
    simp only [stepAny]
    cases evOs C e args with
    | none => simp
    | some vs => simp
  · rename_i f args
    unfold WPStep WPVal
    simp only [stepAny]
    cases evO C e f with
    | none => simp
    | some v => cases evOs C e args with
      | none => simp
      | some vs => simp
  · exact Iff.rfl
  · rename_i h1 h2 h3
    unfold WPStep someQ
    have : ∀ n, stepAny C (ev C n) e op st = stepOp C e op st := fun n => by
      unfold stepAny
      split
      · exact absurd rfl (h1 _ _)
      · exact absurd rfl (h2 _ _)
      · exact absurd rfl (h3 _ _ _)
      · rfl
    simp only [this]
    cases stepOp C e op st with
    | none => simp
    | some r =>
      obtain ⟨v, s⟩ := r
      simp only [Option.some.injEq, Prod.mk.injEq]
      exact ⟨fun ⟨_, _, _, ⟨h, h'⟩, hq⟩ => h ▸ h' ▸ hq, fun hq => ⟨0, v, s, ⟨rfl, rfl⟩, hq⟩⟩

theorem wp_val_func {f : FuncId} {a b args : List AVal} {st : St} {Q : AVal → St → Prop} : WPVal C (.func (.func f) a b) args st Q ↔ WPCall C f (a ++ args ++ b) st Q := Iff.rfl

def retQ (keep : Bool) (rs : List AResult) (st : St) (Q : AVal → St → Prop) (x : AExit) (e : Env) (st' : St) : Prop :=
  match x with
  | .normal | .ret => match resultsA e st'.h rs with
    | some vs => Q (finish keep st.h.length st.d (oneOf vs) st').1 (finish keep st.h.length st.d (oneOf vs) st').2
    | none => False
  | _ => False

theorem wp_call {f : FuncId} {fn : AFunc} (hf : C.funcs f = some fn) (hp : C.isPrim f = false) {args : List AVal} {st : St} {Q : AVal → St → Prop} :
    WPCall C f args st Q ↔ WP C fn.body (args.zipIdx.map fun (v, i) => (i, v)) { h := st.h, d := [] } (retQ (C.keep f) fn.results st Q) := by
  constructor
  · rintro ⟨n, v, st', h, hq⟩
    cases n with
    | zero => simp [ev, Ev.none] at h
    | succ n =>
      simp only [ev, Ev.next, evalCall, hf, hp, Bool.false_eq_true, if_false] at h
      split at h
      · rename_i x e s hc
        refine ⟨n, x, e, s, hc, ?_⟩
        split at h
        · split at h
          · rename_i vs hvs
            simp only [retQ, hvs]
            simp only [Option.some.injEq] at h
            rw [h]
            exact hq
          · cases h
        · split at h
          · rename_i vs hvs
            simp only [retQ, hvs]
            simp only [Option.some.injEq] at h
            rw [h]
            exact hq
          · cases h
        · cases h
      · cases h
  · rintro ⟨n, x, e, s, hc, hq⟩
    unfold retQ at hq
    refine ⟨n + 1, ?_⟩
    simp only [ev, Ev.next, evalCall, hf, hp, Bool.false_eq_true, if_false, hc]
    split at hq
    · split at hq
      · rename_i vs hvs
        simp only [hvs]
        exact ⟨_, _, rfl, hq⟩
      · cases hq
    · split at hq
      · rename_i vs hvs
        simp only [hvs]
        exact ⟨_, _, rfl, hq⟩
      · cases hq
    · cases hq

theorem wp_prim {f : FuncId} (hp : C.isPrim f = true) {args : List AVal} {st : St} {Q : AVal → St → Prop} : WPCall C f args st Q ↔ someQ (C.prim f args st) Q := by
  unfold someQ
  constructor
  · rintro ⟨n, v, st', h, hq⟩
    cases n with
    | zero => simp [ev, Ev.none] at h
    | succ n =>
      simp only [ev, Ev.next, evalCall, hp, if_true] at h
      rw [h]
      exact hq
  · intro h
    split at h
    · rename_i v s hs
      exact ⟨1, v, s, by simp only [ev, Ev.next, evalCall, hp, if_true]; exact hs, h⟩
    · cases h

theorem get_restrict {e : Env} {live : List Nat} {k : Nat} (h : live.contains k = true) : (e.restrict live).get k = e.get k := by
  induction live with
  | nil => cases h
  | cons j js ih =>
    simp only [List.contains_cons, Bool.or_eq_true, beq_iff_eq] at h
    simp only [Env.restrict]
    by_cases hj : k = j
    · subst hj
      cases hg : e.get k with
      | some v => simp [Env.get]
      | none =>
        simp only
        by_cases hm : js.contains k = true
        · rw [ih hm, hg]
        · have : ∀ js : List Nat, js.contains k = false → (e.restrict js).get k = none := by
            intro js
            induction js with
            | nil => intro _; rfl
            | cons i is ih2 =>
              intro hc
              simp only [List.contains_cons, Bool.or_eq_false_iff, beq_eq_false_iff_ne] at hc
              simp only [Env.restrict]
              cases e.get i with
              | some v => simp only [Env.get]; rw [if_neg (fun h => hc.1 h.symm)]; exact ih2 hc.2
              | none => exact ih2 hc.2
          exact this js (by simpa using hm)
    · have hm : js.contains k = true := by
        rcases h with h | h
        · exact absurd h hj
        · exact h
      cases e.get j with
      | some v => simp only [Env.get]; rw [if_neg (fun h => hj h.symm)]; exact ih hm
      | none => exact ih hm

end Go.Shadow

namespace Go.Shadow
open Go

/-! ### Operations whose outcome hangs on what they are asked of -/

def idxR (size : Nat) (x i : Option AVal) (st : St) : Option (AVal × St) :=
  match x, i with
  | some v, some (.int _ i) => match v with
    | .islice n _ cs => if 0 ≤ i ∧ i < n then some (.iptr (cs.drop (i.toNat * size)), st) else none
    | .mslice b ver off len sz _ _ => if sz = size ∧ 0 ≤ i ∧ i < len then some (.ptr b ver (off + i.toNat * size), st) else none
    | _ => none
  | _, _ => none
def idxArrR (n size : Nat) (x i : Option AVal) (st : St) : Option (AVal × St) :=
  match x, i with
    | some (.ptr b ver off), some (.int _ i) => if 0 ≤ i ∧ i < n then some (.ptr b ver (off + i.toNat * size), st) else none
    | some (.iptr cs), some (.int _ i) => if 0 ≤ i ∧ i < n then some (.iptr (cs.drop (i.toNat * size)), st) else none
    | _, _ => none
def idxStrR (x i : Option AVal) (st : St) : Option (AVal × St) :=
  match x, i with
    | some (.str s), some (.int _ i) => if 0 ≤ i then (s[i.toNat]?).map fun b => (.int .u8 b.toNat, st) else none
    | _, _ => none
def idxValR (n size : Nat) (agg : Bool) (x i : Option AVal) (st : St) : Option (AVal × St) :=
  match x, i with
    | some (.agg cs), some (.int _ i) =>
      if 0 ≤ i ∧ i < n then
        if agg then some (.agg ((cs.drop (i.toNat * size)).take size), st) else (cs[i.toNat * size]?).map (·, st)
      else none
    | _, _ => none
def loadR (n : Option Nat) (a : Option AVal) (st : St) : Option (AVal × St) :=
  match a with
    | some p => (loadA st.h n p).map (·, st)
    | none => none
def storeR (n : Nat) (a x : Option AVal) (st : St) : Option (AVal × St) :=
  match a, x with
    | some (.ptr b ver off), some v => match row? st.h b ver with
      | some cs => if v.storable = true ∧ v.cells.length = n ∧ off + n ≤ ver then some (.tuple [], st.setRow b ver (putCells cs off v.cells)) else none
      | none => none
    | _, _ => none
def bytesR (x : Option AVal) (st : St) : Option (AVal × St) :=
  match x with
    | some v => match sliceCells st.h 1 v with
      | some cs => (bytesOfCells cs).map (.str ·, st)
      | none => none
    | none => none
def subR (x : Option AVal) (lo hi : Option (Option AVal)) (st : St) : Option (AVal × St) :=
  match x, lo, hi with
    | some (.str s), some lo, some hi => match boundsA s.length s.length lo hi none with
      | some (l, h, _) => some (.str ((s.drop l).take (h - l)), st)
      | none => none
    | _, _, _ => none
def sliceR (size : Nat) (x : Option AVal) (lo hi mx : Option (Option AVal)) (st : St) : Option (AVal × St) :=
  match x, lo, hi, mx with
    | some v, some lo, some hi, some mx => if mx.isSome = true ∧ hi.isSome = false then none else (sliceA size v lo hi mx).map (·, st)
    | _, _, _, _ => none
def lookupR (kn : KK) (z : AVal) (ok : Bool) (m k : Option AVal) (st : St) : Option (AVal × St) :=
  match m, k with
    | some m, some k =>
      let es := match m with
        | .nilMap => some []
        | .map b => match st.h[b]? with
          | some (.map es) => some es
          | _ => none
        | _ => none
      match es with
      | some es => if keyFits kn k then match findA kn k es with
          | some r => some (if ok then .tuple [r.getD z, .bool r.isSome] else r.getD z, st)
          | none => none
        else none
      | none => none
    | _, _ => none
def lenR (k : Nat) (x : Option AVal) (st : St) : Option (AVal × St) :=
  match x with
    | some v => (lenA st.h k v).map fun n => (.int .i64 n, st)
    | none => none
def appendR (bytes size : Nat) (x y : Option AVal) (st : St) : Option (AVal × St) :=
  match x, y with
    | some a, some (.str s) => if size ≠ 1 then none else grow st bytes size a (s.map fun (b : UInt8) => .int .u8 b.toNat) s.length
    | some a, some b => match sliceCells st.h size b, sliceLen b with
      | some cs, some n => grow st bytes size a cs n
      | _, _ => none
    | _, _ => none
def binR (op : BinOp) (x y : Option AVal) (st : St) : Option (AVal × St) :=
  match x, y with
    | some a, some b => (binA op a b).map (·, st)
    | _, _ => none
def pickR (C : Ctx) (e : Env) (c : Option AVal) (a b : Oprd) (st : St) : Option (AVal × St) :=
  match c with
    | some (.bool t) => (evO C e (if t then a else b)).map (·, st)
    | _ => none

/-- The same as 'stepOp', in words that can be named. -/
def step2 (C : Ctx) (e : Env) (op : AOp) (st : St) : Option (AVal × St) :=
  match op with
  | .mov x => (evO C e x).map (·, st)
  | .const v => some (v, st)
  | .pick c a b => pickR C e (evO C e c) a b st
  | .alloc z => some (.ptr st.h.length z.length 0, st.new (.row z.length z))
  | .box x => match evO C e x with
    | some v => if v.storable = false then none else some (.ptr st.h.length v.cells.length 0, st.new (.row v.cells.length v.cells))
    | none => none
  | .build z ps => match evParts C e ps with
    | some vs => (fillA z vs).map (.agg ·, st)
    | none => none
  | .buildSlice n size z ps => match evParts C e ps with
    | some vs => (fillA (replicateCells n z) vs).map (.islice n true ·, st)
    | none => none
  | .load n a => loadR n (evO C e a) st
  | .store n a x => storeR n (evO C e a) (evO C e x) st
  | .nilCheck x => match evO C e x with
    | some (.ptr b v o) => some (.ptr b v o, st)
    | some (.iptr cs) => some (.iptr cs, st)
    | some (.func (.func f) a b) => some (.func (.func f) a b, st)
    | _ => none
  | .bin op x y => binR op (evO C e x) (evO C e y) st
  | .eq1 k neg x y => match evO C e x, evO C e y with
    | some a, some b => match eqE k a b with
      | some r => some (.bool (neg != r), st)
      | none => none
    | _, _ => none
  | .eqAgg ks neg x y => match evO C e x, evO C e y with
    | some (.agg a), some (.agg b) => match eqs ks a b with
      | some r => some (.bool (neg != r), st)
      | none => none
    | _, _ => none
  | .un op x => match evO C e x with
    | some a => (unA op a).map (·, st)
    | none => none
  | .convInt k x => match evO C e x with
    | some (.int _ n) => some (.int k (k.wrap n), st)
    | _ => none
  | .intStr x => match evO C e x with
    | some (.int _ n) => some (.str (encode1 n), st)
    | _ => none
  | .strBytes x => match evO C e x with
    | some (.str s) => some (newRowA st 1 s.length (s.map fun (b : UInt8) => .int .u8 b.toNat))
    | _ => none
  | .strRunes x => match evO C e x with
    | some (.str s) => let rs := runesOf s.length s; some (newRowA st 1 rs.length (rs.map fun (r : Nat) => .int .i32 r))
    | _ => none
  | .bytesStr x => bytesR (evO C e x) st
  | .mkIface t x => (evO C e x).map (.iface t ·, st)
  | .mkFunc fn a b => match evOs C e a, evOs C e b with
    | some a, some b => some (.func fn a b, st)
    | _, _ => none
  | .mkMap => some (.map st.h.length, st.new (.map []))
  | .mkSlice bytes size z len cap => match evO C e len, evO C e cap with
    | some (.int _ l), some (.int _ c) =>
      if 0 ≤ l ∧ l ≤ c ∧ c ≤ 9223372036854775807 ∧ c.toNat * bytes ≤ roomB then
        some (.mslice st.h.length (c.toNat * size) 0 l.toNat size c.toNat true, st.new (.row (c.toNat * size) (replicateCells c.toNat z)))
      else none
    | _, _ => none
  | .sliceStr x lo hi => subR (evO C e x) (evOo C e lo) (evOo C e hi) st
  | .slice size x lo hi mx => sliceR size (evO C e x) (evOo C e lo) (evOo C e hi) (evOo C e mx) st
  | .sliceArr n size x lo hi mx => match evO C e x, evOo C e lo, evOo C e hi, evOo C e mx with
    | some (.ptr b ver off), some lo, some hi, some mx => if mx.isSome = true ∧ hi.isSome = false then none else
      match row? st.h b ver with
      | some _ => if off + n * size ≤ ver then match boundsA n n lo hi mx with
          | some (l, h, m) => some (.mslice b ver (off + l * size) (h - l) size (m - l) true, st)
          | none => none
        else none
      | none => none
    | _, _, _, _ => none
  | .fieldAddr o x => match evO C e x with
    | some (.ptr b ver off) => some (.ptr b ver (off + o), st)
    | some (.iptr cs) => some (.iptr (cs.drop o), st)
    | _ => none
  | .field o n x => match evO C e x with
    | some (.agg cs) => match n with
      | none => (cs[o]?).map (·, st)
      | some n => if o + n ≤ cs.length then some (.agg ((cs.drop o).take n), st) else none
    | _ => none
  | .idxAddr size x i => idxR size (evO C e x) (evO C e i) st
  | .idxAddrArr n size x i => idxArrR n size (evO C e x) (evO C e i) st
  | .idxStr x i => idxStrR (evO C e x) (evO C e i) st
  | .idxArr n size agg x i => idxValR n size agg (evO C e x) (evO C e i) st
  | .lookup kn z ok m k => lookupR kn z ok (evO C e m) (evO C e k) st
  | .update kn m k v => match evO C e m, evO C e k, evO C e v with
    | some (.map b), some k, some v => match st.h[b]? with
      | some (.map es) => if keyFits kn k then match findA kn k es with
          | some none => some (.tuple [], { h := st.h.set b (.map (es ++ [(k, v)])), d := b :: st.d })
          | _ => none
        else none
      | _ => none
    | _, _, _ => none
  | .rangeStr x => match evO C e x with
    | some (.str s) => some (.iter st.h.length, st.new (.iter 0 s))
    | _ => none
  | .nextStr x => match evO C e x with
    | some (.iter b) => match st.h[b]? with
      | some (.iter p s) =>
        match s with
        | [] => some (.tuple [.bool false], st)
        | _ :: _ => let (r, w) := decode1 s
          some (.tuple [.bool true, .int .i64 p, .int .i32 r], { h := st.h.set b (.iter (p + w) (s.drop w)), d := b :: st.d })
      | _ => none
    | _ => none
  | .extract x i => match evO C e x with
    | some (.tuple vs) => (vs[i]?).map (·, st)
    | _ => none
  | .len k x => lenR k (evO C e x) st
  | .cap x => match evO C e x with
    | some .nilSlice => some (.int .i64 0, st)
    | some (.islice n true _) => some (.int .i64 n, st)
    | some (.mslice _ _ _ _ _ c true) => some (.int .i64 c, st)
    | _ => none
  | .append bytes size x y => appendR bytes size (evO C e x) (evO C e y) st
  | .appendZeros bytes size z x n => match evO C e x, evO C e n with
    | some a, some (.int _ n) => if 0 ≤ n ∧ n.toNat * bytes ≤ roomB then grow st bytes size a (replicateCells n.toNat z) n.toNat else none
    | _, _ => none
  | .eqI neg x y => match evO C e x, evO C e y with
    | some (.iface t a), some (.iface u b) =>
      if t = u then
        if C.intType t then match a, b with
          | .int j m, .int k n => if j = k then some (.bool (neg != (m == n)), st) else none
          | _, _ => none
        else none
      else some (.bool neg, st)
    | some (.iface ..), some .nilIface | some .nilIface, some (.iface ..) => some (.bool neg, st)
    | _, _ => none
  | .fail => none
  | .copy size d s => match evO C e d, evO C e s with
    | some dv, some sv =>
      let src := match sv with
        | .str s => if size ≠ 1 then none else some (s.map fun (b : UInt8) => AVal.int .u8 b.toNat, s.length)
        | v => match sliceCells st.h size v, sliceLen v with
          | some cs, some n => some (cs, n)
          | _, _ => none
      match src, lenA st.h 1 dv with
      | some (cs, n), some m =>
        let k := Nat.min n m
        if k = 0 then some (.int .i64 0, st)
        else match dv with
          | .mslice b ver off _ sz _ _ => match row? st.h b ver with
            | some row => if sz = size ∧ off + k * size ≤ ver then some (.int .i64 k, st.setRow b ver (putCells row off (cs.take (k * size)))) else none
            | none => none
          | _ => none
      | _, _ => none
    | _, _ => none
  | .max xs => match evOs C e xs with
    | some (v :: vs) => (foldA maxA v vs).map (·, st)
    | _ => none
  | .min xs => match evOs C e xs with
    | some (v :: vs) => (foldA minA v vs).map (·, st)
    | _ => none
  | .call .. | .callv .. | .invoke .. => none


theorem step2_eq {C : Ctx} {e : Env} {op : AOp} {st : St} : step2 C e op st = stepOp C e op st := by
  cases op <;> rfl

end Go.Shadow

namespace Go.Shadow
open Go

variable {C : Ctx}

/-! ## The same, step by step, what follows being laid down -/

inductive Fr where
  | seq (b : ACode)
  | block (id : Nat)
  | loop (live : List Nat) (a : ACode)
  | scope (live : List Nat) (body : ACode)

def kQ (C : Ctx) : List Fr → (AExit → Env → St → Prop) → AExit → Env → St → Prop
  | [], Q => Q
  | .seq b :: k, Q => seqQ (fun e st => WP C b e st (kQ C k Q)) (kQ C k Q)
  | .block id :: k, Q => blockQ id (kQ C k Q)
  | .loop live a :: k, Q => seqQ (fun e st => WP C (.loop live a) e st (kQ C k Q)) (kQ C k Q)
  | .scope live body :: k, Q => scopeQ C live body (kQ C k Q)

/-- Code, and what follows. -/
def W (C : Ctx) (c : ACode) (e : Env) (st : St) (k : List Fr) (Q : AExit → Env → St → Prop) : Prop := WP C c e st (kQ C k Q)
/-- Operations, and what follows. -/
def WO (C : Ctx) (ops : List AOper) (e : Env) (st : St) (k : List Fr) (Q : AExit → Env → St → Prop) : Prop := WPOps C ops e st (kQ C k Q .normal)
/-- An end of code, and what follows. -/
def R (C : Ctx) (x : AExit) (e : Env) (st : St) (k : List Fr) (Q : AExit → Env → St → Prop) : Prop := kQ C k Q x e st
def CL (C : Ctx) (f : FuncId) (vs : List AVal) (st : St) (d : Option Nat) (os : List AOper) (e : Env) (k : List Fr) (Q : AExit → Env → St → Prop) : Prop :=
  WPCall C f vs st fun v st' => WO C os (e.put d v) st' k Q
def VL (C : Ctx) (v : AVal) (vs : List AVal) (st : St) (d : Option Nat) (os : List AOper) (e : Env) (k : List Fr) (Q : AExit → Env → St → Prop) : Prop :=
  WPVal C v vs st fun v st' => WO C os (e.put d v) st' k Q
def someK (C : Ctx) (r : Option (AVal × St)) (d : Option Nat) (os : List AOper) (e : Env) (k : List Fr) (Q : AExit → Env → St → Prop) : Prop :=
  match r with
  | some (v, st) => WO C os (e.put d v) st k Q
  | none => False
def callK (C : Ctx) (vs : Option (List AVal)) (f : FuncId) (st : St) (d : Option Nat) (os : List AOper) (e : Env) (k : List Fr) (Q : AExit → Env → St → Prop) : Prop :=
  match vs with
  | some vs => CL C f vs st d os e k Q
  | none => False
def callvK (C : Ctx) (v : Option AVal) (vs : Option (List AVal)) (st : St) (d : Option Nat) (os : List AOper) (e : Env) (k : List Fr) (Q : AExit → Env → St → Prop) : Prop :=
  match v, vs with
  | some v, some vs => VL C v vs st d os e k Q
  | _, _ => False
def stK (C : Ctx) (op : AOp) (d : Option Nat) (os : List AOper) (e : Env) (st : St) (k : List Fr) (Q : AExit → Env → St → Prop) : Prop :=
  match op with
  | .call f args => callK C (evOs C e args) f st d os e k Q
  | .callv f args => callvK C (evO C e f) (evOs C e args) st d os e k Q
  | .invoke r n args => WPStep C (.invoke r n args) e st fun v st' => WO C os (e.put d v) st' k Q
  | op => someK C (step2 C e op st) d os e k Q
def wantK (C : Ctx) (b : Option Bool) (o : AOper) (os : List AOper) (e : Env) (st : St) (k : List Fr) (Q : AExit → Env → St → Prop) : Prop :=
  match b with
  | some true => stK C o.op o.dst os e st k Q
  | some false => WO C os (e.put o.dst (.tuple [])) st k Q
  | none => False
def condK (C : Ctx) (v : Option AVal) (a b : ACode) (e : Env) (st : St) (k : List Fr) (Q : AExit → Env → St → Prop) : Prop :=
  match v with
  | some (.bool t) => match t with
    | true => W C a e st k Q
    | false => W C b e st k Q
  | _ => False

section
variable {e : Env} {st : St} {k : List Fr} {Q : AExit → Env → St → Prop}

theorem w_skip : W C .skip e st k Q ↔ R C .normal e st k Q := wp_skip
theorem w_label {l : Nat} : W C (.label l) e st k Q ↔ R C .normal e st k Q := wp_label
theorem w_exit {l : Nat} : W C (.exit l) e st k Q ↔ R C (.exit l) e st k Q := wp_exit
theorem w_goto {l : Nat} : W C (.goto l) e st k Q ↔ R C (.goto l) e st k Q := wp_goto
theorem w_ret : W C .ret e st k Q ↔ R C .ret e st k Q := wp_ret
theorem w_seq {a b : ACode} : W C (.seq a b) e st k Q ↔ W C a e st (.seq b :: k) Q := wp_seq
theorem w_block {id : Nat} {a : ACode} : W C (.block id a) e st k Q ↔ W C a e st (.block id :: k) Q := wp_block
theorem w_loop {live : List Nat} {a : ACode} : W C (.loop live a) e st k Q ↔ W C a (e.restrict live) st (.loop live a :: k) Q := wp_loop
theorem w_scope {live : List Nat} {body cur : ACode} : W C (.scope live body cur) e st k Q ↔ W C cur e st (.scope live body :: k) Q := wp_scope
theorem w_region {ops : List AOper} : W C (.region ops) e st k Q ↔ WO C ops e st k Q := wp_region
theorem w_cond {c : Oprd} {a b : ACode} : W C (.cond c a b) e st k Q ↔ condK C (evO C e c) a b e st k Q := by
  unfold W condK
  rw [wp_cond]
  unfold condQ W
  generalize evO C e c = r
  cases r with
  | none => exact Iff.rfl
  | some v => cases v with
    | bool t => cases t <;> simp
    | _ => exact Iff.rfl

theorem condK_true {a b : ACode} : condK C (some (.bool true)) a b e st k Q ↔ W C a e st k Q := Iff.rfl
theorem condK_false {a b : ACode} : condK C (some (.bool false)) a b e st k Q ↔ W C b e st k Q := Iff.rfl
theorem wantK_true {o : AOper} {os : List AOper} : wantK C (some true) o os e st k Q ↔ stK C o.op o.dst os e st k Q := Iff.rfl
theorem wantK_false {o : AOper} {os : List AOper} : wantK C (some false) o os e st k Q ↔ WO C os (e.put o.dst (.tuple [])) st k Q := Iff.rfl
theorem someK_some {v : AVal} {d : Option Nat} {os : List AOper} : someK C (some (v, st)) d os e k Q ↔ WO C os (e.put d v) st k Q := Iff.rfl
theorem callK_some {vs : List AVal} {f : FuncId} {d : Option Nat} {os : List AOper} : callK C (some vs) f st d os e k Q ↔ CL C f vs st d os e k Q := Iff.rfl
theorem callvK_some {v : AVal} {vs : List AVal} {d : Option Nat} {os : List AOper} : callvK C (some v) (some vs) st d os e k Q ↔ VL C v vs st d os e k Q := Iff.rfl
theorem vl_func {f : FuncId} {a b vs : List AVal} {d : Option Nat} {os : List AOper} : VL C (.func (.func f) a b) vs st d os e k Q ↔ CL C f (a ++ vs ++ b) st d os e k Q := Iff.rfl

theorem wo_nil : WO C [] e st k Q ↔ R C .normal e st k Q := wp_ops_nil
theorem wo_cons {o : AOper} {os : List AOper} : WO C (o :: os) e st k Q ↔ wantK C (wantedA e o.guard) o os e st k Q := by
  unfold WO
  rw [wp_ops]
  unfold wantQ wantK
  generalize wantedA e o.guard = r
  cases r with
  | none => exact Iff.rfl
  | some t =>
    cases t with
    | false => simp [WO]
    | true =>
      simp only [true_implies, Bool.true_eq_false, false_implies, and_true]
      rw [wp_step]
      unfold stepQ stK
      simp only [step2_eq]
      cases o.op <;> exact Iff.rfl

theorem r_seq {b : ACode} : R C .normal e st (.seq b :: k) Q ↔ W C b e st k Q := Iff.rfl
theorem r_seq_exit {b : ACode} {j : Nat} : R C (.exit j) e st (.seq b :: k) Q ↔ R C (.exit j) e st k Q := Iff.rfl
theorem r_seq_goto {b : ACode} {j : Nat} : R C (.goto j) e st (.seq b :: k) Q ↔ R C (.goto j) e st k Q := Iff.rfl
theorem r_seq_ret {b : ACode} : R C .ret e st (.seq b :: k) Q ↔ R C .ret e st k Q := Iff.rfl
theorem r_block {id : Nat} : R C .normal e st (.block id :: k) Q ↔ R C .normal e st k Q := Iff.rfl
theorem r_block_exit {id j : Nat} : R C (.exit j) e st (.block id :: k) Q ↔ if j = id then R C .normal e st k Q else R C (.exit j) e st k Q := Iff.rfl
theorem r_block_goto {id j : Nat} : R C (.goto j) e st (.block id :: k) Q ↔ R C (.goto j) e st k Q := Iff.rfl
theorem r_block_ret {id : Nat} : R C .ret e st (.block id :: k) Q ↔ R C .ret e st k Q := Iff.rfl
theorem r_loop {live : List Nat} {a : ACode} : R C .normal e st (.loop live a :: k) Q ↔ W C (.loop live a) e st k Q := Iff.rfl
theorem r_loop_exit {live : List Nat} {a : ACode} {j : Nat} : R C (.exit j) e st (.loop live a :: k) Q ↔ R C (.exit j) e st k Q := Iff.rfl
theorem r_loop_goto {live : List Nat} {a : ACode} {j : Nat} : R C (.goto j) e st (.loop live a :: k) Q ↔ R C (.goto j) e st k Q := Iff.rfl
theorem r_loop_ret {live : List Nat} {a : ACode} : R C .ret e st (.loop live a :: k) Q ↔ R C .ret e st k Q := Iff.rfl
def gotoK (C : Ctx) (l : Nat) (r : Option ACode) (live : List Nat) (body : ACode) (e : Env) (st : St) (k : List Fr) (Q : AExit → Env → St → Prop) : Prop :=
  match r with
  | some rest => W C (.scope live body rest) (e.restrict live) st k Q
  | none => R C (.goto l) e st k Q
theorem r_scope {live : List Nat} {body : ACode} : R C .normal e st (.scope live body :: k) Q ↔ R C .normal e st k Q := Iff.rfl
theorem r_scope_exit {live : List Nat} {body : ACode} {j : Nat} : R C (.exit j) e st (.scope live body :: k) Q ↔ R C (.exit j) e st k Q := Iff.rfl
theorem r_scope_ret {live : List Nat} {body : ACode} : R C .ret e st (.scope live body :: k) Q ↔ R C .ret e st k Q := Iff.rfl
theorem r_scope_goto {live : List Nat} {body : ACode} {l : Nat} : R C (.goto l) e st (.scope live body :: k) Q ↔ gotoK C l (findLabelA body l) live body e st k Q := by
  unfold R gotoK
  show scopeQ C live body (kQ C k Q) (.goto l) e st ↔ _
  simp only [scopeQ]
  generalize findLabelA body l = r
  cases r <;> exact Iff.rfl
theorem gotoK_some {l : Nat} {rest : ACode} {live : List Nat} {body : ACode} : gotoK C l (some rest) live body e st k Q ↔ W C (.scope live body rest) (e.restrict live) st k Q := Iff.rfl
theorem r_nil {x : AExit} : R C x e st [] Q ↔ Q x e st := Iff.rfl

end

/-- A call of just this end. -/
def Calls (C : Ctx) (f : FuncId) (args : List AVal) (st : St) (v : AVal) (st' : St) : Prop := ∃ n, (ev C n).call f args st = some (v, st')

theorem Calls.iff {f : FuncId} {args : List AVal} {st st' : St} {v : AVal} (h : Calls C f args st v st') {Q : AVal → St → Prop} : WPCall C f args st Q ↔ Q v st' :=
  let ⟨n, hn⟩ := h; wpCall_iff ⟨n, v, st', hn, rfl, rfl⟩

theorem Calls.cl {f : FuncId} {args : List AVal} {st st' : St} {v : AVal} (h : Calls C f args st v st') {d : Option Nat} {os : List AOper} {e : Env} {k : List Fr} {Q : AExit → Env → St → Prop} :
    CL C f args st d os e k Q ↔ WO C os (e.put d v) st' k Q := h.iff

/-- What a function's end comes to. -/
def RetIs (keep : Bool) (rs : List AResult) (st : St) (v : AVal) (st' : St) (x : AExit) (e : Env) (s : St) : Prop :=
  (x = .normal ∨ x = .ret) ∧ ∃ vs, resultsA e s.h rs = some vs ∧ finish keep st.h.length st.d (oneOf vs) s = (v, st')

theorem calls_of {f : FuncId} {fn : AFunc} (hf : C.funcs f = some fn) (hp : C.isPrim f = false) {args : List AVal} {st st' : St} {v : AVal}
    (h : W C fn.body (args.zipIdx.map fun (v, i) => (i, v)) { h := st.h, d := [] } [] (RetIs (C.keep f) fn.results st v st')) : Calls C f args st v st' := by
  obtain ⟨n, w, s, h1, rfl, rfl⟩ : WPCall C f args st fun w s => w = v ∧ s = st' := by
    rw [wp_call hf hp]
    refine WP.mono h fun x e s hr => ?_
    obtain ⟨hx, vs, hvs, hfin⟩ := hr
    rcases hx with rfl | rfl <;> simp only [retQ, hvs, hfin, and_self]
  exact ⟨n, h1⟩

theorem calls_prim {f : FuncId} (hp : C.isPrim f = true) {args : List AVal} {st st' : St} {v : AVal} (h : C.prim f args st = some (v, st')) : Calls C f args st v st' :=
  ⟨1, by simp only [ev, Ev.next, evalCall, hp, if_true]; exact h⟩

theorem retIs {keep : Bool} {rs : List AResult} {st st' : St} {v : AVal} {e : Env} {s : St} {vs : List AVal} (h1 : resultsA e s.h rs = some vs) (h2 : finish keep st.h.length st.d (oneOf vs) s = (v, st')) : RetIs keep rs st v st' .ret e s := ⟨.inr rfl, vs, h1, h2⟩

theorem get_cons (j k : Nat) (v : AVal) (e : Env) : Env.get ((j, v) :: e) k = if j = k then some v else e.get k := rfl

/-- What is handed back leaves nothing behind. -/
theorem finish_same {n : Nat} {d0 : List Nat} {v : AVal} {h : List ABlk} (hv : v.inSight n = true) : finish false n d0 v { h := h, d := [] } = (v, { h := h.take n, d := d0 }) := by
  simp [finish, freeze, hv, dirtyOk]

theorem finish_new {n : Nat} {d0 d : List Nat} {v : AVal} {h : List ABlk} (hv : v.inSight n = true) (hd : ∀ b ∈ d, n ≤ b) : finish false n d0 v { h := h, d := d } = (v, { h := h.take n, d := d0 }) := by
  have h1 : dirtyOk n h d = true := by
    induction d with
    | nil => rfl
    | cons b d ih =>
      have hb : Nat.blt b n = false := by
        have := hd b (by simp)
        exact Bool.eq_false_iff.2 fun hb => absurd (Nat.blt_eq ▸ hb : b < n) (by omega)
      simp only [dirtyOk, hb, Bool.false_eq_true, if_false, Bool.true_and]
      exact ih fun c hc => hd c (by simp [hc])
  have h2 : d.filter (Nat.blt · n) = [] := by
    refine List.filter_eq_nil_iff.2 fun b hb hlt => ?_
    have := hd b hb
    have : b < n := Nat.blt_eq ▸ hlt
    omega
  simp [finish, freeze, hv, h1, h2]

end Go.Shadow

namespace Go.Shadow
open Go

variable {C : Ctx}

/-! ## Regions whose order is open, step by step -/

/-- What such a region has laid aside. -/
structure DS where
  un : List (Nat × Nat)
  base : Nat
  ls : List Look
  ws : List (Nat × St × St)
  cs : List Nat
  fs : List Nat

def WD (C : Ctx) (D : DS) (ops : List AOper) (e : Env) (st : St) (k : List Fr) (Q : AExit → Env → St → Prop) : Prop :=
  ∃ n e' st', evalDraw C (ev C n) D.un D.base D.ls D.ws D.cs D.fs ops e st = some (e', st') ∧ R C .normal e' st' k Q

def DS.wrote (D : DS) (C : Ctx) (o : AOper) (e : Env) (st st' : St) : DS :=
  { D with ws := if St.same st st' && !o.op.yields C e then D.ws else (o.idx, st, st') :: D.ws, cs := o.idx :: D.cs }

def DCL (C : Ctx) (D : DS) (f : FuncId) (vs : List AVal) (st : St) (o : AOper) (os : List AOper) (e : Env) (k : List Fr) (Q : AExit → Env → St → Prop) : Prop :=
  WPCall C f vs st fun v st' => WD C (D.wrote C o e st st') os (e.put o.dst v) st' k Q
def DVL (C : Ctx) (D : DS) (v : AVal) (vs : List AVal) (st : St) (o : AOper) (os : List AOper) (e : Env) (k : List Fr) (Q : AExit → Env → St → Prop) : Prop :=
  WPVal C v vs st fun v st' => WD C (D.wrote C o e st st') os (e.put o.dst v) st' k Q

def dwriteK (C : Ctx) (D : DS) (r : Option (AVal × St)) (o : AOper) (os : List AOper) (e : Env) (st : St) (k : List Fr) (Q : AExit → Env → St → Prop) : Prop :=
  match r with
  | some (v, st') => WD C (D.wrote C o e st st') os (e.put o.dst v) st' k Q
  | none => False
def dcallK (C : Ctx) (D : DS) (vs : Option (List AVal)) (f : FuncId) (st : St) (o : AOper) (os : List AOper) (e : Env) (k : List Fr) (Q : AExit → Env → St → Prop) : Prop :=
  match vs with
  | some vs => DCL C D f vs st o os e k Q
  | none => False
def dcallvK (C : Ctx) (D : DS) (v : Option AVal) (vs : Option (List AVal)) (st : St) (o : AOper) (os : List AOper) (e : Env) (k : List Fr) (Q : AExit → Env → St → Prop) : Prop :=
  match v, vs with
  | some v, some vs => DVL C D v vs st o os e k Q
  | _, _ => False
def dwK (C : Ctx) (D : DS) (op : AOp) (o : AOper) (os : List AOper) (e : Env) (st : St) (k : List Fr) (Q : AExit → Env → St → Prop) : Prop :=
  match op with
  | .call f args => dcallK C D (evOs C e args) f st o os e k Q
  | .callv f args => dcallvK C D (evO C e f) (evOs C e args) st o os e k Q
  | .invoke r n args => WPStep C (.invoke r n args) e st fun v st' => WD C (D.wrote C o e st st') os (e.put o.dst v) st' k Q
  | op => dwriteK C D (step2 C e op st) o os e st k Q
def dpureK (C : Ctx) (D : DS) (r : Option (AVal × St)) (o : AOper) (os : List AOper) (e : Env) (k : List Fr) (Q : AExit → Env → St → Prop) : Prop :=
  match r with
  | some (v, st') => WD C D os (e.put o.dst v) st' k Q
  | none => False
def dreadK (C : Ctx) (D : DS) (r : Option (AVal × St)) (o : AOper) (os : List AOper) (e : Env) (k : List Fr) (Q : AExit → Env → St → Prop) : Prop :=
  match r with
  | some (v, st') => WD C { D with ls := { i := o.idx, op := o.op, env := e, val := v } :: D.ls } os (e.put o.dst v) st' k Q
  | none => False
def dfreshK (C : Ctx) (D : DS) (s : Option Nat) (o : AOper) (os : List AOper) (e : Env) (st : St) (k : List Fr) (Q : AExit → Env → St → Prop) : Prop :=
  match s with
  | some s => match stepFresh C e (D.base + s) o.op st with
    | some (v, st') => WD C { D with ws := (o.idx, st, st') :: D.ws, fs := o.idx :: D.fs } os (e.put o.dst v) st' k Q
    | none => False
  | none => False
def dkindK (C : Ctx) (D : DS) (kd : Kind) (o : AOper) (os : List AOper) (e : Env) (st : St) (k : List Fr) (Q : AExit → Env → St → Prop) : Prop :=
  match kd with
  | .fresh => dfreshK C D o.slot o os e st k Q
  | .pure => dpureK C D (step2 C e o.op st) o os e k Q
  | .reads => dreadK C D (step2 C e o.op st) o os e k Q
  | .writes => (unwritten D.un o.idx D.cs && unwritten D.un o.idx D.fs) = true ∧ dwK C D o.op o os e st k Q
def dwantK (C : Ctx) (D : DS) (b : Option Bool) (o : AOper) (os : List AOper) (e : Env) (st : St) (k : List Fr) (Q : AExit → Env → St → Prop) : Prop :=
  match b with
  | some true => dkindK C D o.op.kind o os e st k Q
  | some false => WD C D os (e.put o.dst (.tuple [])) st k Q
  | none => False

section
variable {e : Env} {st : St} {k : List Fr} {Q : AExit → Env → St → Prop} {D : DS}

theorem w_draw {ops : List AOper} {un : List (Nat × Nat)} {m : Nat} : W C (.draw ops un m) e st k Q ↔ WD C ⟨un, st.h.length, [], [], [], []⟩ ops e { st with h := st.h ++ List.replicate m .dead } k Q := by
  unfold W WP WD R
  constructor
  · rintro ⟨n, x, e', st', h, hq⟩
    simp only [evalCode] at h
    split at h
    · rename_i h1; cases h; exact ⟨n, _, _, h1, hq⟩
    · cases h
  · rintro ⟨n, e', st', h, hq⟩
    exact ⟨n, _, _, _, by simp only [evalCode]; rw [h], hq⟩

theorem wd_nil : WD C D [] e st k Q ↔ allOk C D.un D.ls D.ws = true ∧ R C .normal e st k Q := by
  unfold WD
  simp only [evalDraw]
  constructor
  · rintro ⟨n, e', st', h, hq⟩
    split at h
    · rename_i hk; cases h; exact ⟨hk, hq⟩
    · cases h
  · rintro ⟨hk, hq⟩
    exact ⟨0, e, st, by rw [if_pos hk], hq⟩

theorem stepAny_plain {op : AOp} (hk : op.kind = .pure ∨ op.kind = .reads) {n : Nat} : stepAny C (ev C n) e op st = stepOp C e op st := by
  cases op <;> first | rfl | (simp [AOp.kind] at hk)

theorem wd_cons {o : AOper} {os : List AOper} : WD C D (o :: os) e st k Q ↔ dwantK C D (wantedA e o.guard) o os e st k Q := by
  unfold dwantK WD
  simp only [evalDraw]
  generalize wantedA e o.guard = r
  cases r with
  | none => simp
  | some t =>
    cases t with
    | false => exact Iff.rfl
    | true =>
      unfold dkindK
      generalize hk : o.op.kind = kd
      cases kd with
      | fresh =>
        simp only
        unfold dfreshK WD
        generalize o.slot = s
        cases s with
        | none => simp
        | some s =>
          simp only
          generalize stepFresh C e (D.base + s) o.op st = r
          cases r with
          | none => simp
          | some r => exact Iff.rfl
      | pure =>
        simp only [stepAny_plain (.inl hk), step2_eq]
        unfold dpureK WD
        generalize stepOp C e o.op st = r
        cases r with
        | none => simp
        | some r => exact Iff.rfl
      | reads =>
        simp only [stepAny_plain (.inr hk), step2_eq]
        unfold dreadK WD
        generalize stepOp C e o.op st = r
        cases r with
        | none => simp
        | some r => exact Iff.rfl
      | writes =>
        simp only
        have key : dwK C D o.op o os e st k Q ↔ WPStep C o.op e st fun v st' => WD C (D.wrote C o e st st') os (e.put o.dst v) st' k Q := by
          rw [wp_step]
          unfold stepQ dwK
          simp only [step2_eq]
          cases o.op <;> exact Iff.rfl
        rw [key]
        unfold WPStep WD DS.wrote
        constructor
        · rintro ⟨n, e', st', h, hq⟩
          split at h
          · rename_i v st1 h1
            split at h
            · rename_i hun
              exact ⟨hun, n, v, st1, h1, n, e', st', h, hq⟩
            · cases h
          · cases h
        · rintro ⟨hun, n, v, st1, h1, m, e', st', h2, hq⟩
          refine ⟨max n m, e', st', ?_, hq⟩
          rw [stepAny_le (ev_le (Nat.le_max_left n m)) h1]
          simp only [hun, if_true]
          exact evalDraw_le (ev_le (Nat.le_max_right n m)) h2

theorem dwantK_true {o : AOper} {os : List AOper} : dwantK C D (some true) o os e st k Q ↔ dkindK C D o.op.kind o os e st k Q := Iff.rfl
theorem dwantK_false {o : AOper} {os : List AOper} : dwantK C D (some false) o os e st k Q ↔ WD C D os (e.put o.dst (.tuple [])) st k Q := Iff.rfl
theorem dkindK_pure {o : AOper} {os : List AOper} : dkindK C D .pure o os e st k Q ↔ dpureK C D (step2 C e o.op st) o os e k Q := Iff.rfl
theorem dkindK_reads {o : AOper} {os : List AOper} : dkindK C D .reads o os e st k Q ↔ dreadK C D (step2 C e o.op st) o os e k Q := Iff.rfl
theorem dkindK_fresh {o : AOper} {os : List AOper} : dkindK C D .fresh o os e st k Q ↔ dfreshK C D o.slot o os e st k Q := Iff.rfl
theorem dkindK_writes {o : AOper} {os : List AOper} : dkindK C D .writes o os e st k Q ↔ (unwritten D.un o.idx D.cs && unwritten D.un o.idx D.fs) = true ∧ dwK C D o.op o os e st k Q := Iff.rfl
theorem dpureK_some {o : AOper} {os : List AOper} {v : AVal} {st' : St} : dpureK C D (some (v, st')) o os e k Q ↔ WD C D os (e.put o.dst v) st' k Q := Iff.rfl
theorem dreadK_some {o : AOper} {os : List AOper} {v : AVal} {st' : St} : dreadK C D (some (v, st')) o os e k Q ↔ WD C { D with ls := { i := o.idx, op := o.op, env := e, val := v } :: D.ls } os (e.put o.dst v) st' k Q := Iff.rfl
theorem dwriteK_some {o : AOper} {os : List AOper} {v : AVal} {st' : St} : dwriteK C D (some (v, st')) o os e st k Q ↔ WD C (D.wrote C o e st st') os (e.put o.dst v) st' k Q := Iff.rfl
theorem dcallK_some {vs : List AVal} {f : FuncId} {o : AOper} {os : List AOper} : dcallK C D (some vs) f st o os e k Q ↔ DCL C D f vs st o os e k Q := Iff.rfl
theorem dcallvK_some {v : AVal} {vs : List AVal} {o : AOper} {os : List AOper} : dcallvK C D (some v) (some vs) st o os e k Q ↔ DVL C D v vs st o os e k Q := Iff.rfl
theorem dvl_func {f : FuncId} {a b vs : List AVal} {o : AOper} {os : List AOper} : DVL C D (.func (.func f) a b) vs st o os e k Q ↔ DCL C D f (a ++ vs ++ b) st o os e k Q := Iff.rfl
end

theorem Calls.dcl {f : FuncId} {args : List AVal} {st st' : St} {v : AVal} (h : Calls C f args st v st') {D : DS} {o : AOper} {os : List AOper} {e : Env} {k : List Fr} {Q : AExit → Env → St → Prop} :
    DCL C D f args st o os e k Q ↔ WD C (D.wrote C o e st st') os (e.put o.dst v) st' k Q := h.iff

theorem same_self (st : St) : St.same st st = true := by simp [St.same]

theorem wrote_same {D : DS} {o : AOper} {e : Env} {st : St} (h : o.op.yields C e = false) : D.wrote C o e st st = { D with cs := o.idx :: D.cs } := by
  unfold DS.wrote
  rw [same_self, h]
  rfl

end Go.Shadow

namespace Go.Shadow
open Go

variable {C : Ctx}

/-! ## Rows that grow -/

/-- All that lay ahead lies as it lay; what was written lies behind it. -/
structure Above (h0 : List ABlk) (st : St) : Prop where
  take : st.h.take h0.length = h0
  d : ∀ b ∈ st.d, h0.length ≤ b

theorem Above.le {h0 : List ABlk} {st : St} (h : Above h0 st) : h0.length ≤ st.h.length := by
  have := congrArg List.length h.take
  simp at this
  omega

theorem Above.start (h0 : List ABlk) : Above h0 { h := h0, d := [] } := ⟨by simp, by simp⟩

theorem Above.get {h0 : List ABlk} {st : St} (h : Above h0 st) {b : Nat} (hb : b < h0.length) : st.h[b]? = h0[b]? := by
  have e : (st.h.take h0.length)[b]? = h0[b]? := by rw [h.take]
  rwa [List.getElem?_take, if_pos hb] at e

theorem Above.row {h0 : List ABlk} {st : St} (h : Above h0 st) {b ver : Nat} {cs : List AVal} (hr : row? h0 b ver = some cs) : row? st.h b ver = some cs := by
  unfold row? at hr ⊢
  have hb : b < h0.length := by
    rcases Nat.lt_or_ge b h0.length with hlt | hge
    · exact hlt
    · rw [List.getElem?_eq_none hge] at hr; cases hr
  rw [h.get hb]
  exact hr

theorem Above.set {h0 : List ABlk} {st : St} (h : Above h0 st) {b : Nat} (hb : h0.length ≤ b) (o : ABlk) (d : List Nat) (hd : ∀ c ∈ d, h0.length ≤ c) : Above h0 { h := st.h.set b o, d := d } :=
  ⟨by simp only; rw [List.take_set_of_le hb]; exact h.take, hd⟩

theorem Above.push {h0 : List ABlk} {st : St} (h : Above h0 st) (l : List ABlk) : Above h0 { st with h := st.h ++ l } :=
  ⟨by simp only; rw [List.take_append_of_le_length h.le]; exact h.take, h.d⟩

theorem Above.new {h0 : List ABlk} {st : St} (h : Above h0 st) (o : ABlk) : Above h0 (st.new o) := h.push [o]

theorem Above.setRow {h0 : List ABlk} {st : St} (h : Above h0 st) {b : Nat} (hb : h0.length ≤ b) (n : Nat) (cs : List AVal) : Above h0 (st.setRow b n cs) :=
  h.set hb _ _ fun c hc => by
    rcases List.mem_cons.1 hc with rfl | hc
    · exact hb
    · exact h.d c hc

/-- What was made of nothing by appending. -/
def Acc (n0 : Nat) (st : St) (size : Nat) (v : AVal) (cs : List AVal) : Prop :=
  (v = .nilSlice ∧ cs = []) ∨ ∃ b k, v = .mslice b (k * size) 0 k size k false ∧ n0 ≤ b ∧ st.h[b]? = some (.row (k * size) cs) ∧ cs.length = k * size ∧ 0 < k

theorem Acc.nil (n0 : Nat) (st : St) (size : Nat) : Acc n0 st size .nilSlice [] := .inl ⟨rfl, rfl⟩

theorem grow_acc {h0 : List ABlk} {st : St} {size bytes : Nat} {v : AVal} {cs new : List AVal} {n : Nat} (ha : Above h0 st) (hc : Acc h0.length st size v cs) (hn : new.length = n * size) (h0n : 0 < n) (hs : 0 < size)
    (hroom : (cs.length / size + n) * bytes ≤ roomB) : ∃ v' st', grow st bytes size v new n = some (v', st') ∧ Acc h0.length st' size v' (cs ++ new) ∧ Above h0 st' ∧ st.h.length ≤ st'.h.length := by
  rcases hc with ⟨rfl, rfl⟩ | ⟨b, k, rfl, hb, hg, hl, hk⟩
  · refine ⟨.mslice st.h.length (n * size) 0 n size n false, st.new (.row (n * size) new), ?_, .inr ⟨st.h.length, n, rfl, ha.le, ?_, by simpa using hn, h0n⟩, ha.new _, by simp [St.new]⟩
    · unfold grow
      rw [if_neg (Nat.ne_of_gt h0n)]
      simp only [newRowA]
      simp only [List.length_nil, Nat.zero_div, Nat.zero_add] at hroom
      rw [if_pos hroom]
    · simp [St.new]
  · have hbl : b < st.h.length := (List.getElem?_eq_some_iff.1 hg).1
    refine ⟨.mslice b ((k + n) * size) 0 (k + n) size (k + n) false, st.setRow b ((k + n) * size) (cs ++ new), ?_, .inr ⟨b, k + n, rfl, hb, ?_, ?_, by omega⟩, ha.setRow hb _ _, by simp [St.setRow]⟩
    · rw [hl, Nat.mul_div_cancel _ hs] at hroom
      have hrow : row? st.h b (k * size) = some cs := by simp [row?, hg]
      unfold grow
      rw [if_neg (Nat.ne_of_gt h0n)]
      simp only [hrow]
      rw [if_pos ⟨trivial, hroom, by omega, Nat.le_refl _⟩, if_neg (by omega)]
      simp only [Bool.false_eq_true, if_false]
      rw [if_pos ⟨trivial, trivial⟩]
      rw [← hl, List.take_length]
    · simp [St.setRow, hbl]
    · simp [hl, hn, Nat.add_mul]

theorem Acc.keep {n0 : Nat} {st st' : St} {size : Nat} {v : AVal} {cs : List AVal} (h : Acc n0 st size v cs) (hk : ∀ b, n0 ≤ b → b < st.h.length → st'.h[b]? = st.h[b]?) : Acc n0 st' size v cs := by
  rcases h with h | ⟨b, k, h1, h2, h3, h4⟩
  · exact .inl h
  · exact .inr ⟨b, k, h1, h2, by rw [hk b h2 (List.getElem?_eq_some_iff.1 h3).1]; exact h3, h4⟩

theorem Acc.cells {n0 : Nat} {st : St} {size : Nat} {v : AVal} {cs : List AVal} (h : Acc n0 st size v cs) (hs : 0 < size) : sliceCells st.h size v = some cs ∧ sliceLen v = some (cs.length / size) := by
  rcases h with ⟨rfl, rfl⟩ | ⟨b, k, rfl, h2, h3, h4, h5⟩
  · simp [sliceCells, sliceLen]
  · have hrow : row? st.h b (k * size) = some cs := by simp [row?, h3]
    refine ⟨?_, by simp [sliceLen, h4, Nat.mul_div_cancel _ hs]⟩
    simp only [sliceCells, hrow]
    rw [if_pos ⟨trivial, by omega⟩, List.drop_zero, ← h4, List.take_length]

/-- What a slice that was made becomes, handed back. -/
def frozen (size : Nat) (cs : List AVal) : AVal := if cs = [] then .nilSlice else .islice (cs.length / size) false cs

theorem mapO_id {f : AVal → Option AVal} : ∀ {l : List AVal}, (∀ x ∈ l, f x = some x) → mapO f l = some l
  | [], _ => rfl
  | x :: l, h => by simp only [mapO, h x (by simp), mapO_id (l := l) fun y hy => h y (by simp [hy])]

theorem scopeds_mem {n : Nat} : ∀ {l : List AVal}, AVal.scopeds n l = true → ∀ x ∈ l, x.inSight n = true
  | [], _, _, h => by cases h
  | y :: l, h, x, hx => by
    simp only [AVal.scopeds, Bool.and_eq_true] at h
    rcases List.mem_cons.1 hx with rfl | hx
    · exact h.1
    · exact scopeds_mem h.2 x hx
theorem scopeds_of {n : Nat} : ∀ {l : List AVal}, (∀ x ∈ l, x.inSight n = true) → AVal.scopeds n l = true
  | [], _ => rfl
  | y :: l, h => by
    simp only [AVal.scopeds, Bool.and_eq_true]
    exact ⟨h y (by simp), scopeds_of fun x hx => h x (by simp [hx])⟩

theorem freeze_scoped {n : Nat} {h : List ABlk} {v : AVal} (hv : v.inSight n = true) : ∀ k, freeze n h k v = some v
  | 0 => by simp [freeze, hv]
  | k + 1 => by simp [freeze, hv]

theorem freeze_acc {n0 : Nat} {st : St} {size : Nat} {v : AVal} {cs : List AVal} (h : Acc n0 st size v cs) (hs : 0 < size) (hc : AVal.scopeds n0 cs = true) (k : Nat) : freeze n0 st.h (k + 1) v = some (frozen size cs) := by
  have hcells := (h.cells hs).1
  rcases h with ⟨rfl, rfl⟩ | ⟨b, m, rfl, h2, h3, h4, h5⟩
  · simp [freeze, AVal.inSight, frozen]
  · have hb : Nat.blt b n0 = false := Bool.eq_false_iff.2 fun hb => absurd (Nat.blt_eq ▸ hb : b < n0) (by omega)
    have hm : mapO (freeze n0 st.h k) cs = some cs := mapO_id fun x hx => freeze_scoped (scopeds_mem hc x hx) k
    have hne : cs ≠ [] := by
      intro e
      rw [e] at h4
      have := Nat.mul_pos h5 hs
      simp at h4
      omega
    simp only [freeze, AVal.inSight, hb, Bool.false_eq_true, if_false, hcells, hm, frozen, hne, h4, Nat.mul_div_cancel _ hs]

theorem dirty_above {n : Nat} {h : List ABlk} {d : List Nat} (hd : ∀ b ∈ d, n ≤ b) : dirtyOk n h d = true ∧ d.filter (Nat.blt · n) = [] := by
  constructor
  · induction d with
    | nil => rfl
    | cons b d ih =>
      have hb : Nat.blt b n = false := Bool.eq_false_iff.2 fun hb => absurd (Nat.blt_eq ▸ hb : b < n) (by have := hd b (by simp); omega)
      simp only [dirtyOk, hb, Bool.false_eq_true, if_false, Bool.true_and]
      exact ih fun c hc => hd c (by simp [hc])
  · refine List.filter_eq_nil_iff.2 fun b hb hlt => ?_
    have := hd b hb
    have : b < n := Nat.blt_eq ▸ hlt
    omega

/-- A function's end: what it hands back, frozen; memory as it was. -/
theorem finish_freeze {h0 : List ABlk} {d0 : List Nat} {st : St} {v v' : AVal} (ha : Above h0 st) (hf : freeze h0.length st.h 8 v = some v') : finish false h0.length d0 v st = (v', { h := h0, d := d0 }) := by
  obtain ⟨h1, h2⟩ := dirty_above (h := st.h) ha.d
  simp only [finish, Bool.false_eq_true, if_false, hf, h1, if_true, h2, List.nil_append, ha.take]

theorem finish_acc {h0 : List ABlk} {d0 : List Nat} {st : St} {size : Nat} {v : AVal} {cs : List AVal} (ha : Above h0 st) (h : Acc h0.length st size v cs) (hs : 0 < size) (hc : AVal.scopeds h0.length cs = true) :
    finish false h0.length d0 v st = (frozen size cs, { h := h0, d := d0 }) := finish_freeze ha (freeze_acc h hs hc 7)

theorem finish_plain {h0 : List ABlk} {d0 : List Nat} {st : St} {v : AVal} (ha : Above h0 st) (hv : v.inSight h0.length = true) : finish false h0.length d0 v st = (v, { h := h0, d := d0 }) := finish_freeze ha (freeze_scoped hv 8)

theorem scopeds_ints (n : Nat) (l : List AVal) (h : ∀ x ∈ l, ∃ k i, x = .int k i) : AVal.scopeds n l = true :=
  scopeds_of fun x hx => by obtain ⟨k, i, rfl⟩ := h x hx; rfl

/-! ### Bytes as cells -/

def byteCells (s : List UInt8) : List AVal := s.map fun (b : UInt8) => .int .u8 b.toNat

theorem bytesOf_byteCells : ∀ s : List UInt8, bytesOfCells (byteCells s) = some s
  | [] => rfl
  | b :: s => by
    have := bytesOf_byteCells s
    simp only [byteCells, List.map_cons, bytesOfCells] at this ⊢
    rw [this]
    simp

theorem fold_bytes {s : List UInt8} : (s.map fun (b : UInt8) => AVal.int .u8 b.toNat) = byteCells s := rfl
theorem byteCells_length (s : List UInt8) : (byteCells s).length = s.length := by simp [byteCells]
theorem byteCells_append (s t : List UInt8) : byteCells (s ++ t) = byteCells s ++ byteCells t := by simp [byteCells]
theorem scopeds_bytes (n : Nat) (s : List UInt8) : AVal.scopeds n (byteCells s) = true := scopeds_ints n _ fun x hx => by
  simp only [byteCells, List.mem_map] at hx
  obtain ⟨b, _, rfl⟩ := hx
  exact ⟨_, _, rfl⟩

theorem sliceCells_frozen (h : List ABlk) (s : List UInt8) : sliceCells h 1 (frozen 1 (byteCells s)) = some (byteCells s) := by
  unfold frozen
  split
  · rename_i e; simp [sliceCells, e]
  · simp [sliceCells]

theorem bool_tf : (true == false) = false := rfl
theorem bool_ft : (false == true) = false := rfl

end Go.Shadow

namespace Go.Shadow
open Go

variable {C : Ctx}

/-! ### Elements, lengths, numbers -/

/-- A slice of one-cell elements: the place of its element k. -/
theorem idx_one {st : St} {x : AVal} {cs : List AVal} {n k : Nat} {kd : IntKind} {c : AVal} (hx : sliceCells st.h 1 x = some cs) (hl : sliceLen x = some n) (hk : k < n) (hc : cs[k]? = some c) :
    ∃ p, idxR 1 (some x) (some (.int kd k)) st = some (p, st) ∧ loadA st.h none p = some c := by
  cases x with
  | islice m f l =>
    simp only [sliceCells] at hx
    split at hx <;> simp at hx
    subst hx
    simp only [sliceLen, Option.some.injEq] at hl
    subst hl
    refine ⟨_, by simp only [idxR]; rw [if_pos ⟨by omega, by omega⟩], ?_⟩
    simp only [loadA, List.getElem?_drop]
    simpa using hc
  | mslice b ver off len size lb ex =>
    simp only [sliceLen, Option.some.injEq] at hl
    subst hl
    simp only [sliceCells] at hx
    split at hx
    · rename_i row hr
      split at hx
      · rename_i hcond
        obtain ⟨rfl, hle⟩ := hcond
        simp at hx
        subst hx
        refine ⟨_, by simp only [idxR]; rw [if_pos ⟨trivial, by omega, by omega⟩], ?_⟩
        simp only [loadA, hr]
        rw [List.getElem?_take] at hc
        rw [if_pos (by omega), List.getElem?_drop] at hc
        simpa using hc
      · cases hx
    · cases hx
  | nilSlice =>
    simp only [sliceLen, Option.some.injEq] at hl
    omega
  | _ => simp [sliceCells] at hx

theorem lenA_slice {h : List ABlk} {x : AVal} {cs : List AVal} {n size : Nat} (hx : sliceCells h size x = some cs) (hl : sliceLen x = some n) : lenA h 1 x = some n := by
  cases x with
  | str s => simp [sliceCells] at hx
  | nilSlice => simpa [lenA, sliceLen] using hl
  | islice m f l => simpa [lenA, sliceLen] using hl
  | mslice b ver off len size lb ex => simpa [lenA, sliceLen] using hl
  | _ => simp [sliceLen] at hl

theorem sliceCells_above {h0 : List ABlk} {st : St} (ha : Above h0 st) {size : Nat} {x : AVal} {cs : List AVal} (hx : sliceCells h0 size x = some cs) : sliceCells st.h size x = some cs := by
  cases x with
  | mslice b ver off len sz lb ex =>
    simp only [sliceCells] at hx ⊢
    split at hx
    · rename_i row hr
      rw [ha.row hr]
      exact hx
    · cases hx
  | _ => exact hx

def listHas : List Nat → Nat → Bool
  | [], _ => false
  | j :: js, k => if j = k then true else listHas js k
theorem listHas_nil {k : Nat} : listHas [] k = false := rfl
theorem listHas_cons {j k : Nat} {js : List Nat} : listHas (j :: js) k = if j = k then true else listHas js k := rfl
theorem get_live {e : Env} {live : List Nat} {k : Nat} (h : listHas live k = true) : (e.restrict live).get k = e.get k := by
  refine get_restrict ?_
  induction live with
  | nil => cases h
  | cons j js ih =>
    simp only [listHas] at h
    simp only [List.contains_cons, Bool.or_eq_true, beq_iff_eq]
    split at h
    · rename_i he; exact .inl he.symm
    · exact .inr (ih h)

theorem wrap_i64 {n : Int} (h0 : -9223372036854775808 ≤ n) (h1 : n < 9223372036854775808) : IntKind.i64.wrap n = n := by
  simp only [IntKind.wrap, IntKind.bits, IntKind.signed, Int.reducePow, Nat.reduceSub, Bool.true_and]
  split <;> rename_i h <;> simp at h <;> omega
theorem wrap_i32 {n : Int} (h0 : -2147483648 ≤ n) (h1 : n < 2147483648) : IntKind.i32.wrap n = n := by
  simp only [IntKind.wrap, IntKind.bits, IntKind.signed, Int.reducePow, Nat.reduceSub, Bool.true_and]
  split <;> rename_i h <;> simp at h <;> omega
theorem wrap_u8 {n : Int} (h0 : 0 ≤ n) (h1 : n < 256) : IntKind.u8.wrap n = n := by
  simp only [IntKind.wrap, IntKind.bits, IntKind.signed, Int.reducePow, Bool.false_and, Bool.false_eq_true, if_false]
  omega

/-! ### A function's end, memory being as it was -/

theorem calls_ret {f : FuncId} {fn : AFunc} (hf : C.funcs f = some fn) (hp : C.isPrim f = false) (hk : C.keep f = false) {args : List AVal} {st : St} {v : AVal}
    (h : W C fn.body (args.zipIdx.map fun (v, i) => (i, v)) { h := st.h, d := [] } [] (RetIs false fn.results st v st)) : Calls C f args st v st := by
  refine calls_of hf hp ?_
  rw [hk]
  exact h

theorem ret_plain {rs : List AResult} {st : St} {v : AVal} {e : Env} {s : St} {vs : List AVal} (h1 : resultsA e s.h rs = some vs) (hv : oneOf vs = v) (ha : Above st.h s) (hs : v.inSight st.h.length = true) : RetIs false rs st v st .ret e s :=
  retIs h1 (by rw [hv]; exact finish_plain ha hs)

theorem ret_acc {rs : List AResult} {st : St} {v : AVal} {e : Env} {s : St} {size : Nat} {cs : List AVal} (h1 : resultsA e s.h rs = some [v]) (ha : Above st.h s) (hacc : Acc st.h.length s size v cs) (hsz : 0 < size) (hs : AVal.scopeds st.h.length cs = true) :
    RetIs false rs st (frozen size cs) st .ret e s :=
  retIs h1 (finish_acc ha hacc hsz hs)

/-! ### Operations, by what they are asked of -/

theorem loadA_ptr_one {h : List ABlk} {b ver off : Nat} {cs : List AVal} (hr : row? h b ver = some cs) : loadA h none (.ptr b ver off) = cs[off]? := by simp only [loadA, hr]
theorem loadA_ptr {h : List ABlk} {n b ver off : Nat} {cs : List AVal} (hr : row? h b ver = some cs) (hn : off + n ≤ ver) : loadA h (some n) (.ptr b ver off) = some (.agg ((cs.drop off).take n)) := by
  simp only [loadA, hr]
  rw [if_pos hn]
theorem loadA_iptr_one {h : List ABlk} {cs : List AVal} : loadA h none (.iptr cs) = cs[0]? := rfl
theorem loadA_iptr {h : List ABlk} {n : Nat} {cs : List AVal} : loadA h (some n) (.iptr cs) = if n ≤ cs.length then some (.agg (cs.take n)) else none := rfl
theorem lenA_str {h : List ABlk} {s : List UInt8} : lenA h 0 (.str s) = some s.length := rfl
theorem lenA_nil {h : List ABlk} : lenA h 1 .nilSlice = some 0 := rfl
theorem lenA_islice {h : List ABlk} {n : Nat} {f : Bool} {cs : List AVal} : lenA h 1 (.islice n f cs) = some n := rfl
theorem lenA_mslice {h : List ABlk} {b v o n z l : Nat} {x : Bool} : lenA h 1 (.mslice b v o n z l x) = some n := rfl
theorem row_new {h : List ABlk} {n : Nat} {cs : List AVal} : row? (h ++ [.row n cs]) h.length n = some cs := by simp [row?]
theorem row_set {h : List ABlk} {b n : Nat} {cs : List AVal} (hb : b < h.length) : row? (h.set b (.row n cs)) b n = some cs := by simp [row?, hb]
theorem sub_to {s : List UInt8} {kd : IntKind} {n : Nat} {st : St} (h : n ≤ s.length) : subR (some (.str s)) (some none) (some (some (.int kd n))) st = some (.str (s.take n), st) := by
  simp only [subR, boundsA, optBound, bound, asI]
  rw [if_pos ⟨by omega, by omega⟩]
  simp
theorem sub_from {s : List UInt8} {kd : IntKind} {n : Nat} {st : St} (h : n ≤ s.length) : subR (some (.str s)) (some (some (.int kd n))) (some none) st = some (.str (s.drop n), st) := by
  simp only [subR, boundsA, optBound, bound, asI]
  rw [if_pos ⟨by omega, by omega⟩]
  simp only [Int.toNat_natCast]
  rw [List.take_of_length_le (by simp)]
theorem sub_fromI {s : List UInt8} {kd : IntKind} {n : Int} {st : St} (h0 : 0 ≤ n) (h : n ≤ s.length) : subR (some (.str s)) (some (some (.int kd n))) (some none) st = some (.str (s.drop n.toNat), st) := by
  obtain ⟨k, rfl⟩ : ∃ k : Nat, n = k := ⟨n.toNat, by omega⟩
  rw [sub_from (by omega)]
  rfl
theorem sub_toI {s : List UInt8} {kd : IntKind} {n : Int} {st : St} (h0 : 0 ≤ n) (h : n ≤ s.length) : subR (some (.str s)) (some none) (some (some (.int kd n))) st = some (.str (s.take n.toNat), st) := by
  obtain ⟨k, rfl⟩ : ∃ k : Nat, n = k := ⟨n.toNat, by omega⟩
  rw [sub_to (by omega)]
  rfl
theorem sub_both {s : List UInt8} {kd kd' : IntKind} {m n : Nat} {st : St} (hm : m ≤ n) (h : n ≤ s.length) : subR (some (.str s)) (some (some (.int kd m))) (some (some (.int kd' n))) st = some (.str ((s.drop m).take (n - m)), st) := by
  simp only [subR, boundsA, optBound, bound, asI]
  rw [if_pos ⟨by omega, by omega⟩]
  simp only [Int.toNat_natCast]
  rw [if_pos ⟨by omega, by omega⟩]
theorem idxStr_at {s : List UInt8} {kd : IntKind} {k : Nat} {st : St} (h : k < s.length) : idxStrR (some (.str s)) (some (.int kd k)) st = some (.int .u8 s[k].toNat, st) := by
  simp only [idxStrR]
  rw [if_pos (by omega)]
  simp [h]
theorem bytesR_of {x : AVal} {st : St} {s : List UInt8} (h : sliceCells st.h 1 x = some (byteCells s)) : bytesR (some x) st = some (.str s, st) := by
  simp only [bytesR, h, bytesOf_byteCells, Option.map_some]
theorem append_slice {bytes size : Nat} {a b : AVal} {st : St} {cs : List AVal} {n : Nat} (hb : ∀ s, b ≠ .str s) (h1 : sliceCells st.h size b = some cs) (h2 : sliceLen b = some n) : appendR bytes size (some a) (some b) st = grow st bytes size a cs n := by
  cases b with
  | str s => exact absurd rfl (hb s)
  | _ => simp only [appendR, h1, h2]
theorem append_lit {bytes size n : Nat} {a : AVal} {f : Bool} {cs : List AVal} {st : St} (h : cs.length = n * size) : appendR bytes size (some a) (some (.islice n f cs)) st = grow st bytes size a cs n :=
  append_slice (fun s => by simp) (by simp [sliceCells, h]) rfl
theorem append_one {bytes : Nat} {a c : AVal} {f : Bool} {st : St} : appendR bytes 1 (some a) (some (.islice 1 f [c])) st = grow st bytes 1 a [c] 1 := append_lit rfl

theorem bne_ft : (false != true) = true := rfl
theorem bne_tf : (true != false) = true := rfl
theorem bne_ff : (false != false) = false := rfl
theorem bne_tt : (true != true) = false := rfl
theorem strOp_eql {a b : List UInt8} : strOp .eql a b = some (.bool (a == b)) := rfl
theorem strOp_neq {a b : List UInt8} : strOp .neq a b = some (.bool !(a == b)) := rfl
theorem strOp_add {a b : List UInt8} (h : a.length + b.length ≤ roomB) : strOp .add a b = some (.str (a ++ b)) := by
  simp only [strOp]
  rw [if_pos h]

def hasPair : List (Nat × Nat) → Nat → Nat → Bool
  | [], _, _ => false
  | p :: l, a, b => if a = p.1 then (if b = p.2 then true else hasPair l a b) else hasPair l a b
theorem hasPair_nil {a b : Nat} : hasPair [] a b = false := rfl
theorem hasPair_cons {x y a b : Nat} {l : List (Nat × Nat)} : hasPair ((x, y) :: l) a b = if a = x then (if b = y then true else hasPair l a b) else hasPair l a b := rfl
theorem contains_pair {l : List (Nat × Nat)} {a b : Nat} : l.contains (a, b) = hasPair l a b := by
  induction l with
  | nil => rfl
  | cons p l ih =>
    obtain ⟨x, y⟩ := p
    simp only [hasPair, List.contains_cons, ih]
    by_cases h1 : a = x <;> by_cases h2 : b = y <;> simp [h1, h2]

/-! ### Blocks that a function lays -/

theorem row_off {h l : List ABlk} {k n : Nat} : row? (h ++ l) (h.length + k) n = row? l k n := by
  unfold row?
  rw [List.getElem?_append_right (by omega), Nat.add_sub_cancel_left]
theorem row_off0 {h l : List ABlk} {n : Nat} : row? (h ++ l) h.length n = row? l 0 n := row_off (k := 0)
theorem row_zero {l : List ABlk} {cs : List AVal} {n : Nat} : row? (.row n cs :: l) 0 n = some cs := by simp [row?]
theorem row_succ {o : ABlk} {l : List ABlk} {k n : Nat} : row? (o :: l) (k + 1) n = row? l k n := by simp [row?]
theorem set_off {h l : List ABlk} {k : Nat} {o : ABlk} : (h ++ l).set (h.length + k) o = h ++ l.set k o := by
  rw [List.set_append_right _ _ (by omega), Nat.add_sub_cancel_left]
theorem set_off0 {h l : List ABlk} {o : ABlk} : (h ++ l).set h.length o = h ++ l.set 0 o := set_off (k := 0)
theorem get_off {h l : List ABlk} {k : Nat} : (h ++ l)[h.length + k]? = l[k]? := by
  rw [List.getElem?_append_right (by omega), Nat.add_sub_cancel_left]
theorem get_off0 {h l : List ABlk} : (h ++ l)[h.length]? = l[0]? := get_off (k := 0)
theorem loadA_at_one {h : List ABlk} {b ver off : Nat} : loadA h none (.ptr b ver off) = (row? h b ver).bind fun cs => cs[off]? := by
  simp only [loadA]
  cases row? h b ver <;> rfl
theorem loadA_at {h : List ABlk} {n b ver off : Nat} : loadA h (some n) (.ptr b ver off) = (row? h b ver).bind fun cs => if off + n ≤ ver then some (.agg ((cs.drop off).take n)) else none := by
  simp only [loadA]
  cases row? h b ver <;> rfl
theorem storeR_at {n b ver off : Nat} {v : AVal} {st : St} : storeR n (some (.ptr b ver off)) (some v) st = (row? st.h b ver).bind fun cs => if v.storable = true ∧ v.cells.length = n ∧ off + n ≤ ver then some (.tuple [], st.setRow b ver (putCells cs off v.cells)) else none := by
  simp only [storeR]
  cases row? st.h b ver <;> rfl

theorem above_off (h l : List ABlk) (d : List Nat) (hd : ∀ b ∈ d, h.length ≤ b) : Above h { h := h ++ l, d := d } := ⟨by simp, hd⟩

theorem byteCells_get (s : List UInt8) (k : Nat) (h : k < s.length) : (byteCells s)[k]? = some (.int .u8 s[k].toNat) := by
  simp [byteCells, h]

end Go.Shadow
