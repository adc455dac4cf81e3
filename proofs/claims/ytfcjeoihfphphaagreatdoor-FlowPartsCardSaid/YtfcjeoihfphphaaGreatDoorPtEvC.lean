/- A part of the proof, written by programs of this seat and by hand: EvC. -/
import Derived.Maps.RangeRun
import Derived.Test.YtfcjeoihfphphaaGreatDoorPtEvB
set_option linter.unusedVariables false
set_option linter.unusedSimpArgs false
section
namespace Go.Ev
open Go.RowKit
def W (ro : Option Nat) : Fence := { Fence.wide with round := ro }
theorem W_calls {ro : Option Nat} {k : Nat} {P : Program} {g : FuncId} {args : Array Value} {w : World} {R : Ending → World → Prop} : CallsIn (W ro) k P g args w R ↔ Calls P g args w R :=
 (callsIn_wide (n := k) : CallsIn Fence.wide k P g args w R ↔ Calls P g args w R)
def RetE (P : Program) (f : Value) (args : List Value) (w : World) (R : Value → World → Prop) : Prop :=
 ∃ d g as w1, (Deferred.ofValue f ⟨args⟩).run P w = .ok d w ∧ (invoke d.target d.args).run P w = .ok (.enter g as) w1 ∧ Calls P g as w1 (fun e w' => ∃ v, e = .returned v ∧ R v w')
def RetR (P : Program) (f : Value) (args : List Value) (w : World) (R : Value → World → Prop) : Prop :=
 ∃ d l g tmps assign body w1, (Deferred.ofValue f ⟨args⟩).run P w = .ok d w ∧ (invoke d.target d.args).run P w = .ok (.round l g tmps assign body) w1 ∧ RoundIn Fence.wide 0 P l g tmps assign body w1 (fun e w' => ∃ v, e = .returned v ∧ R v w')
def KOk (P : Program) (K : Callee') : Prop :=
 ∀ (φ : Phi) (h : Hp) (nx : Nat) (w : World) (f : AV) (args : List AV) (r : R3), K f args h nx = some r → ∀ (f' : Value) (args' : List Value), VR φ f f' → VRL φ args args' → WR φ h nx w →
  ((∀ l, f ≠ .yld l) ∧ RetE P f' args' w (fun v w' => ∃ ψ, VR ψ r.1 v ∧ WR ψ r.2.1 r.2.2 w' ∧ Stp φ h w ψ r.2.1 w')) ∨
  ((∃ l, f = .yld l) ∧ RetR P f' args' w (fun v w' => ∃ ψ, VR ψ r.1 v ∧ WR ψ r.2.1 r.2.2 w' ∧ Stp φ h w ψ r.2.1 w'))
theorem ER.put {φ : Phi} {env : T AV} {n : Nat} {tmps : Array Value} (hE : ER φ env n tmps) {d : Nat} (hd : d < n) {v : AV} {v' : Value} (hv : VR φ v v') : ER φ (env.put d v) n (tmps.setIfInBounds d v') := by
 refine ⟨by simp [hE.1], fun t u ht => ?_⟩
 rw [T.get_put] at ht
 by_cases e : t = d
 · subst e
   rw [if_pos rfl] at ht; injection ht with ht; subst ht
   exact ⟨hd, v', by rw [Array.getElem?_setIfInBounds, if_pos rfl, if_pos (by rw [hE.1]; exact hd)], hv⟩
 · rw [if_neg e] at ht
   obtain ⟨h1, u', h2, h3⟩ := hE.2 t u ht
   exact ⟨h1, u', by rw [Array.getElem?_setIfInBounds, if_neg (fun h => e h.symm)]; exact h2, h3⟩
theorem ER.putD {φ : Phi} {env : T AV} {n : Nat} {a : Act} (hE : ER φ env n a.tmps) {d : Option Nat} (hd : cdst n d = true) {v : AV} {v' : Value} (hv : VR φ v v') : ER φ (Ev.putD env d v) n (a.put d v').tmps := by
 cases d with
 | none => exact hE
 | some d =>
   have : d < n := by have h : Nat.blt d n = true := hd; rwa [Nat.blt_eq] at h
   exact hE.put this hv
theorem put_defers (a : Act) (d : Option Tmp) (v : Value) : (a.put d v).defers = a.defers := by cases d <;> rfl
section
variable {P : Program} {φ : Phi} {h : Hp} {nx : Nat} {w : World} {env : T AV} {n : Nat} {a : Act} {B : Tb} {K : Callee'}
theorem cxo_cases {op : Op} {x : XO} (hc : cxo B op = some x) : (∃ y, x = .pl y ∧ cop B op = some y) ∨ (∃ f args ts fi l, op = .call { callee := .value f, args, argTypes := ts } ∧ x = .call fi l ∧ cpx f = some fi ∧ mapO cpx args.toList = some l) := by
 unfold cxo at hc
 split at hc
 · rename_i f args ts
   simp only [Option.bind_eq_some_iff] at hc
   obtain ⟨fi, h1, l, h2, hc⟩ := hc
   injection hc with hc
   exact .inr ⟨f, args, ts, fi, l, rfl, hc.symm, h1, h2⟩
 · simp only [Option.map_eq_some_iff] at hc
   obtain ⟨y, hy, rfl⟩ := hc
   exact .inl ⟨y, rfl, hy⟩
theorem xo_ok (hB : B.Ok P) (hFl : ∀ t offs, B.flat.get t = some offs → FlatT P t offs) (hK : KOk P K) (hE : ER φ env n a.tmps) (H : WR φ h nx w) {o : Oper} {x : XO} {r : R3} (hc : cxo B o.op = some x) (hr : xo K x env h nx = some r)
 (ro : Option Nat) (next : Act → World → Prop) (Q : Exit → Act → World → Prop) (hn : ∀ ψ v' w', VR ψ r.1 v' → WR ψ r.2.1 r.2.2 w' → Stp φ h w ψ r.2.1 w' → next (a.put o.dst v') w') : o.wpIn (W ro) 0 P a w next Q := by
 refine ⟨fun _ _ => trivial, ?_⟩
 have hnd : ∀ c, o.op ≠ .defer c := by
  intro c e
  rw [e] at hc
  rcases cxo_cases hc with ⟨y, _, hy⟩ | ⟨f, args, ts, fi, l, he, _⟩
  · simp [cop] at hy
  · cases he
 rw [Oper.semAt_eq _ _ _ hnd]
 rcases cxo_cases hc with ⟨y, rfl, hy⟩ | ⟨f, args, ts, fi, l, he, rfl, hf, hl⟩
 · obtain ⟨ψ, v', w', hrun, hv, H', S⟩ := xop_ok hB hFl hE H hy (show xop y env h nx = some r from hr)
   rcases hrun with hrun | ⟨hrun, rfl⟩
   · rw [hrun]; exact hn ψ v' w' hv H' S
   · rw [hrun]; exact hn ψ undef w' hv H' S
 · simp only [xo, Option.bind_eq_some_iff] at hr
   obtain ⟨fv, hfv, lv, hlv, hr⟩ := hr
   have hargs : args.map a.eval = ⟨args.toList.map a.eval⟩ := by apply Array.toList_inj.1; simp
   rcases hK φ h nx w fv lv r hr (a.eval f) (args.toList.map a.eval) (ev_ok hE hf hfv) (evL_ok hE hl hlv) H with ⟨_, d, g, as, w1, hd, hi, hcalls⟩ | ⟨_, d, l, g, tmps, assign, body, w1, hd, hi, hround⟩
   · have hexec : (execOp a.eval o).run P w = (invoke d.target d.args).run P w := by
      simp only [execOp, he, resolve, Sem.run_bind, hargs, hd, Result.andThen_ok]
     rw [hexec, hi]
     refine ⟨(fun hh => by cases hh), W_calls.2 (hcalls.mono ?_)⟩
     rintro e w' ⟨v, rfl, ψ, hv, H', S⟩
     exact hn ψ v w' hv H' S
   · have hexec : (execOp a.eval o).run P w = (invoke d.target d.args).run P w := by
      simp only [execOp, he, resolve, Sem.run_bind, hargs, hd, Result.andThen_ok]
     rw [hexec, hi]
     refine ⟨(fun hh => by cases hh), ?_⟩
     refine RoundIn.mono (F := W ro) (n := 0) hround ?_
     rintro e w' ⟨v, rfl, ψ, hv, H', S⟩
     exact hn ψ v w' hv H' S
theorem wanted_ok (hE : ER φ env n a.tmps) {ops : Array Oper} {o : Oper} {g : Option (Nat × Bool)} {b : Bool} (hc : cguard ops n o.guard = some g) (hw : wantedX env g = some b) : Region.wanted o (yielded ops a.tmps) = b := by
 unfold cguard at hc
 unfold Region.wanted
 split at hc
 · rename_i hg
   injection hc with hc; subst hc
   have hw : some true = some b := hw
   injection hw with hw
   rw [hg]; exact hw
 · rename_i j want hg
   simp only [Option.bind_eq_some_iff] at hc
   obtain ⟨oj, hoj, d, hd, hc⟩ := hc
   cases hdn : Nat.blt d n with
   | false => rw [hdn] at hc; cases hc
   | true =>
     rw [hdn] at hc
     simp only [cond_true] at hc
     injection hc with hc; subst hc
     have hw : ((env.get d).bind fun v => match v with
      | .bool b => some (Bool.rec (motive := fun _ => Bool) (!want) want b)
      | .tup [] => some false
      | _ => none) = some b := hw
     simp only [Option.bind_eq_some_iff] at hw
     obtain ⟨v, hv, hw⟩ := hw
     obtain ⟨h1, v', h2, h3⟩ := hE.2 d v hv
     rw [hg]
     split at hw
     · rename_i c
       injection hw with hw; subst hw
       cases h3
       have hy : yielded ops a.tmps j = some c := by unfold yielded; simp only [hoj, Option.bind_some, hd, h2]
       simp only [hy]
       cases c <;> cases want <;> rfl
     · injection hw with hw; subst hw
       cases h3 with
       | tup h3 =>
       cases h3
       have hy : yielded ops a.tmps j = none := by unfold yielded; simp only [hoj, Option.bind_some, hd, h2]
       simp only [hy]
       rfl
     · cases hw
theorem cxr_parts {ops : Array Oper} {o : Oper} {x : XR} (hc : cxr B n ops o = some x) : cguard ops n o.guard = some x.guard ∧ cxo B o.op = some x.op ∧ x.dst = o.dst ∧ cdst n o.dst = true := by
 unfold cxr at hc
 simp only [Option.bind_eq_some_iff] at hc
 obtain ⟨g, hg, y, hy, hc⟩ := hc
 cases hd : cdst n o.dst with
 | false => rw [hd] at hc; cases hc
 | true =>
   rw [hd] at hc
   simp only [cond_true] at hc
   injection hc with hc; subst hc
   exact ⟨hg, hy, rfl, rfl⟩
theorem evR_cons (x : XR) (l : List XR) (env : T AV) (h : Hp) (nx : Nat) : evR K (x :: l) env h nx = (wantedX env x.guard).bind fun b => Bool.rec (motive := fun _ => Option (T AV × Hp × Nat)) (evR K l (putD env x.dst (.tup [])) h nx)
      ((xo K x.op env h nx).bind fun r => evR K l (putD env x.dst r.1) r.2.1 r.2.2) b := rfl
theorem evR_ok (hB : B.Ok P) (hFl : ∀ t offs, B.flat.get t = some offs → FlatT P t offs) (hK : KOk P K) {ops : Array Oper} {ro : Option Nat} {Q : Exit → Act → World → Prop} : ∀ (l : List XR) (k : Nat) (φ : Phi) (env : T AV) (h : Hp) (nx : Nat) (a : Act) (w : World) (r : T AV × Hp × Nat),
 (∀ (i : Nat) (x : XR), l[i]? = some x → ∃ o, ops[k + i]? = some o ∧ cxr B n ops o = some x) → evR K l env h nx = some r → ER φ env n a.tmps → WR φ h nx w →
 (∀ ψ a' w', ER ψ r.1 n a'.tmps → a'.defers = a.defers → WR ψ r.2.1 r.2.2 w' → Stp φ h w ψ r.2.1 w' → Q .normal a' w') → wpOpsIn (W ro) 0 P ops Q (List.range' k l.length) a w := by
 intro l
 induction l with
 | nil =>
   intro k φ env h nx a w r _ hr hE H hQ
   have hr : some (env, h, nx) = some r := hr
   injection hr with hr; subst hr
   exact hQ φ a w hE rfl H (Stp.refl φ h w)
 | cons x l ih =>
   intro k φ env h nx a w r hl hr hE H hQ
   obtain ⟨o, ho, hx⟩ := hl 0 x rfl
   have hl' : ∀ (i : Nat) (y : XR), l[i]? = some y → ∃ o, ops[k + 1 + i]? = some o ∧ cxr B n ops o = some y := fun i y hy => by
    have := hl (i + 1) y (by simpa using hy)
    rwa [show k + (i + 1) = k + 1 + i by omega] at this
   obtain ⟨hg, hop, hdst, hd⟩ := cxr_parts hx
   rw [evR_cons] at hr
   simp only [Option.bind_eq_some_iff] at hr
   obtain ⟨b, hb, hr⟩ := hr
   have hw := wanted_ok hE hg hb
   simp only [List.length_cons, List.range'_succ, wpOpsIn, Nat.add_zero] at ho ⊢
   rw [ho]
   simp only [hw]
   cases b with
   | false =>
     simp only [Bool.false_eq_true, if_false]
     refine ⟨fun _ _ => trivial, ?_⟩
     rw [hdst] at hr
     refine ih (k + 1) φ _ h nx (a.put o.dst undef) w r hl' hr (hE.putD hd (.tup .nil)) H fun ψ a' w' h1 h2 h3 h4 => hQ ψ a' w' h1 (by rw [h2, put_defers]) h3 h4
   | true =>
     simp only [if_true]
     simp only [Option.bind_eq_some_iff] at hr
     obtain ⟨q, hq, hr⟩ := hr
     refine xo_ok hB hFl hK hE H hop hq ro _ Q fun ψ v' w' hv H' S => ?_
     rw [hdst] at hr
     refine ih (k + 1) ψ _ q.2.1 q.2.2 (a.put o.dst v') w' r hl' hr ((hE.mono S.ext).putD hd hv) H' fun χ a' w'' h1 h2 h3 h4 => hQ χ a' w'' h1 (by rw [h2, put_defers]) h3 (S.trans h4)
end
end Go.Ev
end
section
namespace Go.Ev
open Go.RowKit
def DrawOk (P : Program) (B : Tb) (K : Callee') : Prop :=
 ∀ (n : Nat) (ops : Array Oper) (m : Nat) (l : List XI), cdraw B n ops = some (m, l) → ∀ (φ : Phi) (env : T AV) (h : Hp) (nx : Nat) (a : Act) (w : World) (r : DS) (ro : Option Nat) (Q : Exit → Act → World → Prop),
  evD K nx l ⟨env, h, nx + m, h, []⟩ = some r → ER φ env n a.tmps → WR φ h nx w →
  (∀ ψ a' w', ER ψ r.env n a'.tmps → a'.defers = a.defers → WR ψ r.h r.nx w' → Stp φ h w ψ r.h w' → Q .normal a' w') →
  ∀ t, wpOpsIn (W ro) 0 P ops Q (Region.schedule (P.follows .mixedOrders) ops t) a w
def XE.real : XE → Exit
 | .normal => .normal
 | .exit id => .exit id
 | .ret => .ret
inductive DR (φ : Phi) : List Nat → List Deferred → Prop
 | nil : DR φ [] []
 | cons {d : Nat} {i : RI} {ds : List Nat} {l : List Deferred} (h : φ d = some i) (t : DR φ ds l) : DR φ (d :: ds) ({ target := .collected i.blk, args := #[] } :: l)
theorem DR.mono {φ ψ : Phi} (hle : φ.le ψ) {ds : List Nat} {l : List Deferred} (h : DR φ ds l) : DR ψ ds l := by
 induction h with
 | nil => exact .nil
 | cons h _ ih => exact .cons (hle _ _ h) ih
def RoR (φ : Phi) (roA ro : Option Nat) : Prop :=
 (roA = none ∧ ro = none) ∨ ∃ l i, roA = some l ∧ φ l = some i ∧ ro = some i.blk
theorem RoR.mono {φ ψ : Phi} (hle : φ.le ψ) {roA ro : Option Nat} (h : RoR φ roA ro) : RoR ψ roA ro := by
 rcases h with h | ⟨l, i, h1, h2, h3⟩
 · exact .inl h
 · exact .inr ⟨l, i, h1, hle _ _ h2, h3⟩
def Post (φ : Phi) (h : Hp) (w : World) (n : Nat) (e : XE) (s : St) : Exit → Act → World → Prop := fun e' a' w' =>
 e' = e.real ∧ ∃ ψ, ER ψ s.env n a'.tmps ∧ DR ψ s.defs a'.defers ∧ WR ψ s.h s.nx w' ∧ Stp φ h w ψ s.h w'
section
variable {P : Program} {B : Tb} {K : Callee'} {n fuel : Nat}
def COk (P : Program) (K : Callee') (n fuel : Nat) (c : Code) (x : XC) : Prop :=
 ∀ (φ : Phi) (roA ro : Option Nat) (s : St) (a : Act) (w : World) (e : XE) (s' : St), evC K n fuel roA x s = some (e, s') → RoR φ roA ro → ER φ s.env n a.tmps → DR φ s.defs a.defers → WR φ s.h s.nx w →
  c.wpIn (W ro) 0 P (Post φ s.h w n e s') a w
theorem evC_seq (roA : Option Nat) (x y : XC) (s : St) : evC K n fuel roA (.seq x y) s = (evC K n fuel roA x s).bind fun r => match r.1 with
      | .normal => evC K n fuel roA y r.2
      | e => some (e, r.2) := rfl
theorem evC_cond (roA : Option Nat) (c : IX) (x y : XC) (s : St) : evC K n fuel roA (.cond c x y) s = (c.ev s.env).bind fun v => match v with
      | .bool b => Bool.rec (motive := fun _ => Option (XE × St)) (evC K n fuel roA y s) (evC K n fuel roA x s) b
      | _ => none := rfl
theorem evC_block (roA : Option Nat) (id : Nat) (x : XC) (s : St) : evC K n fuel roA (.block id x) s = (evC K n fuel roA x s).bind fun r => match r.1 with
      | .exit id' => bif Nat.beq id' id then some (.normal, r.2) else some (.exit id', r.2)
      | e => some (e, r.2) := rfl
noncomputable def evLp (K : Callee') (n fuel : Nat) (roA : Option Nat) (x : XC) (f : Nat) : St → Option (XE × St) :=
 Nat.rec (motive := fun _ => St → Option (XE × St)) (fun _ => none) (fun _ again s => (evC K n fuel roA x s).bind fun r => match r.1 with
  | .normal => again r.2
  | e => some (e, r.2)) f
theorem evC_loop (roA : Option Nat) (x : XC) (s : St) : evC K n fuel roA (.loop x) s = evLp K n fuel roA x fuel s := rfl
theorem evLp_succ (roA : Option Nat) (x : XC) (f : Nat) (s : St) : evLp K n fuel roA x (f + 1) s = (evC K n fuel roA x s).bind fun r => match r.1 with
      | .normal => evLp K n fuel roA x f r.2
      | e => some (e, r.2) := rfl
theorem Post.trans {φ ψ : Phi} {h h1 : Hp} {w w1 : World} {e : XE} {s : St} (S : Stp φ h w ψ h1 w1) {e' : Exit} {a' : Act} {w' : World} (p : Post ψ h1 w1 n e s e' a' w') : Post φ h w n e s e' a' w' := by
 obtain ⟨h2, χ, h3, h4, h5, h6⟩ := p
 exact ⟨h2, χ, h3, h4, h5, S.trans h6⟩
theorem c_seq {c d : Code} {x y : XC} (hc : COk P K n fuel c x) (hd : COk P K n fuel d y) : COk P K n fuel (.seq c d) (.seq x y) := by
 intro φ roA ro s a w e s' hr hro hE hD H
 rw [evC_seq] at hr
 simp only [Option.bind_eq_some_iff] at hr
 obtain ⟨⟨e1, s1⟩, h1, hr⟩ := hr
 refine wpIn_seq (wpIn_mono (hc φ roA ro s a w e1 s1 h1 hro hE hD H) ?_)
 rintro e' a1 w1 ⟨rfl, ψ, h2, h3, h4, h5⟩
 cases e1 with
 | normal =>
   exact wpIn_mono (hd ψ roA ro s1 a1 w1 e s' hr (hro.mono h5.ext) h2 h3 h4) fun _ _ _ p => Post.trans h5 p
 | exit id =>
   injection hr with hr; injection hr with hr1 hr2; subst hr1; subst hr2
   exact ⟨rfl, ψ, h2, h3, h4, h5⟩
 | ret =>
   injection hr with hr; injection hr with hr1 hr2; subst hr1; subst hr2
   exact ⟨rfl, ψ, h2, h3, h4, h5⟩
theorem c_cond {o : Operand} {c d : Code} {i : IX} {x y : XC} (hi : cpx o = some i) (hc : COk P K n fuel c x) (hd : COk P K n fuel d y) : COk P K n fuel (.cond o c d) (.cond i x y) := by
 intro φ roA ro s a w e s' hr hro hE hD H
 rw [evC_cond] at hr
 simp only [Option.bind_eq_some_iff] at hr
 obtain ⟨v, hv, hr⟩ := hr
 have hvv := ev_ok hE hi hv
 split at hr
 · rename_i b
   generalize hq : a.eval o = q at hvv
   cases hvv
   cases b with
   | true => exact wpIn_cond_true hq (hc φ roA ro s a w e s' hr hro hE hD H)
   | false => exact wpIn_cond_false hq (hd φ roA ro s a w e s' hr hro hE hD H)
 · cases hr
theorem c_block {id : Nat} {c : Code} {x : XC} (hc : COk P K n fuel c x) : COk P K n fuel (.block id c) (.block id x) := by
 intro φ roA ro s a w e s' hr hro hE hD H
 rw [evC_block] at hr
 simp only [Option.bind_eq_some_iff] at hr
 obtain ⟨⟨e1, s1⟩, h1, hr⟩ := hr
 refine wpIn_block (wpIn_mono (hc φ roA ro s a w e1 s1 h1 hro hE hD H) ?_)
 rintro e' a1 w1 ⟨rfl, ψ, h2, h3, h4, h5⟩
 cases e1 with
 | normal =>
   injection hr with hr; injection hr with hr1 hr2; subst hr1; subst hr2
   exact ⟨rfl, ψ, h2, h3, h4, h5⟩
 | exit id' =>
   simp only at hr
   cases hb : Nat.beq id' id with
   | true =>
     rw [hb] at hr
     have hb := Nat.eq_of_beq_eq_true hb
     subst hb
     simp only [cond_true] at hr
     injection hr with hr; injection hr with hr1 hr2; subst hr1; subst hr2
     show (if id' = id' then _ else _)
     rw [if_pos rfl]
     exact ⟨rfl, ψ, h2, h3, h4, h5⟩
   | false =>
     rw [hb] at hr
     have hne : id' ≠ id := fun he => by subst he; simp at hb
     simp only [cond_false] at hr
     injection hr with hr; injection hr with hr1 hr2; subst hr1; subst hr2
     show (if id' = id then _ else _)
     rw [if_neg hne]
     exact ⟨rfl, ψ, h2, h3, h4, h5⟩
 | ret =>
   injection hr with hr; injection hr with hr1 hr2; subst hr1; subst hr2
   exact ⟨rfl, ψ, h2, h3, h4, h5⟩
theorem c_loop {c : Code} {x : XC} (hc : COk P K n fuel c x) : COk P K n fuel (.loop c) (.loop x) := by
 intro φ roA ro s a w e s' hr hro hE hD H
 rw [evC_loop] at hr
 refine wpIn_loop_rounds fuel ?_
 have key : ∀ (f : Nat) (φ : Phi) (s : St) (a : Act) (w : World), evLp K n fuel roA x f s = some (e, s') → RoR φ roA ro → ER φ s.env n a.tmps → DR φ s.defs a.defers → WR φ s.h s.nx w →
  Code.roundsIn (W ro) 0 P c (Post φ s.h w n e s') f a w := by
  intro f
  induction f with
  | zero => intro φ s a w hr; cases hr
  | succ f ih =>
    intro φ s a w hr hro hE hD H
    rw [evLp_succ] at hr
    simp only [Option.bind_eq_some_iff] at hr
    obtain ⟨⟨e1, s1⟩, h1, hr⟩ := hr
    rw [roundsIn_succ]
    refine wpIn_mono (hc φ roA ro s a w e1 s1 h1 hro hE hD H) ?_
    rintro e' a1 w1 ⟨rfl, ψ, h2, h3, h4, h5⟩
    cases e1 with
    | normal =>
      have := ih ψ s1 a1 w1 hr (hro.mono h5.ext) h2 h3 h4
      show Code.roundsIn (W ro) 0 P c (Post φ s.h w n e s') f a1 w1
      have mono : ∀ (f : Nat) (a : Act) (w2 : World) (Q Q' : Exit → Act → World → Prop), (∀ e a w, Q e a w → Q' e a w) → Code.roundsIn (W ro) 0 P c Q f a w2 → Code.roundsIn (W ro) 0 P c Q' f a w2 := by
       intro f
       induction f with
       | zero => intro a w2 Q Q' _ h; exact h
       | succ f ihf =>
         intro a w2 Q Q' hQ h
         rw [roundsIn_succ] at h ⊢
         refine wpIn_mono h fun e a w hq => ?_
         cases e with
         | normal => exact ihf a w Q Q' hQ hq
         | _ => exact hQ _ _ _ hq
      exact mono f a1 w1 _ _ (fun _ _ _ p => Post.trans h5 p) this
    | exit id =>
      injection hr with hr; injection hr with hr1 hr2; subst hr1; subst hr2
      exact ⟨rfl, ψ, h2, h3, h4, h5⟩
    | ret =>
      injection hr with hr; injection hr with hr1 hr2; subst hr1; subst hr2
      exact ⟨rfl, ψ, h2, h3, h4, h5⟩
 exact key fuel φ s a w hr hro hE hD H
theorem c_reg (hB : B.Ok P) (hFl : ∀ t offs, B.flat.get t = some offs → FlatT P t offs) (hK : KOk P K) {id : Nat} {ops : Array Oper} {l : List XR} (hl : mapO (cxr B n ops) ops.toList = some l) : COk P K n fuel (.region id ops false) (.reg l) := by
 intro φ roA ro s a w e s' hr hro hE hD H
 have hr : ((evR K l s.env s.h s.nx).bind fun r => some (XE.normal, (⟨r.1, s.defs, r.2.1, r.2.2⟩ : St))) = some (e, s') := hr
 simp only [Option.bind_eq_some_iff] at hr
 obtain ⟨r, h1, hr⟩ := hr
 injection hr with hr; injection hr with hr1 hr2; subst hr1; subst hr2
 obtain ⟨hlen, hget⟩ := mapO_some hl
 refine wpIn_region ?_
 have hsz : ops.size = l.length := by rw [← hlen]; simp
 rw [hsz, List.range_eq_range']
 refine evR_ok (n := n) (ops := ops) hB hFl hK l 0 φ s.env s.h s.nx a w r (fun i x hx => ?_) h1 hE H fun ψ a' w' h2 h3 h4 h5 => ⟨rfl, ψ, h2, by rw [h3]; exact hD.mono h5.ext, h4, h5⟩
 have hlt : i < ops.size := by rw [hsz]; exact (List.getElem?_eq_some_iff.1 hx).1
 obtain ⟨y, hy, hf⟩ := hget i ops[i] (by simp [hlt])
 rw [hx] at hy; injection hy with hy; subst hy
 exact ⟨ops[i], by simp [hlt], hf⟩
theorem c_drw (hDr : DrawOk P B K) {id : Nat} {ops : Array Oper} {m : Nat} {l : List XI} (hl : cdraw B n ops = some (m, l)) : COk P K n fuel (.region id ops true) (.drw m l) := by
 intro φ roA ro s a w e s' hr hro hE hD H
 have hr : ((evD K s.nx l ⟨s.env, s.h, s.nx + m, s.h, []⟩).bind fun r => some (XE.normal, (⟨r.env, s.defs, r.h, r.nx⟩ : St))) = some (e, s') := hr
 simp only [Option.bind_eq_some_iff] at hr
 obtain ⟨r, h1, hr⟩ := hr
 injection hr with hr; injection hr with hr1 hr2; subst hr1; subst hr2
 refine wpIn_region_draw fun t => ?_
 have H1 : WR φ s.h s.nx { w with drawn := w.drawn + 1 } := WR.of_heap (w := w) (w' := { w with drawn := w.drawn + 1 }) rfl H
 refine hDr n ops m l hl φ s.env s.h s.nx a _ r ro _ h1 hE H1 (fun ψ a' w' h2 h3 h4 h5 => ⟨rfl, ψ, h2, ?_, h4, (Stp.drew φ s.h w).trans h5⟩) t
 rw [h3]; exact hD.mono h5.ext
end
end Go.Ev
end
section
namespace Go.Ev
open Go.RowKit
section
variable {P : Program} {B : Tb} {K : Callee'} {n fuel : Nat}
theorem evC_walk (roA : Option Nat) (it d1 d2 : Nat) (wr rd : List Nat) (l1 : List XR) (c : IX) (l2 : List XR) (p x : XC) (s : St) : evC K n fuel roA (.walk it d1 d2 wr rd l1 c l2 p x) s =
 Option.rec (motive := fun _ => Option (XE × St)) (evC K n fuel roA p s) (wkX K (evC K n fuel roA x) it d1 d2 wr rd l1 c l2 s) (wkMany s.env s.h it) := rfl
theorem wkL_env {d1 : Nat} {l1 : List XR} {c : IX} {env : T AV} {defs : List Nat} {nx : Nat} {h : Hp} {r : XE × St} (hr : wkL K d1 l1 c env defs nx h = some r) {t : Nat} (h1 : t ≠ d1) (h2 : t ∉ wrR l1) : r.2.env.get t = env.get t := by
 unfold wkL at hr
 simp only [Option.bind_eq_some_iff] at hr
 obtain ⟨q, hq, b, _, hr⟩ := hr
 split at hr
 · injection hr with hr; subst hr
   rw [show (XE.normal, (⟨q.1, defs, q.2.1, q.2.2⟩ : St)).2.env = q.1 from rfl, evR_env _ _ _ _ _ hq t h2, T.get_put_ne _ _ h1]
 · cases hr
theorem wkB_env {run : St → Option (XE × St)} {wx : List Nat} (hrun : ∀ s e s', run s = some (e, s') → ∀ t, t ∉ wx → s'.env.get t = s.env.get t) {d1 d2 : Nat} {l1 l2 : List XR} {c : IX} {env : T AV} {defs : List Nat} {nx : Nat} {h : Hp} {k v : AV} {r : XE × St} (hr : wkB K run d1 d2 l1 c l2 env defs nx h k v = some r)
 {t : Nat} (h1 : t ≠ d1) (h2 : t ≠ d2) (h3 : t ∉ wrR l1) (h4 : t ∉ wrR l2) (h5 : t ∉ wx) : r.2.env.get t = env.get t := by
 unfold wkB at hr
 simp only [Option.bind_eq_some_iff] at hr
 obtain ⟨q, hq, b, _, hr⟩ := hr
 split at hr
 · simp only [Option.bind_eq_some_iff] at hr
   obtain ⟨q2, hq2, hr⟩ := hr
   rw [hrun _ _ _ hr t h5]
   show q2.1.get t = _
   rw [evR_env _ _ _ _ _ hq2 t h4, T.get_put_ne _ _ h2, evR_env _ _ _ _ _ hq t h3, T.get_put_ne _ _ h1]
 · cases hr
theorem evC_env (roA : Option Nat) : ∀ (x : XC) (s : St) (e : XE) (s' : St), evC K n fuel roA x s = some (e, s') → ∀ t, t ∉ wrX x → s'.env.get t = s.env.get t := by
 intro x
 induction x with
 | skip =>
   intro s e s' hr t _
   have hr : some (XE.normal, s) = some (e, s') := hr
   injection hr with hr; injection hr with r1 r2; rw [r2]
 | reg l =>
   intro s e s' hr t ht
   have hr : ((evR K l s.env s.h s.nx).bind fun r => some (XE.normal, (⟨r.1, s.defs, r.2.1, r.2.2⟩ : St))) = some (e, s') := hr
   simp only [Option.bind_eq_some_iff] at hr
   obtain ⟨r, h1, hr⟩ := hr
   injection hr with hr; injection hr with r1 r2; subst r2
   exact evR_env _ _ _ _ _ h1 t ht
 | drw m l =>
   intro s e s' hr t ht
   have hr : ((evD K s.nx l ⟨s.env, s.h, s.nx + m, s.h, []⟩).bind fun r => some (XE.normal, (⟨r.env, s.defs, r.h, r.nx⟩ : St))) = some (e, s') := hr
   simp only [Option.bind_eq_some_iff] at hr
   obtain ⟨r, h1, hr⟩ := hr
   injection hr with hr; injection hr with r1 r2; subst r2
   exact evD_env _ _ _ h1 t ht
 | seq a b iha ihb =>
   intro s e s' hr t ht
   simp only [wrX, List.mem_append, not_or] at ht
   rw [evC_seq] at hr
   simp only [Option.bind_eq_some_iff] at hr
   obtain ⟨⟨e1, s1⟩, h1, hr⟩ := hr
   cases e1 with
   | normal => rw [ihb _ _ _ hr t ht.2, iha _ _ _ h1 t ht.1]
   | exit id => injection hr with hr; injection hr with r1 r2; subst r2; exact iha _ _ _ h1 t ht.1
   | ret => injection hr with hr; injection hr with r1 r2; subst r2; exact iha _ _ _ h1 t ht.1
 | cond c a b iha ihb =>
   intro s e s' hr t ht
   simp only [wrX, List.mem_append, not_or] at ht
   rw [evC_cond] at hr
   simp only [Option.bind_eq_some_iff] at hr
   obtain ⟨v, hv, hr⟩ := hr
   split at hr
   · rename_i bb
     cases bb with
     | true => exact iha _ _ _ hr t ht.1
     | false => exact ihb _ _ _ hr t ht.2
   · cases hr
 | block id a ih =>
   intro s e s' hr t ht
   rw [evC_block] at hr
   simp only [Option.bind_eq_some_iff] at hr
   obtain ⟨⟨e1, s1⟩, h1, hr⟩ := hr
   have := ih _ _ _ h1 t ht
   cases e1 with
   | normal => injection hr with hr; injection hr with r1 r2; subst r2; exact this
   | exit id' =>
     simp only at hr
     cases hb : Nat.beq id' id <;> rw [hb] at hr <;> injection hr with hr <;> injection hr with r1 r2 <;> subst r2 <;> exact this
   | ret => injection hr with hr; injection hr with r1 r2; subst r2; exact this
 | loop a ih =>
   intro s e s' hr t ht
   rw [evC_loop] at hr
   have key : ∀ (f : Nat) (s : St), evLp K n fuel roA a f s = some (e, s') → s'.env.get t = s.env.get t := by
    intro f
    induction f with
    | zero => intro s hr; cases hr
    | succ f ihf =>
      intro s hr
      rw [evLp_succ] at hr
      simp only [Option.bind_eq_some_iff] at hr
      obtain ⟨⟨e1, s1⟩, h1, hr⟩ := hr
      have h2 := ih _ _ _ h1 t ht
      cases e1 with
      | normal => rw [ihf _ hr, h2]
      | exit id => injection hr with hr; injection hr with r1 r2; subst r2; exact h2
      | ret => injection hr with hr; injection hr with r1 r2; subst r2; exact h2
   exact key fuel s hr
 | exit id =>
   intro s e s' hr t _
   have hr : some (XE.exit id, s) = some (e, s') := hr
   injection hr with hr; injection hr with r1 r2; rw [r2]
 | ret =>
   intro s e s' hr t _
   have hr : some (XE.ret, s) = some (e, s') := hr
   injection hr with hr; injection hr with r1 r2; rw [r2]
 | rngf f params assign body =>
   intro s e s' hr t _
   have hr : ((f.ev s.env).bind fun fv => (isFn fv).bind fun _ =>
    (match roA with
     | none => some (s.nx, s.nx :: s.defs, s.h.put s.nx (.deferred true), Nat.succ s.nx)
     | some l => (s.h.get l).bind fun o => match o with
       | .loop _ _ _ _ _ _ _ d => some (d, s.defs, s.h, s.nx)
       | _ => none).bind fun p =>
    (K fv [.yld p.2.2.2] (p.2.2.1.put p.2.2.2 (.loop .ready none s.env n params assign body p.1)) (Nat.succ p.2.2.2)).bind fun r =>
    (r.2.1.get p.2.2.2).bind fun o => match o with
     | .loop st pending env size params assign body d => match st with
       | .busy => none
       | _ => endX pending ⟨s.env, p.2.1, r.2.1.put p.2.2.2 (.loop .exhausted pending env size params assign body d), r.2.2⟩
     | _ => none) = some (e, s') := hr
   simp only [Option.bind_eq_some_iff] at hr
   obtain ⟨fv, _, _, _, p, _, r, _, o, _, hr⟩ := hr
   have hend : ∀ pending (s1 : St), endX pending s1 = some (e, s') → s1.env = s.env → s'.env.get t = s.env.get t := by
    intro pending s1 h1 h2
    unfold endX at h1
    split at h1
    all_goals first
     | (injection h1 with h1; injection h1 with r1 r2; subst r2; rw [h2])
     | cases h1
   split at hr
   · split at hr
     · cases hr
     · exact hend _ _ hr rfl
   · cases hr
 | walk it d1 d2 wr rd l1 c l2 p x ihp ihx =>
   intro s e s' hr t ht
   simp only [wrX, List.mem_cons, List.mem_append, not_or] at ht
   obtain ⟨t1, t2, t3, t4, t5, t6, t7⟩ := ht
   rw [evC_walk] at hr
   cases hm : wkMany s.env s.h it with
   | none => rw [hm] at hr; exact ihp _ _ _ hr t t6
   | some p =>
     rw [hm] at hr
     have hr : wkX K (evC K n fuel roA x) it d1 d2 wr rd l1 c l2 s p = some (e, s') := hr
     unfold wkX at hr
     cases hc : (!memB it wr && nodupB (p.1 :: p.2.1 :: ownsB p.2.2.2)) with
     | false => rw [hc] at hr; cases hr
     | true =>
       rw [hc] at hr
       simp only [cond_true, Option.bind_eq_some_iff] at hr
       obtain ⟨h', _, hr⟩ := hr
       have := wkL_env hr t1 t4
       rw [show (e, s').2.env = s'.env from rfl] at this
       rw [this, unsets_get, if_neg t3]
end
end Go.Ev
end
section
namespace Go.Ev
open Go.RowKit
theorem wkMany_some {env : T AV} {h : Hp} {it r m clk : Nat} {es : List (AV × AV)} (hw : wkMany env h it = some (r, m, clk, es)) :
 env.get it = some (.ptr r 0) ∧ h.get r = some (.miter (some m) clk true) ∧ h.get m = some (.map es clk) := by
 unfold wkMany at hw
 simp only [Option.bind_eq_some_iff] at hw
 obtain ⟨v, hv, hw⟩ := hw
 split at hw
 · rename_i r0
   simp only [Option.bind_eq_some_iff] at hw
   obtain ⟨o, ho, hw⟩ := hw
   split at hw
   · rename_i m0 clk0
     simp only [Option.bind_eq_some_iff] at hw
     obtain ⟨o2, ho2, hw⟩ := hw
     split at hw
     · rename_i es0 c0
       cases hc : (Nat.beq c0 clk0 && Nat.blt 1 es0.length) with
       | false => rw [hc] at hw; cases hw
       | true =>
         rw [hc] at hw
         rw [Bool.and_eq_true] at hc
         have hcc := Nat.eq_of_beq_eq_true hc.1
         simp only [cond_true] at hw
         injection hw with hw
         injection hw with a1 hw; injection hw with a2 hw; injection hw with a3 a4
         subst a1; subst a2; subst a3; subst a4; subst hcc
         exact ⟨hv, ho, ho2⟩
     · cases hw
   · cases hw
 · cases hw
theorem lk_fun {g : Hp} {ps : List (Nat × AObj)} (hg : ∀ p ∈ ps, g.get p.1 = some p.2) {p : Nat × AObj} (hp : p ∈ ps) : lk ps p.1 = some p.2 := by
 obtain ⟨o, ho⟩ := lk_some (List.mem_map_of_mem (f := (·.1)) hp)
 have h1 := hg _ (lk_mem ho)
 have h2 := hg _ hp
 rw [ho]
 exact h1.symm.trans h2
theorem ownsB_cons (e : AV × AV) (es : List (AV × AV)) : ownsB (e :: es) = ownB e.2 ++ ownsB es := rfl
theorem owns_apart {b : Nat} : ∀ {es : List (AV × AV)}, (ownsB es).Nodup → ∀ {x x' : AV × AV}, x ∈ es → x' ∈ es → x ≠ x' → b ∈ ownB x.2 → b ∉ ownB x'.2 := by
 intro es
 induction es with
 | nil => intro _ x x' h; cases h
 | cons e es ih =>
   intro hn x x' hx hx' hne hb hb'
   rw [ownsB_cons, List.nodup_append] at hn
   obtain ⟨_, hn2, hn3⟩ := hn
   rcases List.mem_cons.1 hx with e1 | e1 <;> rcases List.mem_cons.1 hx' with e2 | e2
   · exact hne (e1.trans e2.symm)
   · rw [e1] at hb; exact hn3 b hb b (ownsB_mem.2 ⟨x', e2, hb'⟩) rfl
   · rw [e2] at hb'; exact hn3 b hb' b (ownsB_mem.2 ⟨x, e1, hb⟩) rfl
   · exact ih hn2 e1 e2 hne hb hb'
def ROk (R : AV × AV → Option (List (Nat × AObj))) : Prop := ∀ e ps, R e = some ps → ps.map (·.1) = ownB e.2 ∧ ∃ g : Hp, ∀ p ∈ ps, g.get p.1 = some p.2
theorem wkA_ok {R : AV × AV → Option (List (Nat × AObj))} (hR : ROk R) : ∀ (es : List (AV × AV)) (h h' : Hp), wkA R es h = some h' → (ownsB es).Nodup →
 (∀ e ∈ es, ∃ ps, R e = some ps) ∧ (∀ b, b ∉ ownsB es → h'.get b = h.get b) ∧ ∀ e ∈ es, ∀ ps, R e = some ps → ∀ p ∈ ps, h'.get p.1 = some p.2 := by
 intro es
 induction es with
 | nil =>
   intro h h' hw _
   have hw : some h = some h' := hw
   injection hw with hw; subst hw
   exact ⟨fun e he => absurd he List.not_mem_nil, fun _ _ => rfl, fun e he _ _ _ _ => absurd he List.not_mem_nil⟩
 | cons e es ih =>
   intro h h' hw hn
   have hw : ((R e).bind fun ps => wkA R es (puts ps h)) = some h' := hw
   simp only [Option.bind_eq_some_iff] at hw
   obtain ⟨ps, hps, hw⟩ := hw
   rw [ownsB_cons] at hn
   have hn0 := hn
   rw [List.nodup_append] at hn
   obtain ⟨_, hn2, hn3⟩ := hn
   obtain ⟨k1, k2, k3⟩ := ih _ _ hw hn2
   obtain ⟨q1, g, q2⟩ := hR _ _ hps
   refine ⟨fun e2 he2 => ?_, fun b hb => ?_, fun e2 he2 ps2 hps2 p hp => ?_⟩
   · rcases List.mem_cons.1 he2 with rfl | he2
     · exact ⟨ps, hps⟩
     · exact k1 _ he2
   · rw [ownsB_cons, List.mem_append, not_or] at hb
     rw [k2 b hb.2, puts_get, lk_none (by rw [q1]; exact hb.1)]
   · rcases List.mem_cons.1 he2 with rfl | he2
     · rw [hps] at hps2; injection hps2 with hps2; subst hps2
       have hin : p.1 ∈ ownB e2.2 := by rw [← q1]; exact List.mem_map_of_mem (f := (·.1)) hp
       rw [k2 p.1 (fun hm => hn3 p.1 hin p.1 hm rfl), puts_get, lk_fun q2 hp]
     · exact k3 e2 he2 ps2 hps2 p hp
theorem wk1_some {B1 : Hp → AV → AV → Option (XE × St)} {defs : List Nat} {nx : Nat} {cm : List (Nat × AObj)} {h : Hp} {e : AV × AV} {ps : List (Nat × AObj)} (hw : wk1 B1 defs nx cm h e = some ps) :
 ∃ os s2, getAll h (ownB e.2) = some os ∧ B1 (puts os (puts cm .lf)) e.1 e.2 = some (.normal, s2) ∧ s2.nx = nx ∧ s2.defs = defs ∧ (∀ p ∈ cm, ∃ x, s2.h.get p.1 = some x ∧ OEq p.2 x) ∧ getAll s2.h (ownB e.2) = some ps ∧ ∀ p ∈ ps, ∃ k t, p.2 = .cells k t := by
 unfold wk1 at hw
 simp only [Option.bind_eq_some_iff] at hw
 obtain ⟨os, hos, ⟨e1, s2⟩, hq, hw⟩ := hw
 cases e1 with
 | exit id => cases hw
 | ret => cases hw
 | normal =>
   simp only at hw
   cases hc : (Nat.beq s2.nx nx && (lnbeq s2.defs defs && allB (fun p => oeqO p.2 (s2.h.get p.1)) cm)) with
   | false => rw [hc] at hw; cases hw
   | true =>
     rw [hc] at hw
     simp only [Bool.and_eq_true] at hc
     simp only [cond_true, Option.bind_eq_some_iff] at hw
     obtain ⟨ps2, hps2, hw⟩ := hw
     cases hc2 : allB (fun p : Nat × AObj => isCells p.2) ps2 with
     | false => rw [hc2] at hw; cases hw
     | true =>
       rw [hc2] at hw
       simp only [cond_true] at hw
       injection hw with hw; subst hw
       refine ⟨os, s2, hos, hq, Nat.eq_of_beq_eq_true hc.1, lnbeq_sound hc.2.1, fun p hp => ?_, hps2, fun p hp => ?_⟩
       · exact oeqO_sound (allB_iff hc.2.2 p hp)
       · have := allB_iff hc2 p hp
         cases ho : p.2 with
         | cells k t => exact ⟨k, t, rfl⟩
         | _ => rw [ho] at this; cases this
theorem WR.poke {φ : Phi} {h : Hp} {nx : Nat} {w w' : World} {r : Nat} {o' : Obj} (H : WR φ h nx w) (hc : Clean h) (hn : ∀ b i, (h.get b).isSome → φ b = some i → i.blk ≠ r) (e : w'.heap = w.heap.setIfInBounds r o') : WR φ h nx w' := by
 refine ⟨fun b o hb => ?_, H.inj, H.fresh, fun b i hb => by rw [e]; simpa using H.dom b i hb, H.low, H.hi⟩
 obtain ⟨i, hi, ho⟩ := H.obj b o hb
 refine ⟨i, hi, OR.move (Phi.le_refl φ) ?_ (fun m clk he => absurd he (hc b o hb m clk)) ho⟩
 rw [e, Array.getElem?_setIfInBounds, if_neg]
 exact fun h2 => hn b i (by rw [hb]; rfl) hi h2.symm
theorem Stp.poke {φ ψ : Phi} {h h' : Hp} {w w' w2 : World} {r : Nat} {o' : Obj} (S : Stp φ h w ψ h' w') (hr : ∃ b i, (h.get b).isSome ∧ φ b = some i ∧ i.blk = r)
 (e : w2.heap = w'.heap.setIfInBounds r o') (e1 : w2.os = w'.os) (e2 : w2.tape = w'.tape) (e3 : w2.output = w'.output) : Stp φ h w ψ h' w2 := by
 refine ⟨S.ext, S.res, by rw [e]; simpa using S.size, e1.trans S.os, e2.trans S.tape, e3.trans S.output, S.own, fun x hx hn => ?_⟩
 obtain ⟨b, i, hb, hi, he⟩ := hr
 rw [e, Array.getElem?_setIfInBounds, if_neg (fun h2 => hn b i hb hi (he.trans h2))]
 exact S.frame x hx hn
theorem nextOf_some {o : Option Oper} {it d : Nat} (h : nextOf o = some (it, d)) : ∃ x, o = some x ∧ x.op = .next (.tmp it) false ∧ x.dst = some d ∧ x.guard = none := by
 unfold nextOf at h
 simp only [Option.bind_eq_some_iff] at h
 obtain ⟨x, rfl, h⟩ := h
 split at h
 · rename_i h1 h2 h3
   injection h with h; injection h with a1 a2; subst a1; subst a2
   exact ⟨x, rfl, h1, h2, h3⟩
 · cases h
theorem entOf_some {o : Option Oper} {it d : Nat} (h : entOf o = some (it, d)) : ∃ x, o = some x ∧ x.op = .entry (.tmp it) ∧ x.dst = some d ∧ x.guard = none := by
 unfold entOf at h
 simp only [Option.bind_eq_some_iff] at h
 obtain ⟨x, rfl, h⟩ := h
 split at h
 · rename_i h1 h2 h3
   injection h with h; injection h with a1 a2; subst a1; subst a2
   exact ⟨x, rfl, h1, h2, h3⟩
 · cases h
theorem region_from {P : Program} {B : Tb} {K : Callee'} {n : Nat} (hB : B.Ok P) (hFl : ∀ t offs, B.flat.get t = some offs → FlatT P t offs) (hK : KOk P K) {ops : Array Oper} {x0 : XR} {l : List XR} (hl : mapO (cxr B n ops) ops.toList = some (x0 :: l)) {o : Oper} (ho : ops[0]? = some o) (hg : o.guard = none) (hnd : ∀ c, o.op ≠ .defer c)
 {rid d : Nat} (hd : o.dst = some d) (hdn : d < n) {ro : Option Nat} {Q : Exit → Act → World → Prop} {a : Act} {w w1 : World} {v' : Value} (hrun : (execOp a.eval o).run P w = .ok (.value v') w1)
 {φ : Phi} {env : T AV} {h : Hp} {nx : Nat} {v : AV} {r : T AV × Hp × Nat} (hr : evR K l (env.put d v) h nx = some r) (hv : VR φ v v') (hE : ER φ env n a.tmps) (H : WR φ h nx w1)
 (hQ : ∀ ψ a' w', ER ψ r.1 n a'.tmps → a'.defers = a.defers → WR ψ r.2.1 r.2.2 w' → Stp φ h w1 ψ r.2.1 w' → Q .normal a' w') : (Code.region rid ops false).wpIn (W ro) 0 P Q a w := by
 obtain ⟨hlen, hget⟩ := mapO_some hl
 have hsz : ops.size = l.length + 1 := by
  have : ops.toList.length = (x0 :: l).length := hlen
  simpa using this
 refine wpIn_region ?_
 rw [hsz, List.range_eq_range', List.range'_succ]
 have hw : Region.wanted o (yielded ops a.tmps) = true := by unfold Region.wanted; rw [hg]
 simp only [wpOpsIn, ho, hw, if_true]
 refine ⟨fun _ _ => trivial, ?_⟩
 rw [Oper.semAt_eq _ _ _ hnd, hrun]
 show wpOpsIn (W ro) 0 P ops Q (List.range' 1 l.length) (a.put o.dst v') w1
 refine evR_ok (n := n) (ops := ops) hB hFl hK l 1 φ (env.put d v) h nx (a.put o.dst v') w1 r (fun i x hx => ?_) hr ?_ H fun ψ a' w' h1 h2 h3 h4 => hQ ψ a' w' h1 (by rw [h2, put_defers]) h3 h4
 · have hlt : i < l.length := (List.getElem?_eq_some_iff.1 hx).1
   have hlt2 : 1 + i < ops.size := by omega
   obtain ⟨y, hy, hf⟩ := hget (1 + i) ops[1 + i] (by simp [hlt2])
   rw [show 1 + i = i + 1 by omega, List.getElem?_cons_succ, hx] at hy
   injection hy with hy; subst hy
   exact ⟨ops[1 + i], by simp [hlt2], hf⟩
 · rw [hd]
   exact hE.put hdn hv
end Go.Ev
end
section
namespace Go.Ev
open Go.RowKit
theorem nodup_of_map {α β : Type} {f : α → β} : ∀ {l : List α}, (l.map f).Nodup → l.Nodup := by
 intro l
 induction l with
 | nil => intro _; exact List.nodup_nil
 | cons a l ih =>
   intro h
   rw [List.map_cons, List.nodup_cons] at h
   exact List.nodup_cons.2 ⟨fun hm => h.1 (List.mem_map_of_mem hm), ih h.2⟩
section
variable {P : Program} {B : Tb} {K : Callee'} {n fuel : Nat}
theorem c_walk (hB : B.Ok P) (hFl : ∀ t offs, B.flat.get t = some offs → FlatT P t offs) (hK : KOk P K) {id id2 rid1 rid2 : Nat} {ops1 ops2 : Array Oper} {oc : Operand} {c3 : Code} {xa : XC} {x0 y0 : XR} {l1 l2 : List XR} {it d1 d2 : Nat} {ci : IX} {rd : List Nat} {plain : XC}
 (h1 : mapO (cxr B n ops1) ops1.toList = some (x0 :: l1)) (hci : cpx oc = some ci) (h2 : mapO (cxr B n ops2) ops2.toList = some (y0 :: l2)) (hc3 : COk P K n fuel c3 xa)
 (hnx : nextOf ops1[0]? = some (it, d1)) (hen : entOf ops2[0]? = some (it, d2)) (hd1 : d1 < n) (hd2 : d2 < n)
 (hp : COk P K n fuel (.block id (.loop (.seq (.region rid1 ops1 false) (.seq (.cond oc .skip (.exit id)) (.block id2 (.seq (.region rid2 ops2 false) c3)))))) plain) :
 COk P K n fuel (.block id (.loop (.seq (.region rid1 ops1 false) (.seq (.cond oc .skip (.exit id)) (.block id2 (.seq (.region rid2 ops2 false) c3)))))) (.walk it d1 d2 (d1 :: d2 :: (wrR l1 ++ (wrR l2 ++ wrX xa))) rd l1 ci l2 plain xa) := by
 intro φ roA ro s act w e s' hr hro hE hD H
 rw [evC_walk] at hr
 cases hm : wkMany s.env s.h it with
 | none => rw [hm] at hr; exact hp φ roA ro s act w e s' hr hro hE hD H
 | some p =>
 rw [hm] at hr
 obtain ⟨r, m, clk, es⟩ := p
 obtain ⟨hit, hgr, hgm⟩ := wkMany_some hm
 obtain ⟨wr, hwr⟩ : ∃ wr, wr = (d1 :: d2 :: (wrR l1 ++ (wrR l2 ++ wrX xa))) := ⟨_, rfl⟩
 rw [← hwr] at hr
 have hr0 : wkX K (evC K n fuel roA xa) it d1 d2 wr rd l1 ci l2 s (r, m, clk, es) = some (e, s') := hr
 clear hr hm
 unfold wkX at hr0
 cases hcnd : (!memB it wr && nodupB (r :: m :: ownsB es)) with
 | false => simp only [hcnd] at hr0; cases hr0
 | true =>
 simp only [hcnd, cond_true, Option.bind_eq_some_iff] at hr0
 obtain ⟨h', hA, hL⟩ := hr0
 rw [Bool.and_eq_true] at hcnd
 have hitw : it ∉ wr := memB_false (by simpa using hcnd.1)
 have hND := nodupB_iff hcnd.2
 obtain ⟨env, henv⟩ : ∃ x, x = unsets wr s.env := ⟨_, rfl⟩
 obtain ⟨hc, hhc⟩ : ∃ x, x = cleanH (s.h.set r none) := ⟨_, rfl⟩
 rw [← henv, ← hhc] at hA
 rw [← henv] at hL
 obtain ⟨cm, hcm⟩ : ∃ x, x = getSome hc (wkC rd env (r :: m :: ownsB es)) := ⟨_, rfl⟩
 rw [← hcm] at hA
 obtain ⟨R, hR⟩ : ∃ x, x = wk1 (wkB K (evC K n fuel roA xa) d1 d2 l1 ci l2 env s.defs s.nx) s.defs s.nx cm hc := ⟨_, rfl⟩
 rw [← hR] at hA
 -- the temporaries
 have hwd : ∀ t, t ∉ wr → t ≠ d1 ∧ t ≠ d2 ∧ t ∉ wrR l1 ∧ t ∉ wrR l2 ∧ t ∉ wrX xa := by
  intro t ht
  rw [hwr] at ht
  simpa only [List.mem_cons, List.mem_append, not_or] using ht
 have hev : ∀ t v, env.get t = some v → t ∉ wr ∧ s.env.get t = some v := by
  intro t v ht
  rw [henv, unsets_get] at ht
  by_cases h : t ∈ wr
  · rw [if_pos h] at ht; cases ht
  · rw [if_neg h] at ht; exact ⟨h, ht⟩
 have hEenv : ER φ env n act.tmps := ⟨hE.1, fun t v ht => hE.2 t v (hev t v ht).2⟩
 have hit' : env.get it = some (.ptr r 0) := by rw [henv, unsets_get, if_neg hitw]; exact hit
 -- memory
 have hhcs : ∀ b o, hc.get b = some o → s.h.get b = some o ∧ b ≠ r ∧ ∀ m clk left, o ≠ .miter m clk left := by
  intro b o hb
  rw [hhc] at hb
  obtain ⟨k1, k2⟩ := cleanH_sub hb
  rw [T.get_set] at k1
  by_cases hbr : b = r
  · rw [if_pos hbr] at k1; cases k1
  · rw [if_neg hbr] at k1; exact ⟨k1, hbr, k2⟩
 have hcmm : ∀ p ∈ cm, hc.get p.1 = some p.2 ∧ p.1 ∉ (r :: m :: ownsB es) := by
  intro p hp
  rw [hcm] at hp
  obtain ⟨k1, k2⟩ := getSome_some p hp
  exact ⟨k2, wkC_bar k1⟩
 have hROk : ROk R := by
  intro e ps hps
  rw [hR] at hps
  obtain ⟨os, s2, _, _, _, _, _, k7, _⟩ := wk1_some hps
  obtain ⟨k8, k9⟩ := getAll_some k7
  exact ⟨k8, s2.h, k9⟩
 have hNDo : (ownsB es).Nodup := (List.nodup_cons.1 (List.nodup_cons.1 hND).2).2
 obtain ⟨A1, A2, A3⟩ := wkA_ok hROk es hc h' hA hNDo
 have hrm : r ≠ m := fun h => (List.nodup_cons.1 hND).1 (by rw [h]; exact List.mem_cons_self)
 have hro2 : r ∉ ownsB es := fun h => (List.nodup_cons.1 hND).1 (List.mem_cons_of_mem _ h)
 have hmo2 : m ∉ ownsB es := (List.nodup_cons.1 (List.nodup_cons.1 hND).2).1
 -- the walk and the map, as they are
 obtain ⟨ir, hir, hirO⟩ := H.obj r _ hgr
 obtain ⟨im, seen0, stepped0, hoff, him, hirH, hseen, _⟩ := hirO
 obtain ⟨hseen0, hst0⟩ := hseen rfl
 subst hseen0; subst hst0
 obtain ⟨im2, him2, es', hmH, ll, hperm, hlen, hpt, hknd, hbnd⟩ := H.obj m _ hgm
 rw [him] at him2; injection him2 with him2; subst him2
 have hllnd : ll.Nodup := nodup_of_map hknd
 have hold : ∀ x ∈ es'.toList, x.born < stepped0 := by
  intro x hx
  obtain ⟨j, hj⟩ := List.getElem?_of_mem hx
  have hjl : j < ll.length := by rw [hlen]; exact (List.getElem?_eq_some_iff.1 hj).1
  obtain ⟨e2, k1, _, _, _, k5⟩ := hpt j ll[j] (by simp [hjl])
  rw [hj] at k1; injection k1 with k1; subst k1
  exact k5
 -- seen entries
 have key : ∀ (f : Nat) (sn : Array Nat) (stepped : Nat) (φ' : Phi) (hL' : Hp) (a : Act) (w' : World),
  (leftOf es' sn).size < f → ER φ' env n a.tmps → DR φ' s.defs a.defers → WR φ' hL' s.nx w' → Stp φ s.h w φ' hL' w' → Clean hL' →
  (∀ (j : Nat) (x : AV × AV) (e2 : MapEntry), ll[j]? = some x → es'.toList[j]? = some e2 → e2.born ∈ sn → ∀ ps, R x = some ps → ∀ p ∈ ps, hL'.get p.1 = some p.2) →
  (∀ b, (∀ (j : Nat) (x : AV × AV) (e2 : MapEntry), ll[j]? = some x → es'.toList[j]? = some e2 → e2.born ∈ sn → b ∉ ownB x.2) → hL'.get b = hc.get b) →
  w'.heap[ir.blk]? = some (.mapIter (some im.blk) stepped0 sn stepped) → stepped0 ≤ stepped → w'.heap[im.blk]? = some (.map es' stepped0) →
  Code.roundsIn (W ro) 0 P (.seq (.region rid1 ops1 false) (.seq (.cond oc .skip (.exit id)) (.block id2 (.seq (.region rid2 ops2 false) c3)))) (Exit.inBlock id (Post φ s.h w n e s')) f a w' := by
  intro f
  induction f with
  | zero => intro sn stepped φ' hL' a w' hf; omega
  | succ f ih =>
  intro sn stepped φ' hL' a w' hf hEa hDa Ha Sa hcl sp1 sp2 hita hsta hma
  rw [roundsIn_succ]
  refine wpIn_seq ?_
  obtain ⟨o1, ho1, hop1, hdst1, hg1⟩ := nextOf_some hnx
  have hnd1 : ∀ c, o1.op ≠ .defer c := fun c h => by rw [hop1] at h; cases h
  -- the walk's temporary
  have hptr : a.eval (.tmp it) = .pointer (some ⟨ir.blk, 0, none⟩) := by
   have hv := ev_ok (x := .tmp it) (ix := .t it) hEa rfl (show env.get it = some (.ptr r 0) from hit')
   generalize hq : a.eval (.tmp it) = q at hv
   cases hv with
   | @ptr _ _ i2 hi2 =>
     have : φ' r = some ir := Sa.ext _ _ hir
     rw [this] at hi2; injection hi2 with hi2; subst hi2
     rw [hoff]
  have hexec : ∀ (v : Value) (w2 : World), (Instr.next (.pointer (some ⟨ir.blk, 0, none⟩)) false o1.type).run P w' = .ok v w2 → (execOp a.eval o1).run P w' = .ok (.value v) w2 := by
   intro v w2 hv
   simp only [execOp, hop1, hptr, Sem.run_bind, hv, Result.andThen_ok, Sem.run_pure]
  rcases run_next_at (P := P) w' o1.type ir.blk im.blk stepped0 stepped sn es' stepped0 hita hma hold hsta with ⟨hz, hrun⟩ | ⟨e2, he2, w1, hw1, hrun⟩
  · -- no entry is left
    have hall : ∀ x ∈ es'.toList, x.born ∈ sn := by
     intro x hx
     have hz2 : (leftOf es' sn) = #[] := Array.eq_empty_of_size_eq_zero hz
     unfold leftOf at hz2
     rw [Array.filter_eq_empty_iff] at hz2
     have := hz2 x (by simpa using hx)
     simpa using this
    have heq : ∀ b, h'.get b = hL'.get b := by
     intro b
     by_cases hb : b ∈ ownsB es
     · obtain ⟨x, hx, hbx⟩ := ownsB_mem.1 hb
       obtain ⟨ps, hps⟩ := A1 x hx
       have hkeys := (hROk x ps hps).1
       rw [← hkeys] at hbx
       obtain ⟨p, hp, rfl⟩ := List.mem_map.1 hbx
       rw [A3 x hx ps hps p hp]
       have hxl : x ∈ ll := hperm.mem_iff.2 hx
       obtain ⟨j, hj⟩ := List.getElem?_of_mem hxl
       obtain ⟨e3, k1, _⟩ := hpt j x hj
       exact (sp1 j x e3 hj k1 (hall _ (List.mem_of_getElem? k1)) ps hps p hp).symm
     · rw [A2 b hb]
       refine (sp2 b fun j x e3 hj _ _ hbx => hb (ownsB_mem.2 ⟨x, hperm.mem_iff.1 (List.mem_of_getElem? hj), hbx⟩)).symm
    have Ha' : WR φ' h' s.nx w' := WR.congr heq Ha
    have Sa' : Stp φ s.h w φ' h' w' := Stp.congr heq Sa
    unfold wkL at hL
    simp only [Option.bind_eq_some_iff] at hL
    obtain ⟨q, hq, b, hb, hL⟩ := hL
    split at hL
    · injection hL with hL; injection hL with r1 r2; subst r1; subst r2
      refine region_from hB hFl hK h1 ho1 hg1 hnd1 hdst1 hd1 (hexec _ _ hrun) hq (.tup (l' := [.bool false]) (.cons (.bool false) .nil)) hEa Ha' ?_
      intro ψ a' w2 k1 k2 k3 k4
      refine wpIn_seq ?_
      have hvv := ev_ok k1 hci hb
      generalize hqq : a'.eval oc = qv at hvv
      cases hvv
      refine wpIn_cond_false hqq (wpIn_exit ?_)
      show Exit.inBlock id _ (.exit id) a' w2
      show (if id = id then _ else _)
      rw [if_pos rfl]
      exact ⟨rfl, ψ, k1, by rw [k2]; exact hDa.mono k4.ext, k3, Sa'.trans k4⟩
    · cases hL
  · -- an entry
    have he2m : e2 ∈ es'.toList ∧ e2.born ∉ sn := by
     unfold leftOf at he2
     rw [Array.toList_filter, List.mem_filter] at he2
     refine ⟨he2.1, ?_⟩
     simpa using he2.2
    obtain ⟨he2in, he2n⟩ := he2m
    obtain ⟨j, hj⟩ := List.getElem?_of_mem he2in
    have hjl : j < ll.length := by rw [hlen]; exact (List.getElem?_eq_some_iff.1 hj).1
    obtain ⟨x, hx⟩ : ∃ x, ll[j]? = some x := ⟨ll[j], by simp [hjl]⟩
    have hxes : x ∈ es := hperm.mem_iff.1 (List.mem_of_getElem? hx)
    obtain ⟨e3, g1, _, g3, g4, _⟩ := hpt j x hx
    rw [hj] at g1; injection g1 with g1; subst g1
    obtain ⟨ps, hps⟩ := A1 x hxes
    obtain ⟨hkeys, _⟩ := hROk x ps hps
    have hps0 := hps
    rw [hR] at hps
    obtain ⟨os, s2, hos, hB1, hs2n, hs2d, hcm2, hps2, hcells⟩ := wk1_some hps
    obtain ⟨hos1, hos2⟩ := getAll_some hos
    obtain ⟨hps21, hps22⟩ := getAll_some hps2
    -- an entry that was met is another one
    have hdiff : ∀ (j' : Nat) (x' : AV × AV) (e' : MapEntry), ll[j']? = some x' → es'.toList[j']? = some e' → e'.born ∈ sn → x' ≠ x := by
     intro j' x' e' k1 k2 k3 hxx
     subst hxx
     have hjj : j' = j := by
      have hj'l : j' < ll.length := (List.getElem?_eq_some_iff.1 k1).1
      exact (List.getElem?_inj hj'l hllnd).1 (k1.trans hx.symm)
     subst hjj
     rw [hj] at k2; injection k2 with k2; subst k2
     exact he2n k3
    have hfree : ∀ b, b ∈ ownB x.2 → hL'.get b = hc.get b := fun b hb =>
     sp2 b fun j' x' e' k1 k2 k3 hb' => owns_apart hNDo (hperm.mem_iff.1 (List.mem_of_getElem? k1)) hxes (hdiff j' x' e' k1 k2 k3) hb' hb
    have hfree2 : ∀ p ∈ cm, hL'.get p.1 = some p.2 := fun p hp => by
     obtain ⟨k1, k2⟩ := hcmm p hp
     rw [sp2 p.1 fun j' x' e' k1 k2' k3 hb' => k2 (List.mem_cons_of_mem _ (List.mem_cons_of_mem _ (ownsB_mem.2 ⟨x', hperm.mem_iff.1 (List.mem_of_getElem? k1), hb'⟩))), k1]
    -- memory that the round may touch
    obtain ⟨me, hme⟩ : ∃ y, y = puts os (puts cm .lf) := ⟨_, rfl⟩
    rw [← hme] at hB1
    have hmeg : ∀ b o, me.get b = some o → ((b ∈ ownB x.2 ∧ (b, o) ∈ os) ∨ (b, o) ∈ cm) := by
     intro b o hb
     rw [hme, puts_get] at hb
     cases hlk : lk os b with
     | some o2 =>
       rw [hlk] at hb
       injection hb with hb; subst hb
       have := lk_mem hlk
       exact .inl ⟨by rw [← hos1]; exact List.mem_map_of_mem (f := (·.1)) this, this⟩
     | none =>
       rw [hlk] at hb
       simp only [puts_get] at hb
       cases hlk2 : lk cm b with
       | some o2 => rw [hlk2] at hb; injection hb with hb; subst hb; exact .inr (lk_mem hlk2)
       | none => rw [hlk2] at hb; cases hb
    have hmesub : ∀ b o, me.get b = some o → hL'.get b = some o := by
     intro b o hb
     rcases hmeg b o hb with ⟨k1, k2⟩ | k1
     · rw [hfree b k1]; exact hos2 _ k2
     · exact hfree2 _ k1
    have hmenot : ∀ b, (me.get b).isSome → (s.h.get b).isSome ∧ b ≠ r ∧ b ≠ m := by
     intro b hb
     obtain ⟨o, ho⟩ := Option.isSome_iff_exists.1 hb
     rcases hmeg b o ho with ⟨k1, k2⟩ | k1
     · have hin : b ∈ ownsB es := ownsB_mem.2 ⟨x, hxes, k1⟩
       have := (hhcs b o (hos2 _ k2)).1
       exact ⟨by rw [this]; rfl, fun h => hro2 (h ▸ hin), fun h => hmo2 (h ▸ hin)⟩
     · obtain ⟨k2, k3⟩ := hcmm _ k1
       have := (hhcs b o k2).1
       exact ⟨by rw [this]; rfl, fun h => k3 (by rw [show ((b, o) : Nat × AObj).1 = b from rfl, h]; exact List.mem_cons_self), fun h => k3 (by rw [show ((b, o) : Nat × AObj).1 = b from rfl, h]; exact List.mem_cons_of_mem _ List.mem_cons_self)⟩
    -- hL' does not hold the walk
    have hLr : ∀ b i, (hL'.get b).isSome → φ' b = some i → i.blk ≠ ir.blk := by
     intro b i hb hi hbr
     rcases Sa.own b i hb hi with k1 | ⟨b0, i0, k1, k2, k3⟩
     · have := H.dom _ _ hir; omega
     · have hb0 : b0 = r := H.inj b0 r i0 ir k1 (by rw [hgr]; rfl) k2 hir (k3.trans hbr)
       subst hb0
       rw [hir] at k2; injection k2 with k2; subst k2
       have hφr : φ' b0 = some ir := Sa.ext _ _ hir
       -- b and r lie at one block of φ'
       obtain ⟨o, ho⟩ := Option.isSome_iff_exists.1 hb
       by_cases hown : ∃ (j' : Nat) (x' : AV × AV) (e' : MapEntry), ll[j']? = some x' ∧ es'.toList[j']? = some e' ∧ e'.born ∈ sn ∧ b ∈ ownB x'.2
       · obtain ⟨j', x', e', q1, q2, q3, q4⟩ := hown
         have hx' : x' ∈ es := hperm.mem_iff.1 (List.mem_of_getElem? q1)
         obtain ⟨ps', hps'⟩ := A1 x' hx'
         have hps'' := hps'
         rw [hR] at hps''
         obtain ⟨os', _, hos', _⟩ := wk1_some hps''
         obtain ⟨z1, z2⟩ := getAll_some hos'
         rw [← z1] at q4
         obtain ⟨p, hp, rfl⟩ := List.mem_map.1 q4
         obtain ⟨z3, z4, _⟩ := hhcs _ _ (z2 p hp)
         obtain ⟨i3, hi3, _⟩ := H.obj _ _ z3
         have := Sa.ext _ _ hi3
         rw [hi] at this; injection this with this; subst this
         exact z4 (H.inj _ _ _ _ (by rw [z3]; rfl) (by rw [hgr]; rfl) hi3 hir hbr)
       · have hbc : hL'.get b = hc.get b := sp2 b fun j' x' e' q1 q2 q3 q4 => hown ⟨j', x', e', q1, q2, q3, q4⟩
         rw [hbc] at ho
         obtain ⟨z3, z4, _⟩ := hhcs _ _ ho
         obtain ⟨i3, hi3, _⟩ := H.obj _ _ z3
         have := Sa.ext _ _ hi3
         rw [hi] at this; injection this with this; subst this
         exact z4 (H.inj _ _ _ _ (by rw [z3]; rfl) (by rw [hgr]; rfl) hi3 hir hbr)
    -- the step
    obtain ⟨w2, hw2⟩ : ∃ y, y = ChangeMaps.setBlock w1 ir.blk (.mapIter (some im.blk) stepped0 (sn.push e2.born) stepped0) := ⟨_, rfl⟩
    rw [← hw2] at hrun
    have hw1h : w1.heap = w'.heap := by rcases hw1 with rfl | rfl <;> rfl
    have hw2h : w2.heap = w'.heap.setIfInBounds ir.blk (.mapIter (some im.blk) stepped0 (sn.push e2.born) stepped0) := by rw [hw2, ← hw1h]; rfl
    have hw2o : w2.os = w'.os ∧ w2.tape = w'.tape ∧ w2.output = w'.output := by rw [hw2]; rcases hw1 with rfl | rfl <;> exact ⟨rfl, rfl, rfl⟩
    have Ha2 : WR φ' hL' s.nx w2 := Ha.poke hcl hLr hw2h
    have Sa2 : Stp φ s.h w φ' hL' w2 := Sa.poke ⟨r, ir, by rw [hgr]; rfl, hir, rfl⟩ hw2h hw2o.1 hw2o.2.1 hw2o.2.2
    have hirlt : ir.blk < w'.heap.size := (Array.getElem?_eq_some_iff.1 hita).1
    have hne_im : im.blk ≠ ir.blk := fun h => by rw [h, hita] at hma; cases hma
    have hit2 : w2.heap[ir.blk]? = some (.mapIter (some im.blk) stepped0 (sn.push e2.born) stepped0) := by rw [hw2h, Array.getElem?_setIfInBounds, if_pos rfl, if_pos hirlt]
    have hm2 : w2.heap[im.blk]? = some (.map es' stepped0) := by rw [hw2h, Array.getElem?_setIfInBounds, if_neg (fun h => hne_im h.symm)]; exact hma
    have Hm : WR φ' me s.nx w2 := Ha2.sub hmesub
    -- what is not touched stays
    have hstay : ∀ (ψ : Phi) (hz : Hp) (w3 : World), Stp φ' me w2 ψ hz w3 → w3.heap[ir.blk]? = w2.heap[ir.blk]? ∧ w3.heap[im.blk]? = w2.heap[im.blk]? := by
     intro ψ hz w3 S3
     have hsz : w'.heap.size = w2.heap.size := by rw [hw2h]; simp
     refine ⟨S3.frame _ (by rw [← hsz]; exact hirlt) fun b i hb hi hbr => ?_, S3.frame _ (by rw [← hsz]; exact (Array.getElem?_eq_some_iff.1 hma).1) fun b i hb hi hbr => ?_⟩
     · obtain ⟨k1, k2, k3⟩ := hmenot b hb
       obtain ⟨o, ho⟩ := Option.isSome_iff_exists.1 k1
       obtain ⟨i3, hi3, _⟩ := H.obj _ _ ho
       have := Sa.ext _ _ hi3
       rw [hi] at this; injection this with this; subst this
       exact k2 (H.inj _ _ _ _ k1 (by rw [hgr]; rfl) hi3 hir hbr)
     · obtain ⟨k1, k2, k3⟩ := hmenot b hb
       obtain ⟨o, ho⟩ := Option.isSome_iff_exists.1 k1
       obtain ⟨i3, hi3, _⟩ := H.obj _ _ ho
       have := Sa.ext _ _ hi3
       rw [hi] at this; injection this with this; subst this
       exact k3 (H.inj _ _ _ _ k1 (by rw [hgm]; rfl) hi3 him hbr)
    -- the round
    have hB1' := hB1
    unfold wkB at hB1
    simp only [Option.bind_eq_some_iff] at hB1
    obtain ⟨q, hq, b, hb, hB1⟩ := hB1
    split at hB1
    · simp only [Option.bind_eq_some_iff] at hB1
      obtain ⟨q2, hq2, hbody⟩ := hB1
      refine region_from hB hFl hK h1 ho1 hg1 hnd1 hdst1 hd1 (hexec _ _ hrun) hq (.tup (l' := [.bool true, e2.key, e2.val]) (.cons (.bool true) (.cons (g3.mono Sa.ext) (.cons (g4.mono Sa.ext) .nil)))) hEa Hm ?_
      intro ψ1 a1 w3 k1 k2 k3 k4
      show Code.wpIn _ _ _ _ _ _ _
      refine wpIn_seq ?_
      have hvv := ev_ok k1 hci hb
      generalize hqq : a1.eval oc = qv at hvv
      cases hvv
      refine wpIn_cond_true hqq (wpIn_skip ?_)
      show Code.wpIn _ _ _ _ _ _ _
      refine wpIn_block (wpIn_seq ?_)
      obtain ⟨o2, ho2, hop2, hdst2, hg2⟩ := entOf_some hen
      have hnd2 : ∀ c, o2.op ≠ .defer c := fun c h => by rw [hop2] at h; cases h
      obtain ⟨f1, f2, f3, f4, f5⟩ := hwd it hitw
      have hptr2 : a1.eval (.tmp it) = .pointer (some ⟨ir.blk, 0, none⟩) := by
       have hv := ev_ok (x := .tmp it) (ix := .t it) k1 rfl (show q.1.get it = some (.ptr r 0) by rw [evR_env _ _ _ _ _ hq it f3, T.get_put_ne _ _ f1]; exact hit')
       generalize hq : a1.eval (.tmp it) = q at hv
       cases hv with
       | @ptr _ _ i2 hi2 =>
         have : ψ1 r = some ir := k4.ext _ _ (Sa.ext _ _ hir)
         rw [this] at hi2; injection hi2 with hi2; subst hi2
         rw [hoff]
      obtain ⟨st1, st2⟩ := hstay _ _ _ k4
      have hrun2 : (execOp a1.eval o2).run P w3 = .ok (.value (.tuple #[e2.key, e2.val])) w3 := by
       have := run_entry_at (P := P) w3 ir.blk im.blk stepped0 sn es' stepped0 e2 (st1.trans hit2) (st2.trans hm2) he2in hbnd
       simp only [execOp, hop2, hptr2, Sem.run_bind, this, Result.andThen_ok, Sem.run_pure]
      refine region_from hB hFl hK h2 ho2 hg2 hnd2 hdst2 hd2 hrun2 hq2 (.tup (l' := [e2.key, e2.val]) (.cons ((g3.mono Sa.ext).mono k4.ext) (.cons ((g4.mono Sa.ext).mono k4.ext) .nil))) k1 k3 ?_
      intro ψ2 a2 w4 m1 m2 m3 m4
      show Code.wpIn _ _ _ _ _ _ _
      have hDa2 : DR ψ2 s.defs a2.defers := by rw [m2, k2]; exact (hDa.mono k4.ext).mono m4.ext
      refine wpIn_mono (hc3 ψ2 roA ro ⟨q2.1, s.defs, q2.2.1, q2.2.2⟩ a2 w4 .normal s2 hbody (hro.mono (Phi.le_trans Sa.ext (Phi.le_trans k4.ext m4.ext))) m1 hDa2 m3) ?_
      rintro e' a3 w5 ⟨rfl, ψ3, n1, n2, n3, n4⟩
      show Code.roundsIn _ _ _ _ _ _ _ _
      have Sb : Stp φ' me w2 ψ3 s2.h w5 := k4.trans (m4.trans n4)
      -- the entry's blocks and the common ones
      obtain ⟨hz, hhz⟩ : ∃ y, y = puts ps (puts cm .lf) := ⟨_, rfl⟩
      have hzg : ∀ b o, hz.get b = some o → ∃ o', s2.h.get b = some o' ∧ OEq o' o := by
       intro b o hb
       rw [hhz, puts_get] at hb
       cases hlk : lk ps b with
       | some o2 =>
         rw [hlk] at hb
         injection hb with hb; subst hb
         exact ⟨_, hps22 _ (lk_mem hlk), .inl rfl⟩
       | none =>
         rw [hlk] at hb
         simp only [puts_get] at hb
         cases hlk2 : lk cm b with
         | some o2 =>
           rw [hlk2] at hb; injection hb with hb; subst hb
           obtain ⟨y, hy, hye⟩ := hcm2 _ (lk_mem hlk2)
           exact ⟨y, hy, hye.symm⟩
         | none => rw [hlk2] at hb; cases hb
      have Hz : WR ψ3 hz s.nx w5 := by rw [← hs2n]; exact n3.subE hzg
      have Sz : Stp φ' me w2 ψ3 hz w5 := Sb.less fun b hb => by
       obtain ⟨o, ho⟩ := Option.isSome_iff_exists.1 hb
       obtain ⟨o', ho', _⟩ := hzg b o ho
       rw [ho']; rfl
      have hlkps : ∀ b, b ∉ ownB x.2 → lk ps b = none := fun b hb => lk_none (by rw [hps21]; exact hb)
      have hlkps2 : ∀ b, b ∈ ownB x.2 → ∃ o, lk ps b = some o ∧ (b, o) ∈ ps := fun b hb => by
       obtain ⟨o, ho⟩ := lk_some (ps := ps) (b := b) (by rw [hps21]; exact hb)
       exact ⟨o, ho, lk_mem ho⟩
      have hmesome : ∀ b, b ∈ ownB x.2 → (me.get b).isSome := fun b hb => by
       rw [hme, puts_get]
       obtain ⟨o, ho⟩ := lk_some (ps := os) (b := b) (by rw [hos1]; exact hb)
       rw [ho]; rfl
      obtain ⟨M1, M2, _⟩ := Ha2.merge (hB := puts ps hL') hmesub Hz Sz (fun b o _ hb => hcl b o hb)
       (fun b h1 h2 _ => by
        rw [puts_get, hlkps b (fun hb => by
         have := hmesome b hb
         rw [h1] at this; cases this)])
       (fun b hb => by
        rw [puts_get, hhz, puts_get]
        by_cases hbo : b ∈ ownB x.2
        · obtain ⟨o, ho, _⟩ := hlkps2 b hbo
          rw [ho]
        · rw [hlkps b hbo]
          simp only [puts_get]
          rcases hb with hb | hb
          · obtain ⟨o, ho⟩ := Option.isSome_iff_exists.1 hb
            rcases hmeg b o ho with ⟨k1, _⟩ | k1
            · exact absurd k1 hbo
            · have hl : lk cm b = some o := lk_fun (g := hc) (fun p hp => (hcmm p hp).1) k1
              rw [hl]
              exact hmesub b o ho
          · have hl : lk cm b = none := by
             cases hl : lk cm b with
             | none => rfl
             | some o =>
               have := hfree2 _ (lk_mem hl)
               rw [hb] at this; cases this
            rw [hl]
            exact hb)
      obtain ⟨st3, st4⟩ := hstay _ _ _ Sb
      refine ih (sn.push e2.born) stepped0 ψ3 (puts ps hL') a3 w5 ?_ ?_ (by rw [← hs2d]; exact n2) M1 (Sa2.trans M2) ?_ ?_ ?_ (st3.trans hit2) (Nat.le_refl _) (st4.trans hm2)
      · -- fewer are left
        have hlt : (leftOf es' (sn.push e2.born)).size < (leftOf es' sn).size := by
         have hl : ∀ sn : Array Nat, (leftOf es' sn).size = (es'.toList.filter fun e => !sn.contains e.born).length := fun sn => by
          have h3 : (leftOf es' sn).toList = es'.toList.filter fun e => !sn.contains e.born := by unfold leftOf; rw [Array.toList_filter]
          rw [← h3]; exact Array.length_toList.symm
         rw [hl, hl]
         have hsub : ∀ (L : List MapEntry), (L.filter fun e => !(sn.push e2.born).contains e.born).length ≤ (L.filter fun e => !sn.contains e.born).length ∧ (e2 ∈ L → (L.filter fun e => !(sn.push e2.born).contains e.born).length < (L.filter fun e => !sn.contains e.born).length) := by
          intro L
          induction L with
          | nil => exact ⟨Nat.le_refl _, fun h => absurd h List.not_mem_nil⟩
          | cons y L ihL =>
            obtain ⟨i1, i2⟩ := ihL
            rw [List.filter_cons, List.filter_cons]
            have hpush : (sn.push e2.born).contains y.born = (sn.contains y.born || (y.born == e2.born)) := by
             rw [Bool.eq_iff_iff, Bool.or_eq_true, Array.contains_iff_mem, Array.contains_iff_mem, Array.mem_push, beq_iff_eq]
            rw [hpush]
            by_cases hyb : sn.contains y.born = true
            · simp only [hyb, Bool.true_or, Bool.not_true, Bool.false_eq_true, if_false]
              refine ⟨i1, fun hm => ?_⟩
              rcases List.mem_cons.1 hm with rfl | hm
              · exact absurd (by simpa using hyb) he2n
              · exact i2 hm
            · simp only [Bool.not_eq_true] at hyb
              simp only [hyb, Bool.false_or, Bool.not_false, if_true]
              by_cases hye : (y.born == e2.born) = true
              · simp only [hye, Bool.not_true, Bool.false_eq_true, if_false, List.length_cons]
                exact ⟨by omega, fun _ => by omega⟩
              · simp only [Bool.not_eq_true] at hye
                simp only [hye, Bool.not_false, if_true, List.length_cons]
                refine ⟨by omega, fun hm => ?_⟩
                rcases List.mem_cons.1 hm with rfl | hm
                · simp at hye
                · have := i2 hm; omega
         exact (hsub es'.toList).2 he2in
        omega
      · -- the temporaries
        refine ⟨n1.1, fun t v ht => ?_⟩
        obtain ⟨t1, t2⟩ := hev t v ht
        obtain ⟨f1, f2, f3, f4, f5⟩ := hwd t t1
        refine n1.2 t v ?_
        have := wkB_env (K := K) (run := evC K n fuel roA xa) (wx := wrX xa) (fun s e s' h t ht => evC_env roA xa s e s' h t ht) hB1' f1 f2 f3 f4 f5
        exact this.trans ht
      · -- no walk that has met an entry
        intro b o hb mm cc
        rw [puts_get] at hb
        cases hlk : lk ps b with
        | some o2 =>
          rw [hlk] at hb
          injection hb with hb; subst hb
          obtain ⟨kk, tt, hk⟩ := hcells _ (lk_mem hlk)
          intro he
          have hk : o2 = .cells kk tt := hk
          rw [hk] at he; cases he
        | none => rw [hlk] at hb; exact hcl b o hb mm cc
      · -- what was met is done
        intro j' x' e' q1 q2 q3 ps' hps' p hp
        have hpk : p.1 ∈ ownB x'.2 := by
         rw [← (hROk _ _ hps').1]; exact List.mem_map_of_mem (f := (·.1)) hp
        rw [puts_get]
        by_cases hjj : x' = x
        · subst hjj
          rw [hps0] at hps'; injection hps' with hps'; subst hps'
          rw [lk_fun hps22 hp]
        · have hx' : x' ∈ es := hperm.mem_iff.1 (List.mem_of_getElem? q1)
          rw [hlkps _ (owns_apart hNDo hx' hxes hjj hpk)]
          refine sp1 j' x' e' q1 q2 ?_ ps' hps' p hp
          rcases Array.mem_push.1 q3 with q3 | q3
          · exact q3
          · exfalso
            apply hjj
            have hjeq : j' = j := by
             have hj'l : j' < es'.toList.length := (List.getElem?_eq_some_iff.1 q2).1
             have hjl2 : j < es'.toList.length := (List.getElem?_eq_some_iff.1 hj).1
             have e1 : (es'.toList.map (·.born))[j']? = some e'.born := by rw [List.getElem?_map, q2]; rfl
             have e2' : (es'.toList.map (·.born))[j]? = some e2.born := by rw [List.getElem?_map, hj]; rfl
             refine (List.getElem?_inj (by simpa using hj'l) hbnd).1 ?_
             rw [e1, e2', q3]
            subst hjeq
            rw [hx] at q1; injection q1 with q1; exact q1.symm
      · intro b hb
        rw [puts_get]
        by_cases hbo : b ∈ ownB x.2
        · exact absurd hbo (hb j x e2 hx hj (Array.mem_push.2 (.inr rfl)))
        · rw [hlkps b hbo]
          exact sp2 b fun j' x' e' q1 q2 q3 => hb j' x' e' q1 q2 (Array.mem_push.2 (.inl q3))
    · cases hB1
 -- all together
 refine wpIn_block (wpIn_loop_rounds ((leftOf es' #[]).size + 1) ?_)
 have Hc : WR φ hc s.nx w := H.sub fun b o hb => (hhcs b o hb).1
 have Sc : Stp φ s.h w φ hc w := (Stp.refl φ s.h w).less fun b hb => by
  obtain ⟨o, ho⟩ := Option.isSome_iff_exists.1 hb
  rw [(hhcs b o ho).1]; rfl
 exact key _ #[] stepped0 φ hc act w (Nat.lt_succ_self _) hEenv hD Hc Sc (fun b o hb m c => (hhcs b o hb).2.2 _ _ _) (fun j x e2 _ _ hm => by simp at hm) (fun b _ => rfl) hirH (Nat.le_refl _) hmH
end
end Go.Ev
end
section
namespace Go.Ev
open Go.RowKit
theorem run_mapM {α β : Type} {P : Program} {w : World} (f : α → Sem β) (g : α → β) (arr : Array α) (h : ∀ x ∈ arr.toList, (f x).run P w = .ok (g x) w) : (arr.mapM f).run P w = .ok (arr.map g) w := by
 have key : ∀ (l : List α) (acc : Array β), (∀ x ∈ l, (f x).run P w = .ok (g x) w) → (l.foldlM (fun (bs : Array β) a => bs.push <$> f a) acc : Sem (Array β)).run P w = .ok (acc ++ (l.map g).toArray) w := by
  intro l
  induction l with
  | nil => intro acc _; simp
  | cons x l ih =>
    intro acc hl
    simp only [List.foldlM_cons, Sem.run_bind, Sem.run_map, hl x (List.mem_cons_self ..), Result.andThen_ok]
    rw [ih _ (fun y hy => hl y (List.mem_cons_of_mem _ hy))]
    simp
 rw [Array.mapM_eq_foldlM, ← Array.foldlM_toList, key arr.toList #[] h]
 congr 1
 apply Array.toList_inj.1
 simp
section
variable {P : Program} {B : Tb} {K : Callee'} {φ : Phi} {h : Hp} {nx : Nat} {w : World}
theorem ER.fill {args : List AV} {args' : List Value} {n : Nat} (hl : VRL φ args args') (hn : args.length ≤ n) : ER φ (T.fill args .lf 0) n ((⟨args'⟩ : Array Value) ++ Array.replicate (n - args'.length) undef) := by
 have hlen := hl.length
 refine ⟨by simp; omega, fun t v hv => ?_⟩
 rw [T.get_fill] at hv
 by_cases hlt : 0 ≤ t ∧ t < 0 + args.length
 · rw [if_pos hlt] at hv
   obtain ⟨v', h1, h2⟩ := hl.get (t - 0) v hv
   simp only [Nat.sub_zero] at h1
   refine ⟨by omega, v', ?_, h2⟩
   rw [Array.getElem?_append_left (by simp; omega)]
   simpa using h1
 · rw [if_neg hlt, T.get_lf] at hv; cases hv
theorem xld_ok {v : AV} {v' : Value} {m : Nat} {ag : Bool} {r : R3} {k : Nat} {t : TypeId} {d : TypeDesc} {i : TypeInfo} (H : WR φ h nx w) (hv : VR φ v v') (hr : xld h k m ag v = some r) (hu : P.underlying t = some d) (hi : P.info? t = some i) (hm : m = i.size) (hag : ag = aggD d) (h1 : aggD d = false → i.size = 1) :
 ∃ ad u, v' = .pointer (some ad) ∧ (loadVar t ad).run P w = .ok u w ∧ VR φ r.1 u := by
 subst hm; subst hag
 unfold xld at hr
 split at hr
 · rename_i b o2
   simp only [Option.bind_eq_some_iff] at hr
   obtain ⟨ob, hb, hr⟩ := hr
   split at hr
   · rename_i m tr
     cases hm : Nat.ble (o2 + i.size) m with
     | false => rw [hm] at hr; cases hr
     | true =>
       rw [hm] at hr
       have hm := Nat.le_of_ble_eq_true hm
       simp only [cond_true] at hr
       cases hg : aggD d with
       | true =>
         rw [hg] at hr
         simp only [Option.bind_eq_some_iff] at hr
         obtain ⟨l, hl, hr⟩ := hr
         injection hr with hr; subst hr
         exact ld_core (P := P) H hu hi hv hb hm hl _ (by rw [hg]; rfl)
       | false =>
         rw [hg] at hr
         simp only [Option.bind_eq_some_iff] at hr
         obtain ⟨q, hq, hr⟩ := hr
         injection hr with hr; subst hr
         exact ld_core (P := P) (l := [q]) H hu hi hv hb hm (by rw [h1 hg, T.take_succ, hq]; rfl) _ (by rw [hg]; exact ⟨h1 hg, rfl⟩)
   · cases hr
 · cases hr
def rvar (a : Act) (r : ResultVar) : Sem Value :=
 match r with
 | .tmp t => pure (a.tmps.getD t undef)
 | .cell c t => do loadVar t (← asAddr (a.tmps.getD c undef))
def tupOf (vs : Array Value) : Value := if h : vs.size = 1 then vs[0] else .tuple vs
def okOf (r : Result Value) : Value := match r with | .ok u _ => u | _ => undef
theorem results_ok (hB : B.Ok P) {fn : Func} {env : T AV} {n : Nat} {a : Act} {rs : List (Nat × Option (Nat × Bool))} {v : AV} (hE : ER φ env n a.tmps) (H : WR φ h nx w) (hc : mapO (cres B) fn.results.toList = some rs) (hv : resultsX env h rs = some v) :
 ∃ v', (results fn a.tmps).run P w = .ok v' w ∧ VR φ v v' := by
 unfold resultsX at hv
 simp only [Option.bind_eq_some_iff] at hv
 obtain ⟨l, hl, hv⟩ := hv
 obtain ⟨c1, c2⟩ := mapO_some hc
 obtain ⟨l1, l2⟩ := mapO_some hl
 have key : ∀ (r : ResultVar) (q : Nat × Option (Nat × Bool)) (u : AV), cres B r = some q → results1 env h q = some u →
  ∃ u', (rvar a r).run P w = .ok u' w ∧ VR φ u u' := by
  intro r q u hq hu
  unfold cres at hq
  split at hq
  · rename_i t
    injection hq with hq; subst hq
    have hu : ((env.get t).bind fun v => some v) = some u := hu
    simp only [Option.bind_eq_some_iff] at hu
    obtain ⟨u0, h1, h2⟩ := hu
    injection h2 with h2; subst h2
    obtain ⟨_, u', g1, g2⟩ := hE.2 _ _ h1
    refine ⟨u', ?_, g2⟩
    simp [rvar, Array.getD_eq_getD_getElem?, g1]
  · rename_i c t
    simp only [Option.bind_eq_some_iff] at hq
    obtain ⟨d, hd, z, hz, hq⟩ := hq
    cases hag : (aggD d || Nat.beq z.length 1) with
    | false => rw [hag] at hq; cases hq
    | true =>
      rw [hag] at hq
      simp only [cond_true] at hq
      injection hq with hq; subst hq
      have hu : ((env.get c).bind fun v => (xld h 0 z.length (aggD d) v).bind fun r => some r.1) = some u := hu
      simp only [Option.bind_eq_some_iff] at hu
      obtain ⟨p, h1, r3, h2, h3⟩ := hu
      injection h3 with h3; subst h3
      obtain ⟨_, p', g1, g2⟩ := hE.2 _ _ h1
      obtain ⟨i, z0, q1, _, _, q4, _⟩ := hB.zr _ _ hz
      obtain ⟨ad, u', e1, e2, e3⟩ := xld_ok (P := P) H g2 h2 (hB.und _ _ hd) q1 q4.symm rfl (fun hf => by rw [hf] at hag; rw [q4]; exact Nat.eq_of_beq_eq_true (by simpa using hag))
      refine ⟨u', ?_, e3⟩
      simp [rvar, Array.getD_eq_getD_getElem?, g1, e1, asAddr, e2]
 -- the values, one by one
 have hex : ∀ r ∈ fn.results.toList, ∃ u', (rvar a r).run P w = .ok u' w := by
  intro r hr
  obtain ⟨i, hi⟩ := List.getElem?_of_mem hr
  obtain ⟨q, hq, hf⟩ := c2 i r hi
  obtain ⟨u, hu, hg⟩ := l2 i q hq
  obtain ⟨u', h1, _⟩ := key r q u hf hg
  exact ⟨u', h1⟩
 obtain ⟨g, hgd⟩ : ∃ g : ResultVar → Value, ∀ r, g r = okOf ((rvar a r).run P w) := ⟨fun r => okOf ((rvar a r).run P w), fun _ => rfl⟩
 have hrun := run_mapM (P := P) (w := w) (rvar a) g fn.results (fun r hr => by
  obtain ⟨u', hu⟩ := hex r hr
  have : g r = u' := by rw [hgd, hu]; rfl
  rw [this]; exact hu)
 have hvl : VRL φ l (fn.results.map g).toList := by
  refine VRL.of_get (by simp at c1 ⊢; omega) fun i u hi => ?_
  have hlt : i < fn.results.toList.length := by have := (List.getElem?_eq_some_iff.1 hi).1; omega
  obtain ⟨q, hq, hf⟩ := c2 i fn.results.toList[i] (by simp [hlt])
  obtain ⟨u2, hu2, hg⟩ := l2 i q hq
  rw [hi] at hu2; injection hu2 with hu2; subst hu2
  obtain ⟨u', h1, h2⟩ := key _ q u hf hg
  refine ⟨u', ?_, h2⟩
  have hgu : g fn.results.toList[i] = u' := by rw [hgd, h1]; rfl
  simp only [Array.toList_map, List.getElem?_map, List.getElem?_eq_getElem hlt, Option.map_some, hgu]
 have hres : (results fn a.tmps).run P w = .ok (tupOf (fn.results.map g)) w := by
  unfold results
  simp only [Sem.run_bind]
  erw [hrun]
  simp only [Result.andThen_ok, Sem.run_pure]
  rfl
 refine ⟨_, hres, ?_⟩
 obtain ⟨vs, hvs⟩ : ∃ vs : List Value, fn.results.map g = ⟨vs⟩ := ⟨(fn.results.map g).toList, rfl⟩
 rw [hvs] at hvl ⊢
 simp only at hvl
 unfold tupOf
 split at hv
 · rename_i u
   injection hv with hv; subst hv
   cases hvl with
   | cons h1 h2 =>
     cases h2
     simpa using h1
 · rename_i hne
   injection hv with hv; subst hv
   have : ¬ (vs.length = 1) := by
    intro h1
    cases l with
    | nil => cases hvl; simp at h1
    | cons u l =>
      cases l with
      | nil => exact hne u rfl
      | cons _ _ => have := hvl.length; simp at this; omega
   simp only [List.size_toArray, this, dif_neg, not_false_eq_true]
   exact .tup hvl
end
end Go.Ev
end
section
namespace Go.Ev
open Go.RowKit
section
variable {P : Program} {B : Tb} {K : Callee'} {φ : Phi} {h : Hp} {nx : Nat} {w : World} {n fuel : Nat}
theorem forget_cons (d : Nat) (ds : List Nat) (h : Hp) : forget (d :: ds) h = (h.get d).bind fun o => match o with
 | .deferred true => forget ds (h.put d (.deferred false))
 | _ => none := rfl
theorem leaves_ok (hB : B.Ok P) {fn : Func} {env : T AV} {a : Act} {rs : List (Nat × Option (Nat × Bool))} {v : AV} (hc : mapO (cres B) fn.results.toList = some rs) (R : Ending → World → Prop) :
 ∀ (ds : List Nat) (l : List Deferred) (φ : Phi) (h h' : Hp) (w : World), forget ds h = some h' → resultsX env h' rs = some v → ER φ env n a.tmps → DR φ ds l → WR φ h nx w →
  (∀ v' w', VR φ v v' → WR φ h' nx w' → Stp φ h w φ h' w' → R (.returned v') w') → LeavesInM (W none) 0 P fn a.tmps R l .returning w := by
 intro ds
 induction ds with
 | nil =>
   intro l φ h h' w hf hv hE hD H hR
   cases hD
   have hf : some h = some h' := hf
   injection hf with hf; subst hf
   obtain ⟨v', h1, h2⟩ := results_ok hB hE H hc hv
   exact ⟨v', h1, hR v' w h2 H (Stp.refl φ h w)⟩
 | cons d ds ih =>
   intro l φ h h' w hf hv hE hD H hR
   cases hD with
   | @cons _ i _ l hi hD =>
   rw [forget_cons] at hf
   simp only [Option.bind_eq_some_iff] at hf
   obtain ⟨o, ho, hf⟩ := hf
   split at hf
   · obtain ⟨i', hi', hobj⟩ := H.obj _ _ ho
     rw [hi] at hi'; injection hi' with hi'; subst hi'
     have hobj : w.heap[i.blk]? = some (.deferred (some [])) := hobj
     obtain ⟨a1, a2⟩ := H.setObj (o := .deferred false) (o' := .deferred none) hi (by rw [ho]; rfl) (fun w' hw' => by
      show w'.heap[i.blk]? = some (.deferred none)
      rw [hw', Array.getElem?_setIfInBounds, if_pos rfl, if_pos (H.dom _ _ hi)]) (fun _ _ he => by cases he)
     refine ⟨by simp, .inl ⟨i.blk, _, rfl, ?_, ih l φ _ h' _ hf hv hE hD a1 fun v' w' h1 h2 h3 => hR v' w' h1 h2 (a2.trans h3)⟩⟩
     simp only [Instr.takeDeferred, Sem.run_bind, run_getObj hobj (fun _ _ _ => Obj.noConfusion), Result.andThen_ok, run_setObj hobj (fun _ _ _ => Obj.noConfusion), Sem.run_pure]
   · cases hf
theorem evF_ok (hB : B.Ok P) {g : FuncId} {fn : Func} {xf : XF} (hg : P.funcs[g]? = some fn) (hc : cfn B fn = some xf) (hcode : ∀ c x, cc B fn.ntmps c = some x → COk P K fn.ntmps fuel c x) {args : List AV} {args' : List Value} {r : R3}
 (hr : evF K fuel xf args h nx = some r) (ha : VRL φ args args') (H : WR φ h nx w) :
 Calls P g ⟨args'⟩ w (fun e w' => ∃ v, e = .returned v ∧ ∃ ψ, VR ψ r.1 v ∧ WR ψ r.2.1 r.2.2 w' ∧ Stp φ h w ψ r.2.1 w') := by
 unfold cfn at hc
 simp only [Option.bind_eq_some_iff] at hc
 obtain ⟨c, hbody, x, hx, rs, hrs, hc⟩ := hc
 injection hc with hc; subst hc
 unfold evF at hr
 simp only at hr
 cases hn : Nat.ble args.length fn.ntmps with
 | false => rw [hn] at hr; cases hr
 | true =>
   rw [hn] at hr
   have hn := Nat.le_of_ble_eq_true hn
   simp only [cond_true, Option.bind_eq_some_iff] at hr
   obtain ⟨⟨e, s⟩, h1, hr⟩ := hr
   have hE := ER.fill (φ := φ) ha hn
   refine (W_calls (ro := none) (k := 0)).1 (callsIn_of_wp_marks (F := W none) (n := 0) hg hbody trivial ?_)
   have hsz : (⟨args'⟩ : Array Value).size = args'.length := rfl
   rw [hsz]
   refine wpIn_mono (hcode c x hx φ none none ⟨T.fill args .lf 0, [], h, nx⟩ _ w e s h1 (.inl ⟨rfl, rfl⟩) hE .nil H) ?_
   rintro e' a' w' ⟨rfl, ψ, h2, h3, h4, h5⟩
   cases e with
   | exit id => cases hr
   | normal =>
     simp only [Option.bind_eq_some_iff] at hr
     obtain ⟨h', hh, v, hv, hr⟩ := hr
     injection hr with hr; subst hr
     exact leaves_ok hB hrs _ s.defs a'.defers ψ s.h h' w' hh hv h2 h3 h4 fun v' w'' k1 k2 k3 => ⟨v', rfl, ψ, k1, k2, h5.trans k3⟩
   | ret =>
     simp only [Option.bind_eq_some_iff] at hr
     obtain ⟨h', hh, v, hv, hr⟩ := hr
     injection hr with hr; subst hr
     exact leaves_ok hB hrs _ s.defs a'.defers ψ s.h h' w' hh hv h2 h3 h4 fun v' w'' k1 k2 k3 => ⟨v', rfl, ψ, k1, k2, h5.trans k3⟩
theorem ER.params : ∀ (ps : List Tmp) (args : List AV) (args' : List Value) (env : T AV) (tmps : Array Value), VRL φ args args' → ER φ env n tmps → (∀ p ∈ ps, p < n) →
 ER φ ((ps.zip args).foldl (fun e p => e.put p.1 p.2) env) n ((ps.zip args').foldl (fun t p => t.setIfInBounds p.1 p.2) tmps) := by
 intro ps
 induction ps with
 | nil => intro args args' env tmps _ hE _; simpa using hE
 | cons p ps ih =>
   intro args args' env tmps hl hE hp
   cases hl with
   | nil => simpa using hE
   | cons h1 h2 =>
     simp only [List.zip_cons_cons, List.foldl_cons]
     exact ih _ _ _ _ h2 (hE.put (hp p (List.mem_cons_self ..)) h1) (fun q hq => hp q (List.mem_cons_of_mem _ hq))
theorem run_getLoop {l : Nat} {r : Loop} (hl : w.heap[l]? = some (.loop r)) : (Instr.getLoop l).run P w = .ok r w := by
 simp only [Instr.getLoop, Sem.run_bind, run_getObj hl (fun _ _ _ => Obj.noConfusion), Result.andThen_ok, Sem.run_pure]
theorem evY_ok (hcode : ∀ n c x, cc B n c = some x → COk P K n fuel c x) {l : Nat} {args : List AV} {args' : List Value} {f' : Value} {r : R3}
 (hr : evY (cc B) K fuel l args h nx = some r) (hf : VR φ (.yld l) f') (ha : VRL φ args args') (H : WR φ h nx w) :
 RetR P f' args' w (fun v w' => ∃ ψ, VR ψ r.1 v ∧ WR ψ r.2.1 r.2.2 w' ∧ Stp φ h w ψ r.2.1 w') := by
 cases hf with
 | @yld _ i hi =>
 unfold evY at hr
 simp only [Option.bind_eq_some_iff] at hr
 obtain ⟨o, ho, hr⟩ := hr
 split at hr
 · rename_i st pend env size params assign body d
   cases hck : (Nat.beq args.length params.length && params.all fun p => Nat.blt p size) with
   | false => rw [hck] at hr; cases hr
   | true =>
   rw [hck] at hr
   simp only [Bool.and_eq_true] at hck
   obtain ⟨hck1, hck2⟩ := hck
   have hck1 := Nat.eq_of_beq_eq_true hck1
   simp only [cond_true, Option.bind_eq_some_iff] at hr
   obtain ⟨xa, hxa, xb, hxb, ⟨e1, s1⟩, h1, hr⟩ := hr
   obtain ⟨i', hi', tmps, id, fn, hd, hobj, hE⟩ := H.obj _ _ ho
   rw [hi] at hi'; injection hi' with hi'; subst hi'
   have hlen := ha.length
   refine ⟨{ target := .fn (.yield i.blk) #[], args := ⟨args'⟩ }, i.blk, fn, ((params.zip args').foldl (fun t p => t.setIfInBounds p.1 p.2) tmps), assign, body, w, ?_, ?_, ?_⟩
   · simp [Deferred.ofValue]
   · simp only [invoke, Instr.yield, Sem.run_bind, run_getLoop hobj, Result.andThen_ok]
     rw [if_neg (by simp; omega)]
     simp only [Sem.run_bind, Sem.run_pure, Result.andThen_ok]
     congr 2
     rw [← Array.foldl_toList]
     simp
   · refine roundIn_of_wpIn (F := Fence.wide) (n := 0) trivial ?_
     have hE1 := ER.params (n := size) params args args' env tmps ha hE (fun p hp => by have := List.all_eq_true.1 hck2 p hp; rwa [Nat.blt_eq] at this)
     have hro : RoR φ (some l) (some i.blk) := .inr ⟨l, i, rfl, hi, rfl⟩
     refine wpIn_mono (hcode size assign xa hxa φ (some l) (some i.blk) ⟨_, [], h, nx⟩ { tmps := _, defers := [] } w e1 s1 h1 hro hE1 .nil H) ?_
     rintro e' a1 w1 ⟨rfl, ψ, h2, h3, h4, h5⟩
     cases e1 with
     | exit id => cases hr
     | ret => cases hr
     | normal =>
       simp only [Option.bind_eq_some_iff] at hr
       obtain ⟨o1, ho1, hr⟩ := hr
       split at hr
       · rename_i pend1 env1 size1 params1 assign1 body1 d1
         simp only [Option.bind_eq_some_iff] at hr
         obtain ⟨⟨e2, q⟩, g1, o2, ho2, hr⟩ := hr
         have hil : ψ l = some i := h5.ext _ _ hi
         obtain ⟨i1, hi1, tmps1, id1, fn1, hd1, hobj1, hE1'⟩ := h4.obj _ _ ho1
         rw [hil] at hi1; injection hi1 with hi1; subst hi1
         obtain ⟨a1', a2'⟩ := h4.setObj (o := .loop .busy pend1 env1 size1 params1 assign1 body1 d1) (o' := .loop { state := .busy, pending := pend1, fn := fn1, tmps := tmps1, params := ⟨params1⟩, assign := assign1, body := body1, defers := id1.blk }) hil (by rw [ho1]; rfl)
          (fun w' hw' => ⟨tmps1, id1, fn1, hd1, by rw [hw', Array.getElem?_setIfInBounds, if_pos rfl, if_pos (h4.dom _ _ hil)], hE1'⟩) (fun _ _ he => by cases he)
         refine ⟨{ w1 with heap := w1.heap.setIfInBounds i.blk (.loop { state := .busy, pending := pend1, fn := fn1, tmps := tmps1, params := ⟨params1⟩, assign := assign1, body := body1, defers := id1.blk }) }, ?_, ?_⟩
         · simp only [Instr.beginRound, Sem.run_bind, run_getLoop hobj1, Result.andThen_ok, run_setObj hobj1 (fun _ _ _ => Obj.noConfusion), Sem.run_pure]
         · refine wpIn_mono (hcode size body xb hxb ψ (some l) (some i.blk) ⟨s1.env, s1.defs, _, s1.nx⟩ a1 _ e2 q g1 (hro.mono h5.ext) h2 h3 a1') ?_
           rintro e' a2 w2 ⟨rfl, χ, k2, k3, k4, k5⟩
           have hstep := h5.trans (a2'.trans k5)
           have hil2 : χ l = some i := k5.ext _ _ hil
           have fin : ∀ (jump : Option Code) (pd : Option Code) (v : Bool) (st' : LoopState) (env3 : T AV) (size3 : Nat) (params3 : List Tmp) (assign3 body3 : Code) (d3 : Nat) (st3 : LoopState),
            o2 = .loop st3 pd env3 size3 params3 assign3 body3 d3 → jump.isNone = v → (st' = if jump.isNone then .ready else .done) → r = (.bool v, q.h.put l (.loop st' jump env3 size3 params3 assign3 body3 d3), q.nx) →
            ∃ v' w', (Instr.endRound i.blk jump).run P w2 = .ok v' w' ∧ ∃ u, Ending.returned v' = Ending.returned u ∧ ∃ ψ, VR ψ r.1 u ∧ WR ψ r.2.1 r.2.2 w' ∧ Stp φ h w ψ r.2.1 w' := by
            rintro jump pd v st' env3 size3 params3 assign3 body3 d3 st3 rfl hv hst rfl
            obtain ⟨i3, hi3, tmps3, id3, fn3, hd3, hobj3, hE3⟩ := k4.obj _ _ ho2
            rw [hil2] at hi3; injection hi3 with hi3; subst hi3
            obtain ⟨b1, b2⟩ := k4.setObj (o := .loop st' jump env3 size3 params3 assign3 body3 d3) (o' := .loop { state := st', pending := jump, fn := fn3, tmps := tmps3, params := ⟨params3⟩, assign := assign3, body := body3, defers := id3.blk }) hil2 (by rw [ho2]; rfl)
             (fun w' hw' => ⟨tmps3, id3, fn3, hd3, by rw [hw', Array.getElem?_setIfInBounds, if_pos rfl, if_pos (k4.dom _ _ hil2)], hE3⟩) (fun _ _ he => by cases he)
            refine ⟨.bool v, _, ?_, .bool v, rfl, χ, .bool v, b1, hstep.trans b2⟩
            subst hst hv
            simp only [Instr.endRound, Sem.run_bind, run_getLoop hobj3, Result.andThen_ok, run_setObj hobj3 (fun _ _ _ => Obj.noConfusion), Sem.run_pure]
           split at hr
           · rename_i st3 pd3 env3 size3 params3 assign3 body3 d3
             cases e2 with
             | normal => injection hr with hr; exact fin none pd3 true .ready env3 size3 params3 assign3 body3 d3 st3 rfl rfl rfl hr.symm
             | ret => injection hr with hr; exact fin (some .ret) pd3 false .done env3 size3 params3 assign3 body3 d3 st3 rfl rfl rfl hr.symm
             | exit id2 => injection hr with hr; exact fin (some (.exit id2)) pd3 false .done env3 size3 params3 assign3 body3 d3 st3 rfl rfl rfl hr.symm
           · cases hr
       · cases hr
 · cases hr
theorem c_rngf (hK : KOk P K) {f : Operand} {fi : IX} {params : Array Tmp} {assign body : Code} (hf : cpx f = some fi) : COk P K n fuel (.rangeFunc f params assign body) (.rngf fi params.toList assign body) := by
 intro φ roA ro s a w e s' hr hro hE hD H
 have hr : ((fi.ev s.env).bind fun fv => (isFn fv).bind fun _ =>
  (match roA with
   | none => some (s.nx, s.nx :: s.defs, s.h.put s.nx (.deferred true), Nat.succ s.nx)
   | some l => (s.h.get l).bind fun o => match o with
     | .loop _ _ _ _ _ _ _ d => some (d, s.defs, s.h, s.nx)
     | _ => none).bind fun p =>
  (K fv [.yld p.2.2.2] (p.2.2.1.put p.2.2.2 (.loop .ready none s.env n params.toList assign body p.1)) (Nat.succ p.2.2.2)).bind fun r =>
  (r.2.1.get p.2.2.2).bind fun o => match o with
   | .loop st pending env size params assign body d => match st with
     | .busy => none
     | _ => endX pending ⟨s.env, p.2.1, r.2.1.put p.2.2.2 (.loop .exhausted pending env size params assign body d), r.2.2⟩
   | _ => none) = some (e, s') := hr
 simp only [Option.bind_eq_some_iff] at hr
 obtain ⟨fv, hfv, _, hisfn, ⟨d, defs, h1, nx1⟩, hp, r, hcall, o, ho, hr⟩ := hr
 simp only at hcall ho hr
 have hnotyld : ∀ l, fv ≠ .yld l := by
  intro l e; subst e; cases hisfn
 refine wpIn_rangeFunc fun fnr _ => ?_
 -- the record is laid
 have lay : ∃ (φ1 : Phi) (w1 : World) (mark : List Deferred) (id : RI), WR φ1 h1 nx1 w1 ∧ Stp φ s.h w φ1 h1 w1 ∧ φ1 d = some id ∧ DR φ1 defs (mark ++ a.defers) ∧
  (Instr.enterLoop fnr a.tmps params assign body ro).run P w =
   .ok (w1.heap.size, mark) (w1.alloc (.loop { state := .ready, pending := none, fn := fnr, tmps := a.tmps, params, assign, body, defers := id.blk })) := by
  rcases hro with ⟨rfl, rfl⟩ | ⟨l, il, rfl, hil, rfl⟩
  · simp only at hp
    injection hp with hp; injection hp with p1 p2; injection p2 with p2 p3; injection p3 with p3 p4
    subst p1; subst p2; subst p3; subst p4
    obtain ⟨b1, b2⟩ := H.new (.deferred true) (.deferred (some [])) 0 (fun w' hw' => by show w'.heap[_]? = some (Obj.deferred (some [])); rw [hw']; simp)
    refine ⟨_, _, [{ target := .collected w.heap.size, args := #[] }], ⟨w.heap.size, 0, 0⟩, b1, b2, Phi.put_eq, .cons (i := ⟨w.heap.size, 0, 0⟩) Phi.put_eq (hD.mono b2.ext), ?_⟩
    simp [Instr.enterLoop, World.alloc_eq]
  · simp only [Option.bind_eq_some_iff] at hp
    obtain ⟨o1, ho1, hp⟩ := hp
    split at hp
    · rename_i d1
      injection hp with hp; injection hp with p1 p2; injection p2 with p2 p3; injection p3 with p3 p4
      subst p1; subst p2; subst p3; subst p4
      obtain ⟨il', hil', tmps, id, fn, hd, hobj, _⟩ := H.obj _ _ ho1
      rw [hil] at hil'; injection hil' with hil'; subst hil'
      refine ⟨φ, w, [], id, H, Stp.refl φ s.h w, hd, hD, ?_⟩
      simp [Instr.enterLoop, run_getLoop hobj]
    · cases hp
 obtain ⟨φ1, w1, mark, id, H1, S1, hid, hD1, hlay⟩ := lay
 obtain ⟨c1, c2⟩ := H1.new (.loop .ready none s.env n params.toList assign body d) (.loop { state := .ready, pending := none, fn := fnr, tmps := a.tmps, params, assign, body, defers := id.blk }) 0 (fun w' hw' =>
  ⟨a.tmps, id, fnr, (by
   have hne : d ≠ nx1 := fun e2 => by rw [e2, H1.fresh nx1 (Nat.le_refl _)] at hid; cases hid
   rw [Phi.put_ne hne]; exact hid), by rw [hw']; simp, (hE.mono S1.ext).mono (Phi.le_put (H1.fresh _ (Nat.le_refl _)))⟩)
 have hS := S1.trans c2
 have hfv' : VR (φ1.put nx1 ⟨w1.heap.size, 0, 0⟩) fv (a.eval f) := (ev_ok hE hf hfv).mono hS.ext
 have hyl : VRL (φ1.put nx1 ⟨w1.heap.size, 0, 0⟩) [.yld nx1] [.func (.yield w1.heap.size) #[] #[]] := .cons (.yld (i := ⟨w1.heap.size, 0, 0⟩) Phi.put_eq) .nil
 have hret : RetE P (a.eval f) _ _ _ := (hK _ _ _ _ fv _ r hcall (a.eval f) _ hfv' hyl c1).elim (fun h => h.2) (fun ⟨⟨l, hl⟩, _⟩ => absurd hl (hnotyld l))
 obtain ⟨dd, g, as, w2, hd1, hi1, hcalls⟩ := hret
 refine ⟨w1.heap.size, mark, _, dd, _, g, as, w2, hlay, ?_, fun _ _ => trivial, hi1, (fun hh => by cases hh), W_calls.2 (hcalls.mono ?_)⟩
 · have hmap : ((#[Operand.const (Value.func (Fn.yield w1.heap.size) #[] #[])] : Array Operand).map a.eval) = ⟨[Value.func (Fn.yield w1.heap.size) #[] #[]]⟩ := by simp [Act.eval]
   simp only [resolve, rangeCall, hmap]
   exact hd1
 · rintro e' w3 ⟨v, rfl, ψ, hv, H3, S3⟩
   obtain ⟨il, hil, hobj2⟩ := H3.obj _ _ ho
   have hil0 : ψ nx1 = some ⟨w1.heap.size, 0, 0⟩ := S3.ext _ _ Phi.put_eq
   rw [hil0] at hil; injection hil with hil; subst hil
   split at hr
   · rename_i st pending env size params2 assign2 body2 d2
     obtain ⟨tmps2, id2, fn2, hd2, hobj2, hE2⟩ := hobj2
     have hst : st ≠ .busy := by
      intro e2; subst e2; cases hr
     obtain ⟨b1, b2⟩ := H3.setObj (o := .loop .exhausted pending env size params2 assign2 body2 d2) (o' := .loop { state := .exhausted, pending := pending, fn := fn2, tmps := tmps2, params := ⟨params2⟩, assign := assign2, body := body2, defers := id2.blk }) hil0 (by rw [ho]; rfl)
      (fun w' hw' => ⟨tmps2, id2, fn2, hd2, by rw [hw', Array.getElem?_setIfInBounds, if_pos rfl, if_pos (H3.dom _ _ hil0)], hE2⟩) (fun _ _ he => by cases he)
     have hfin := hS.trans (S3.trans b2)
     have hDf : DR ψ defs (mark ++ a.defers) := (hD1.mono c2.ext).mono S3.ext
     have hEf : ER ψ s.env n a.tmps := hE.mono (Phi.le_trans hS.ext S3.ext)
     refine ⟨pending, { w3 with heap := w3.heap.setIfInBounds w1.heap.size (.loop { state := .exhausted, pending := pending, fn := fn2, tmps := tmps2, params := ⟨params2⟩, assign := assign2, body := body2, defers := id2.blk }) }, ?_, ?_⟩
     · have hbs : (st == LoopState.busy) = false := by cases st <;> first | rfl | exact absurd rfl hst
       simp only [Instr.endLoop, Sem.run_bind, run_getLoop hobj2, Result.andThen_ok, hbs, Bool.false_eq_true, if_false, run_setObj hobj2 (fun _ _ _ => Obj.noConfusion), Sem.run_pure]
     · have hr2 : endX pending ⟨s.env, defs, r.2.1.put nx1 (.loop .exhausted pending env size params2 assign2 body2 d2), r.2.2⟩ = some (e, s') := by
        cases st with
        | busy => exact absurd rfl hst
        | _ => exact hr
       clear hr
       cases pending with
       | none =>
         injection hr2 with hr2; injection hr2 with q1 q2; subst q1; subst q2
         exact ⟨rfl, ψ, hEf, hDf, b1, hfin⟩
       | some c =>
         cases c <;> first | (cases hr2; done) | skip
         · injection hr2 with hr2; injection hr2 with q1 q2; subst q1; subst q2
           exact wpIn_exit ⟨rfl, ψ, hEf, hDf, b1, hfin⟩
         · injection hr2 with hr2; injection hr2 with q1 q2; subst q1; subst q2
           exact wpIn_ret ⟨rfl, ψ, hEf, hDf, b1, hfin⟩
   · cases hr
theorem c_mkWalk (hB : B.Ok P) (hFl : ∀ t offs, B.flat.get t = some offs → FlatT P t offs) (hK : KOk P K) {id : Nat} {a : Code} {xa : XC} (IH : ∀ d : Code, SizeOf.sizeOf d < SizeOf.sizeOf (Code.block id a) → ∀ x, cc B n d = some x → COk P K n fuel d x) (h1 : cc B n a = some xa) :
 COk P K n fuel (.block id a) (mkWalk n id a xa) := by
 have hplain : COk P K n fuel (.block id a) (.block id xa) := c_block (IH a (by simp; omega) _ h1)
 unfold mkWalk
 split
 · rename_i rid1 ops1 oc id1 id2 rid2 ops2 c3 x0 l1 ci id3 id4 y0 l2 xb
   cases hn : nextOf ops1[0]? with
   | none => exact hplain
   | some p =>
     cases he : entOf ops2[0]? with
     | none => exact hplain
     | some q =>
       simp only
       cases hc : ((Nat.blt p.2 n && Nat.blt q.2 n) && (Nat.beq p.1 q.1 && Nat.beq id1 id)) with
       | false => exact hplain
       | true =>
         simp only [Bool.and_eq_true] at hc
         obtain ⟨⟨k1, k2⟩, k3, k4⟩ := hc
         have k3 := Nat.eq_of_beq_eq_true k3
         have k4 := Nat.eq_of_beq_eq_true k4
         rw [Nat.blt_eq] at k1 k2
         subst k4
         obtain ⟨p1, p2⟩ := p
         obtain ⟨q1, q2⟩ := q
         simp only at k1 k2 k3
         subst k3
         simp only [cc, Option.map_eq_some_iff, Option.bind_eq_some_iff] at h1
         obtain ⟨z, ⟨z1, hz1, z2, ⟨z3, ⟨ci', hci, z4, hz4, z5, hz5, hz6⟩, z7, ⟨z8, ⟨z9, hz9, z10, hz10, hz11⟩, hz12⟩, hz13⟩, hz14⟩, hz15⟩ := h1
         obtain ⟨w1, hw1, rfl⟩ := hz1
         obtain ⟨w2, hw2, rfl⟩ := hz9
         injection hz11 with hz11; subst hz11
         have hz12 : XC.block id2 (.seq (.reg w2) z10) = z7 := hz12
         subst hz12
         injection hz6 with hz6; subst hz6
         injection hz13 with hz13; subst hz13
         injection hz14 with hz14; subst hz14
         injection hz15 with hz15
         injection hz15 with u1 u2
         injection u1 with u1
         injection u2 with u2 u3
         injection u2 with u4 u5 u6
         injection u3 with u7 u8
         injection u8 with u9 u10
         injection u9 with u9
         subst u1; subst u4; subst u9; subst u10
         exact c_walk hB hFl hK hw1 hci hw2 (IH c3 (by simp; omega) _ hz10) hn he k1 k2 hplain
 · exact hplain
theorem cc_ok (hB : B.Ok P) (hFl : ∀ t offs, B.flat.get t = some offs → FlatT P t offs) (hK : KOk P K) (hDr : DrawOk P B K) : ∀ (c : Code) (x : XC), cc B n c = some x → COk P K n fuel c x := by
 intro c
 generalize hsz : SizeOf.sizeOf c = sz
 induction sz using Nat.strongRecOn generalizing c with
 | _ sz IH =>
 have IH : ∀ d : Code, SizeOf.sizeOf d < SizeOf.sizeOf c → ∀ x, cc B n d = some x → COk P K n fuel d x := fun d hd => IH _ (hsz ▸ hd) d rfl
 cases c with
 | skip =>
   intro x hx
   injection hx with hx; subst hx
   intro φ roA ro s a w e s' hr _ hE hD H
   have hr : some (XE.normal, s) = some (e, s') := hr
   injection hr with hr; injection hr with r1 r2; subst r1; subst r2
   exact wpIn_skip ⟨rfl, φ, hE, hD, H, Stp.refl φ _ w⟩
 | region id ops draw =>
   intro x hx
   cases draw with
   | false =>
     simp only [cc, Option.map_eq_some_iff] at hx
     obtain ⟨l, hl, rfl⟩ := hx
     exact c_reg hB hFl hK hl
   | true =>
     simp only [cc, Option.map_eq_some_iff] at hx
     obtain ⟨⟨m, l⟩, hl, rfl⟩ := hx
     exact c_drw hDr hl
 | seq a b =>
   intro x hx
   simp only [cc, Option.bind_eq_some_iff] at hx
   obtain ⟨xa, h1, xb, h2, hx⟩ := hx
   injection hx with hx; subst hx
   exact c_seq (IH a (by simp; omega) _ h1) (IH b (by simp; omega) _ h2)
 | cond c a b =>
   intro x hx
   simp only [cc, Option.bind_eq_some_iff] at hx
   obtain ⟨xc, h0, xa, h1, xb, h2, hx⟩ := hx
   injection hx with hx; subst hx
   exact c_cond h0 (IH a (by simp; omega) _ h1) (IH b (by simp; omega) _ h2)
 | block id a =>
   intro x hx
   simp only [cc, Option.map_eq_some_iff] at hx
   obtain ⟨xa, h1, rfl⟩ := hx
   exact c_mkWalk hB hFl hK IH h1
 | loop a =>
   intro x hx
   simp only [cc, Option.map_eq_some_iff] at hx
   obtain ⟨xa, h1, rfl⟩ := hx
   exact c_loop (IH a (by simp) _ h1)
 | rangeFunc f params assign body =>
   intro x hx
   simp only [cc, Option.bind_eq_some_iff] at hx
   obtain ⟨fi, h1, hx⟩ := hx
   injection hx with hx; subst hx
   exact c_rngf hK h1
 | exit id =>
   intro x hx
   injection hx with hx; subst hx
   intro φ roA ro s a w e s' hr _ hE hD H
   have hr : some (XE.exit id, s) = some (e, s') := hr
   injection hr with hr; injection hr with r1 r2; subst r1; subst r2
   exact wpIn_exit ⟨rfl, φ, hE, hD, H, Stp.refl φ _ w⟩
 | ret =>
   intro x hx
   injection hx with hx; subst hx
   intro φ roA ro s a w e s' hr _ hE hD H
   have hr : some (XE.ret, s) = some (e, s') := hr
   injection hr with hr; injection hr with r1 r2; subst r1; subst r2
   exact wpIn_ret ⟨rfl, φ, hE, hD, H, Stp.refl φ _ w⟩
 | label l =>
   intro x hx
   injection hx with hx; subst hx
   intro φ roA ro s a w e s' hr _ hE hD H
   have hr : some (XE.normal, s) = some (e, s') := hr
   injection hr with hr; injection hr with r1 r2; subst r1; subst r2
   exact wpIn_label ⟨rfl, φ, hE, hD, H, Stp.refl φ _ w⟩
 | scope a => intro x hx; cases hx
 | goto l => intro x hx; cases hx
 | refuse why => intro x hx; cases hx
end
end Go.Ev
end
section
namespace Go.Ev
open Go.RowKit
def FOk (P : Program) (FT : T Func) : Prop :=
 ∀ g f, FT.get g = some f → P.funcs[g]? = some f ∧ f.name ≠ "runtime.NumGoroutine"
section
variable {P : Program} {B : Tb} {FT : T Func} {fuel : Nat}
theorem run_invoke_enter {g : FuncId} {fn : Func} {c : Code} (hf : P.funcs[g]? = some fn) (hname : fn.name ≠ "runtime.NumGoroutine") (hb : fn.body = some c) (args : Array Value) (cap : Array Value) (w : World) :
 (invoke (.fn (.func g) cap) args).run P w = .ok (.enter g (args ++ cap)) w := by
 simp [invoke, callFunc, hf, hname, hb]
end
end Go.Ev
end
section
namespace Go.Ev
open Go.RowKit
theorem T.setF_comm {α : Type} {x y : Option α} : ∀ (f g : Nat) (t : T α) (j k : Nat), j < f → k < g → j ≠ k → T.setF y g (T.setF x f t j) k = T.setF x f (T.setF y g t k) j := by
 intro f
 induction f with
 | zero => intro g t j k hj; omega
 | succ f ih =>
   intro g t j k hj hk hne
   cases g with
   | zero => omega
   | succ g =>
   have key : ∀ (l r : T α) (v : Option α), T.setF y (g + 1) (T.setF x (f + 1) (.nd l v r) j) k = T.setF x (f + 1) (T.setF y (g + 1) (.nd l v r) k) j := by
    intro l r v
    cases j with
    | zero =>
      cases k with
      | zero => omega
      | succ k =>
        rcases Nat.mod_two_eq_zero_or_one k with e | e
        · rw [T.setF_nd0, T.setF_nd_even _ _ _ _ _ _ e, T.setF_nd_even _ _ _ _ _ _ e, T.setF_nd0]
        · rw [T.setF_nd0, T.setF_nd_odd _ _ _ _ _ _ e, T.setF_nd_odd _ _ _ _ _ _ e, T.setF_nd0]
    | succ j =>
      cases k with
      | zero =>
        rcases Nat.mod_two_eq_zero_or_one j with e | e
        · rw [T.setF_nd0, T.setF_nd_even _ _ _ _ _ _ e, T.setF_nd_even _ _ _ _ _ _ e, T.setF_nd0]
        · rw [T.setF_nd0, T.setF_nd_odd _ _ _ _ _ _ e, T.setF_nd_odd _ _ _ _ _ _ e, T.setF_nd0]
      | succ k =>
        rcases Nat.mod_two_eq_zero_or_one j with e | e <;> rcases Nat.mod_two_eq_zero_or_one k with e2 | e2
        · rw [T.setF_nd_even _ _ _ _ _ _ e, T.setF_nd_even _ _ _ _ _ _ e2, T.setF_nd_even _ _ _ _ _ _ e2, T.setF_nd_even _ _ _ _ _ _ e, ih _ _ _ _ (by omega) (by omega) (by omega)]
        · rw [T.setF_nd_even _ _ _ _ _ _ e, T.setF_nd_odd _ _ _ _ _ _ e2, T.setF_nd_odd _ _ _ _ _ _ e2, T.setF_nd_even _ _ _ _ _ _ e]
        · rw [T.setF_nd_odd _ _ _ _ _ _ e, T.setF_nd_even _ _ _ _ _ _ e2, T.setF_nd_even _ _ _ _ _ _ e2, T.setF_nd_odd _ _ _ _ _ _ e]
        · rw [T.setF_nd_odd _ _ _ _ _ _ e, T.setF_nd_odd _ _ _ _ _ _ e2, T.setF_nd_odd _ _ _ _ _ _ e2, T.setF_nd_odd _ _ _ _ _ _ e, ih _ _ _ _ (by omega) (by omega) (by omega)]
   cases t with
   | nd l v r => exact key l r v
   | lf => rw [T.setF_lf_eq x f j, T.setF_lf_eq y g k, key]
theorem T.put_comm {α : Type} (t : T α) {j k : Nat} (x y : α) (h : j ≠ k) : (t.put j x).put k y = (t.put k y).put j x :=
 T.setF_comm _ _ t j k (Nat.lt_succ_self j) (Nat.lt_succ_self k) h
theorem bitOf_eq (m i : Nat) : bitOf m i = m.testBit i := by
 have h0 : Nat.beq ((m >>> i) % 2) 1 = m.testBit i := by
  unfold Nat.testBit
  rw [Nat.and_comm, Nat.and_one_is_mod]
  rcases Nat.mod_two_eq_zero_or_one (m >>> i) with h | h <;> rw [h] <;> rfl
 exact h0
theorem bit_lor (a b i : Nat) : bitOf (Nat.lor a b) i = (bitOf a i || bitOf b i) := by
 rw [bitOf_eq, bitOf_eq, bitOf_eq]; exact Nat.testBit_or a b i
theorem bit_shl (k i : Nat) : bitOf (Nat.shiftLeft 1 k) i = decide (k = i) := by
 rw [bitOf_eq]
 show (1 <<< k).testBit i = _
 rw [Nat.one_shiftLeft, Nat.testBit_two_pow]
theorem bits_cons (x : IX) (l : List IX) : bits (x :: l) = Nat.lor x.bit (bits l) := rfl
theorem ev_put {env : T AV} {d : Nat} {v : AV} {x : IX} (h : bitOf x.bit d = false) : x.ev (env.put d v) = x.ev env := by
 cases x with
 | c v => rfl
 | t n =>
   have h : bitOf (Nat.shiftLeft 1 n) d = false := h
   rw [bit_shl] at h
   exact T.get_put_ne _ _ (by simpa using h)
theorem bits_mem {l : List IX} {d : Nat} (h : bitOf (bits l) d = false) : ∀ x ∈ l, bitOf x.bit d = false := by
 induction l with
 | nil => intro x hx; cases hx
 | cons y l ih =>
   rw [bits_cons, bit_lor, Bool.or_eq_false_iff] at h
   intro x hx
   cases hx with
   | head => exact h.1
   | tail _ hx => exact ih h.2 x hx
theorem mapO_congr {α β : Type} {f g : α → Option β} : ∀ {l : List α}, (∀ x ∈ l, f x = g x) → mapO f l = mapO g l := by
 intro l
 induction l with
 | nil => intro _; rfl
 | cons x l ih =>
   intro h
   have h1 := h x (List.mem_cons_self ..)
   have h2 := ih fun y hy => h y (List.mem_cons_of_mem _ hy)
   unfold mapO at *
   simp only [h1, h2]
theorem evL_congr {env env' : T AV} {l : List IX} (h : ∀ x ∈ l, x.ev env = x.ev env') : evL env l = evL env' l := mapO_congr h
theorem afill_congr {env env' : T AV} : ∀ {parts : List (Nat × Nat × IX)} (cs : List AV), (∀ x ∈ parts.map (·.2.2), x.ev env = x.ev env') → afill env cs parts = afill env' cs parts := by
 intro parts
 induction parts with
 | nil => intro cs _; rfl
 | cons p parts ih =>
   intro cs h
   have h1 : p.2.2.ev env = p.2.2.ev env' := h _ (by simp)
   have h2 := fun cs => ih cs fun y hy => h y (by simp at hy ⊢; exact .inr hy)
   unfold afill at *
   simp only [h1, h2]
theorem bnd_congr {env env' : T AV} {x : Option IX} (d : Nat) (h : ∀ y ∈ x.toList, y.ev env = y.ev env') : bnd env d x = bnd env' d x := by
 cases x with
 | none => rfl
 | some x =>
   have := h x (by simp)
   unfold bnd
   simp only [this]
theorem xopM_congr {env env' : T AV} {h : Hp} {nx : Nat} : ∀ {x : XOp}, (∀ y ∈ x.ixs, y.ev env = y.ev env') → xopM x env h nx = xopM x env' h nx := by
 intro x hx
 cases x with
 | build zs parts => simp only [xopM, xbuild]; rw [afill_congr _ hx]
 | bslice es n zs parts => simp only [xopM, xbslice]; rw [afill_congr _ hx]
 | mkf f first cap =>
   simp only [XOp.ixs, List.mem_append] at hx
   simp only [xopM]; rw [evL_congr fun y hy => hx y (.inl hy), evL_congr fun y hy => hx y (.inr hy)]
 | slS x lo hi =>
   simp only [XOp.ixs, List.mem_cons, List.mem_append] at hx
   simp only [xopM, xslS]; rw [hx x (.inl rfl)]
   simp only [bnd_congr (env := env) (env' := env') 0 (fun y hy => hx y (.inr (.inl hy))), bnd_congr (env := env) (env' := env') _ (fun y hy => hx y (.inr (.inr hy)))]
 | slV es x lo hi mx =>
   simp only [XOp.ixs, List.mem_cons, List.mem_append] at hx
   simp only [xopM, xslV]; rw [hx x (.inl rfl)]
   have e1 := fun d => bnd_congr (env := env) (env' := env') (x := lo) d (fun y hy => hx y (.inr (.inl hy)))
   have e2 := fun d => bnd_congr (env := env) (env' := env') (x := hi) d (fun y hy => hx y (.inr (.inr (.inl hy))))
   have e3 := fun d => bnd_congr (env := env) (env' := env') (x := mx) d (fun y hy => hx y (.inr (.inr (.inr hy))))
   simp only [e1, e2, e3]
 | pick c a b =>
   simp only [XOp.ixs, List.mem_cons, List.mem_nil_iff, or_false] at hx
   simp only [xopM]; rw [hx c (.inl rfl)]
   congr 1; funext v
   cases v with
   | bool t => cases t with
     | true => show (a.ev env).bind _ = (a.ev env').bind _; rw [hx a (.inr (.inl rfl))]
     | false => show (b.ev env).bind _ = (b.ev env').bind _; rw [hx b (.inr (.inr rfl))]
   | _ => rfl
 | new zs => rfl
 | mkm => rfl
 | mv x | box x | ld _ _ x | nck x | un _ x | cvI _ x | cvS x | cvB x | cvSB x | cvBS x | fa _ x | fld _ _ _ x | ext x _ | len _ x | rng x | nxt x | ent x | clr _ x =>
   have e := hx x (by simp [XOp.ixs])
   simp only [xopM, e]
 | st _ x y | bin _ x y | eqn _ _ x y | eqs _ _ x y | mks _ _ x y | iaV _ x y | ixS x y | lkp _ _ _ x y | app _ x y | mnx _ x y =>
   have e := hx x (by simp [XOp.ixs])
   have e2 := hx y (by simp [XOp.ixs])
   simp only [xopM, e, e2]
 | mup _ x y z =>
   have e := hx x (by simp [XOp.ixs])
   have e2 := hx y (by simp [XOp.ixs])
   have e3 := hx z (by simp [XOp.ixs])
   simp only [xopM, e, e2, e3]
theorem xop_congr {env env' : T AV} {h : Hp} {nx : Nat} {x : XOp} (hx : ∀ y ∈ x.ixs, y.ev env = y.ev env') : xop x env h nx = xop x env' h nx := by
 rw [xop_eq, xop_eq]; exact xopM_congr hx
theorem xo_congr {K : Callee'} {env env' : T AV} {h : Hp} {nx : Nat} {x : XO} (hx : ∀ y ∈ x.ixs, y.ev env = y.ev env') : xo K x env h nx = xo K x env' h nx := by
 cases x with
 | pl x => exact xop_congr hx
 | call f l =>
   show (f.ev env).bind _ = (f.ev env').bind _
   rw [hx f (List.mem_cons_self ..)]
   congr 1; funext fv
   show (evL env l).bind _ = (evL env' l).bind _
   rw [evL_congr fun y hy => hx y (List.mem_cons_of_mem _ hy)]
theorem xq_congr {env env' : T AV} {h : Hp} {x : XO} (hx : ∀ y ∈ x.ixs, y.ev env = y.ev env') : xq x env h = xq x env' h := by
 cases x with
 | pl x => show (xop x env h 0).bind _ = (xop x env' h 0).bind _; rw [xop_congr hx]
 | call f l => rfl
theorem xal_congr {env env' : T AV} {m : Nat} {x : XO} (hx : ∀ y ∈ x.ixs, y.ev env = y.ev env') : xal x env m = xal x env' m := by
 unfold xal
 split
 · rfl
 · rename_i x
   rw [hx x (by simp [XO.ixs, XOp.ixs])]
 · rw [afill_congr _ hx]
 · rfl
 · rfl
theorem same_congr {env env' : T AV} {x : XO} (hx : ∀ y ∈ x.ixs, y.ev env = y.ev env') (v : AV) : ∀ (snaps : List Hp) (n : Nat), same x env v n snaps = same x env' v n snaps := by
 intro snaps
 induction snaps with
 | nil => intro n; rfl
 | cons h snaps ih =>
   intro n
   cases n with
   | zero => rfl
   | succ n =>
     show Option.rec (motive := fun _ => Bool) false (fun u => Bool.rec (motive := fun _ => Bool) false (same x env v n snaps) (veq u v)) (xq x env h) = Option.rec (motive := fun _ => Bool) false (fun u => Bool.rec (motive := fun _ => Bool) false (same x env' v n snaps) (veq u v)) (xq x env' h)
     rw [ih, xq_congr hx]
theorem same_get {env : T AV} {x : XO} {v : AV} : ∀ (snaps : List Hp) (n : Nat), same x env v n snaps = true → ∀ j, j < n → ∃ h u, snaps[j]? = some h ∧ xq x env h = some u ∧ veq u v = true := by
 intro snaps
 induction snaps with
 | nil => intro n hs j hj; have := Nat.eq_of_beq_eq_true hs; omega
 | cons h snaps ih =>
   intro n hs j hj
   cases n with
   | zero => omega
   | succ n =>
     have hs : Option.rec (motive := fun _ => Bool) false (fun u => Bool.rec (motive := fun _ => Bool) false (same x env v n snaps) (veq u v)) (xq x env h) = true := hs
     cases hq : xq x env h with
     | none => rw [hq] at hs; cases hs
     | some u =>
       rw [hq] at hs
       have hs : Bool.rec (motive := fun _ => Bool) false (same x env v n snaps) (veq u v) = true := hs
       cases hv : veq u v with
       | false => rw [hv] at hs; cases hs
       | true =>
         rw [hv] at hs
         cases j with
         | zero => exact ⟨h, u, rfl, hq, hv⟩
         | succ j =>
           obtain ⟨h', u', h1, h2, h3⟩ := ih n hs j (by omega)
           exact ⟨h', u', by simpa using h1, h2, h3⟩
theorem quiet_mono {x : XOp} {env : T AV} {h h' : Hp} {nx' : Nat} {r : R3} (hq : quietX x = true) (hh : rdX x = true → ∀ b o, h.get b = some o → h'.get b = some o) (hr : xop x env h 0 = some r) : xop x env h' nx' = some (r.1, h', nx') := by
 rw [xop_eq] at hr ⊢
 cases x with
 | ld n ag x =>
   have hh := hh rfl
   simp only [xopM, Option.bind_eq_some_iff] at hr ⊢
   obtain ⟨v, hv, hr⟩ := hr
   refine ⟨v, hv, ?_⟩
   unfold xld at hr ⊢
   split at hr
   · rename_i b o
     simp only [Option.bind_eq_some_iff] at hr ⊢
     obtain ⟨ob, hb, hr⟩ := hr
     refine ⟨ob, hh _ _ hb, ?_⟩
     split at hr
     · rename_i m t
       cases hm : Nat.ble (o + n) m with
       | false => rw [hm] at hr; cases hr
       | true =>
         rw [hm] at hr
         simp only [hm, cond_true] at hr ⊢
         cases ag with
         | true =>
           simp only [Option.bind_eq_some_iff] at hr ⊢
           obtain ⟨l, hl, hr⟩ := hr
           injection hr with hr; subst hr
           exact ⟨l, hl, rfl⟩
         | false =>
           simp only [Option.bind_eq_some_iff] at hr ⊢
           obtain ⟨l, hl, hr⟩ := hr
           injection hr with hr; subst hr
           exact ⟨l, hl, rfl⟩
     · cases hr
   · cases hr
 | lkp tag z ok m k =>
   have hh := hh rfl
   simp only [xopM, Option.bind_eq_some_iff] at hr ⊢
   obtain ⟨v, hv, u, hu, hr⟩ := hr
   refine ⟨v, hv, u, hu, ?_⟩
   unfold xlkp at hr ⊢
   cases hk : kind1 u tag with
   | false => rw [hk] at hr; cases hr
   | true =>
     rw [hk] at hr
     simp only [hk, cond_true, Option.bind_eq_some_iff] at hr ⊢
     obtain ⟨es, hes, q, hq, hr⟩ := hr
     injection hr with hr; subst hr
     refine ⟨es, ?_, q, hq, rfl⟩
     split at hes
     · exact hes
     · simp only [Option.bind_eq_some_iff] at hes ⊢
       obtain ⟨o, ho, hes⟩ := hes
       exact ⟨o, hh _ _ ho, hes⟩
     · cases hes
 | len tg x =>
   simp only [xopM, Option.bind_eq_some_iff] at hr ⊢
   obtain ⟨v, hv, u, hu, hr⟩ := hr
   injection hr with hr; subst hr
   refine ⟨v, hv, u, ?_, rfl⟩
   unfold alen at hu ⊢
   split at hu
   · exact hu
   · exact hu
   · exact hu
   · exact hu
   · simp only [Option.bind_eq_some_iff] at hu ⊢
     obtain ⟨o, ho, hu⟩ := hu
     have hg := hh rfl _ _ ho
     exact ⟨o, hg, hu⟩
   · cases hu
 | cvBS x =>
   have hh := hh rfl
   simp only [xopM, Option.bind_eq_some_iff] at hr ⊢
   obtain ⟨v, hv, hr⟩ := hr
   refine ⟨v, hv, ?_⟩
   split at hr
   · rename_i b o len c es ex
     cases he : Nat.beq es 1 with
     | false => rw [he] at hr; cases hr
     | true =>
       rw [he] at hr
       simp only [he, cond_true, Option.bind_eq_some_iff] at hr ⊢
       obtain ⟨ob, hb, hr⟩ := hr
       refine ⟨ob, hh _ _ hb, ?_⟩
       split at hr
       · rename_i n t
         cases hm : Nat.ble (o + len) n with
         | false => rw [hm] at hr; cases hr
         | true =>
           rw [hm] at hr
           simp only [hm, cond_true, Option.bind_eq_some_iff] at hr ⊢
           obtain ⟨l, hl, q, hq, hr⟩ := hr
           injection hr with hr; subst hr
           exact ⟨l, hl, q, hq, rfl⟩
       · cases hr
   · cases hr
 | st _ _ _ | mup _ _ _ _ | app _ _ _ | cvB _ | cvSB _ | mks _ _ _ _ | new _ | box _ | bslice _ _ _ _ | mkm | rng _ | nxt _ | ent _ | clr _ _ => cases hq
 | mv x => 
   simp only [xopM, Option.bind_eq_some_iff] at hr ⊢
   obtain ⟨v, hv, hr⟩ := hr
   injection hr with hr; subst hr
   exact ⟨v, hv, rfl⟩
 | pick c a b =>
   simp only [xopM, Option.bind_eq_some_iff] at hr ⊢
   obtain ⟨v, hv, hr⟩ := hr
   refine ⟨v, hv, ?_⟩
   split at hr
   · simp only [Option.bind_eq_some_iff] at hr ⊢
     obtain ⟨u, hu, hr⟩ := hr
     injection hr with hr; subst hr
     exact ⟨u, hu, rfl⟩
   · cases hr
 | build zs parts =>
   simp only [xopM, xbuild, Option.bind_eq_some_iff] at hr ⊢
   obtain ⟨v, hv, hr⟩ := hr
   injection hr with hr; subst hr
   exact ⟨v, hv, rfl⟩
 | nck x =>
   simp only [xopM, Option.bind_eq_some_iff] at hr ⊢
   obtain ⟨v, hv, hr⟩ := hr
   refine ⟨v, hv, ?_⟩
   unfold xnck at hr ⊢
   split at hr
   · injection hr with hr; subst hr; rfl
   · injection hr with hr; subst hr; rfl
   · cases hr
 | bin op x y =>
   simp only [xopM, Option.bind_eq_some_iff] at hr ⊢
   obtain ⟨v, hv, u, hu, q, hq, hr⟩ := hr
   injection hr with hr; subst hr
   exact ⟨v, hv, u, hu, q, hq, rfl⟩
 | eqn k neg x y =>
   simp only [xopM, Option.bind_eq_some_iff] at hr ⊢
   obtain ⟨v, hv, u, hu, q, hq, hr⟩ := hr
   injection hr with hr; subst hr
   exact ⟨v, hv, u, hu, q, hq, rfl⟩
 | eqs neg offs x y =>
   simp only [xopM, Option.bind_eq_some_iff] at hr ⊢
   obtain ⟨v, hv, u, hu, hr⟩ := hr
   refine ⟨v, hv, u, hu, ?_⟩
   split at hr
   · rename_i l1 l2
     cases hk : kinds l1 offs with
     | false => rw [hk] at hr; cases hr
     | true =>
       rw [hk] at hr
       simp only [hk, cond_true, Option.bind_eq_some_iff] at hr ⊢
       obtain ⟨e, he, hr⟩ := hr
       injection hr with hr; subst hr
       exact ⟨e, he, rfl⟩
   · cases hr
 | un op x =>
   simp only [xopM, Option.bind_eq_some_iff] at hr ⊢
   obtain ⟨v, hv, u, hu, hr⟩ := hr
   injection hr with hr; subst hr
   exact ⟨v, hv, u, hu, rfl⟩
 | cvI k x =>
   simp only [xopM, Option.bind_eq_some_iff] at hr ⊢
   obtain ⟨v, hv, hr⟩ := hr
   refine ⟨v, hv, ?_⟩
   split at hr
   · injection hr with hr; subst hr; rfl
   · cases hr
 | cvS x =>
   simp only [xopM, Option.bind_eq_some_iff] at hr ⊢
   obtain ⟨v, hv, hr⟩ := hr
   refine ⟨v, hv, ?_⟩
   split at hr
   · injection hr with hr; subst hr; rfl
   · cases hr
 | mkf f first cap =>
   simp only [xopM, Option.bind_eq_some_iff] at hr ⊢
   obtain ⟨v, hv, u, hu, hr⟩ := hr
   injection hr with hr; subst hr
   exact ⟨v, hv, u, hu, rfl⟩
 | slS x lo hi =>
   simp only [xopM, Option.bind_eq_some_iff] at hr ⊢
   obtain ⟨v, hv, hr⟩ := hr
   refine ⟨v, hv, ?_⟩
   unfold xslS at hr ⊢
   split at hr
   · rename_i l
     simp only [Option.bind_eq_some_iff] at hr ⊢
     obtain ⟨a, ha, b, hb, hr⟩ := hr
     refine ⟨a, ha, b, hb, ?_⟩
     cases hc : (Nat.ble a b && Nat.ble b l.length) with
     | false => rw [hc] at hr; cases hr
     | true =>
       rw [hc] at hr
       simp only [cond_true] at hr ⊢
       injection hr with hr; subst hr; rfl
   · cases hr
 | slV es x lo hi mx =>
   simp only [xopM, Option.bind_eq_some_iff] at hr ⊢
   obtain ⟨v, hv, hr⟩ := hr
   refine ⟨v, hv, ?_⟩
   unfold xslV at hr ⊢
   split at hr
   · rename_i b o len cp es' ex
     simp only [Option.bind_eq_some_iff] at hr ⊢
     obtain ⟨l, hl, hi', hhi, m, hm, hr⟩ := hr
     refine ⟨l, hl, hi', hhi, m, hm, ?_⟩
     cases hc : (Nat.beq es es' && (Nat.ble l hi' && (Nat.ble hi' m && Nat.ble m cp))) with
     | false => rw [hc] at hr; cases hr
     | true =>
       rw [hc] at hr
       simp only [cond_true] at hr ⊢
       injection hr with hr; subst hr; rfl
   · simp only [Option.bind_eq_some_iff] at hr ⊢
     obtain ⟨l, hl, hi', hhi, m, hm, hr⟩ := hr
     refine ⟨l, hl, hi', hhi, m, hm, ?_⟩
     cases hc : (Nat.ble l hi' && (Nat.ble hi' m && Nat.ble m 0)) with
     | false => rw [hc] at hr; cases hr
     | true =>
       rw [hc] at hr
       simp only [cond_true] at hr ⊢
       injection hr with hr; subst hr; rfl
   · cases hr
 | fa off x =>
   simp only [xopM, Option.bind_eq_some_iff] at hr ⊢
   obtain ⟨v, hv, hr⟩ := hr
   refine ⟨v, hv, ?_⟩
   split at hr
   · injection hr with hr; subst hr; rfl
   · cases hr
 | fld off n ag x =>
   simp only [xopM, Option.bind_eq_some_iff] at hr ⊢
   obtain ⟨v, hv, hr⟩ := hr
   refine ⟨v, hv, ?_⟩
   split at hr
   · cases ag with
     | true => injection hr with hr; subst hr; rfl
     | false =>
       simp only [Option.bind_eq_some_iff] at hr ⊢
       obtain ⟨u, hu, hr⟩ := hr
       injection hr with hr; subst hr
       exact ⟨u, hu, rfl⟩
   · cases hr
 | iaV es x i =>
   simp only [xopM, Option.bind_eq_some_iff] at hr ⊢
   obtain ⟨v, hv, u, hu, hr⟩ := hr
   refine ⟨v, hv, u, hu, ?_⟩
   split at hr
   · rename_i b o len c es' ex k n
     cases hc : (Nat.beq es es' && Nat.blt n len) with
     | false => rw [hc] at hr; cases hr
     | true =>
       rw [hc] at hr
       simp only [hc, cond_true] at hr ⊢
       injection hr with hr; subst hr; rfl
   · cases hr
 | ixS x i =>
   simp only [xopM, Option.bind_eq_some_iff] at hr ⊢
   obtain ⟨v, hv, u, hu, hr⟩ := hr
   refine ⟨v, hv, u, hu, ?_⟩
   split at hr
   · simp only [Option.bind_eq_some_iff] at hr ⊢
     obtain ⟨q, hq, hr⟩ := hr
     injection hr with hr; subst hr
     exact ⟨q, hq, rfl⟩
   · cases hr
 | ext x i =>
   simp only [xopM, Option.bind_eq_some_iff] at hr ⊢
   obtain ⟨v, hv, hr⟩ := hr
   refine ⟨v, hv, ?_⟩
   split at hr
   · simp only [Option.bind_eq_some_iff] at hr ⊢
     obtain ⟨q, hq, hr⟩ := hr
     injection hr with hr; subst hr
     exact ⟨q, hq, rfl⟩
   · cases hr
 | mnx mx x y =>
   simp only [xopM, Option.bind_eq_some_iff] at hr ⊢
   obtain ⟨v, hv, u, hu, q, hq, hr⟩ := hr
   injection hr with hr; subst hr
   exact ⟨v, hv, u, hu, q, hq, rfl⟩
end Go.Ev
end
section
namespace Go.Ev
open Go.RowKit
section
variable {P : Program} {B : Tb} {φ : Phi} {h : Hp} {nx : Nat} {w : World} {env : T AV} {n : Nat} {a : Act}
theorem xal_ok (hB : B.Ok P) (hE : ER φ env n a.tmps) (H : WR φ h nx w) {m : Nat} (hm : φ m = none) (hmr : ¬ φ.res m) {o : Oper} {x : XO} {p : AV × AObj} (hc : cxo B o.op = some x) (hk : kindX o.op x = 1) (hp : xal x env m = some p) :
 Done P (execOp a.eval o) φ h w p.1 (h.put m p.2) (max nx (m + 1)) ∧ ((∃ k t, p.2 = .cells k t) ∨ ∃ es c, p.2 = .map es c) := by
 obtain ⟨dst, op, ty, pos, after, guard⟩ := o
 simp only at hc hk
 unfold kindX at hk
 split at hk
 · -- alloc
   rename_i e
   have hc : (Option.map XOp.new (B.zr.get e)).map XO.pl = some x := hc
   simp only [Option.map_eq_some_iff] at hc
   obtain ⟨_, ⟨zs, hz, rfl⟩, rfl⟩ := hc
   injection hp with hp; subst hp
   obtain ⟨i, v, k1, k2, k3, _⟩ := hB.zr _ _ hz
   exact ⟨d_newA H hm hmr k1 k2 k3, .inl ⟨_, _, rfl⟩⟩
 · -- box
   rename_i e ox
   have hc : ((cpx ox).map XOp.box).map XO.pl = some x := hc
   simp only [Option.map_eq_some_iff] at hc
   obtain ⟨_, ⟨ix, hx, rfl⟩, rfl⟩ := hc
   simp only [xal, Option.bind_eq_some_iff] at hp
   obtain ⟨v, hv, hp⟩ := hp
   cases hs : scal v.cells with
   | false => rw [hs] at hp; cases hp
   | true =>
     rw [hs] at hp
     simp only [cond_true] at hp
     injection hp with hp; subst hp
     exact ⟨d_boxA H hm hmr (ev_ok hE hx hv) hs, .inl ⟨_, _, rfl⟩⟩
 · -- buildSlice
   rename_i t len parts
   obtain ⟨y, rfl, hy⟩ : ∃ y, x = .pl y ∧ cop B (.buildSlice t len parts) = some y := by
    rcases cxo_cases hc with h | ⟨f, args, ts, fi, l, he, _⟩
    · exact h
    · cases he
   have hc : ((B.und.get t).bind fun d => match d with
    | .slice e => (B.zr.get e).bind fun zs => bif Nat.ble (len * zs.length) 16777216 then (cparts (fun k => some (k * zs.length, zs.length)) parts.toList).map (.bslice zs.length len (arep zs len)) else none
    | _ => none) = some y := hy
   simp only [Option.bind_eq_some_iff] at hc
   obtain ⟨d, hd, hc⟩ := hc
   split at hc
   · rename_i e
     simp only [Option.bind_eq_some_iff] at hc
     obtain ⟨zs, hzs, hc⟩ := hc
     cases hb : Nat.ble (len * zs.length) 16777216 with
     | false => rw [hb] at hc; cases hc
     | true =>
       rw [hb] at hc
       have hb := Nat.le_of_ble_eq_true hb
       simp only [cond_true, Option.map_eq_some_iff] at hc
       obtain ⟨xs, hxs, rfl⟩ := hc
       simp only [xal, Option.bind_eq_some_iff] at hp
       obtain ⟨l, hl, hp⟩ := hp
       cases hs : scal l with
       | false => rw [hs] at hp; cases hp
       | true =>
         rw [hs] at hp
         simp only [cond_true] at hp
         injection hp with hp; subst hp
         obtain ⟨i, z, k1, k2, k3, k4, _⟩ := hB.zr _ _ hzs
         rw [← k4] at hxs hb
         simp only [← k4]
         exact ⟨d_bsliceA H hm hmr hE (hB.und _ _ hd) k1 k2 k3 k4 hb (cparts_ok hxs) hl hs, .inl ⟨_, _, rfl⟩⟩
   · cases hc
 · -- makeMap
   have hc : (some XOp.mkm).map XO.pl = some x := hc
   injection hc with hc; subst hc
   injection hp with hp; subst hp
   exact ⟨d_mkmA H hm hmr, .inr ⟨_, _, rfl⟩⟩
 · cases hk
 · split at hk
   · rename_i y
     cases hq : quietX y <;> rw [hq] at hk <;> cases hk
   · cases hk
end
end Go.Ev
end
