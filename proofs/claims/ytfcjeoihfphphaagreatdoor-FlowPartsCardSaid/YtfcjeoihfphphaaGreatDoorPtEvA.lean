/- A part of the proof, written by programs of this seat and by hand: EvA. -/
import Derived.RangeFuncLeaves
import Derived.LoopNIn
import Derived.Below
import Derived.Laws.Sem
import Derived.ChangeKeysEq
import Derived.Laws.StructEq
set_option linter.unusedVariables false
set_option linter.unusedSimpArgs false
section
namespace Go.Ev
inductive T (α : Type) where
 | lf
 | nd (l : T α) (v : Option α) (r : T α)
noncomputable def T.get {α : Type} (t : T α) : Nat → Option α :=
 T.rec (motive := fun _ => Nat → Option α) (fun _ => none)
  (fun _ v _ gl gr k => Nat.rec (motive := fun _ => Option α) v
   (fun k' _ => Nat.rec (motive := fun _ => Option α) (gl (Nat.div k' (nat_lit 2))) (fun _ _ => gr (Nat.div k' (nat_lit 2))) (Nat.mod k' (nat_lit 2))) k) t
noncomputable def T.setF {α : Type} (x : Option α) (f : Nat) : T α → Nat → T α :=
 Nat.rec (motive := fun _ => T α → Nat → T α) (fun t _ => t)
  (fun _ ih t k => T.rec (motive := fun _ => T α)
   (Nat.rec (motive := fun _ => T α) (.nd .lf x .lf)
    (fun k' _ => Nat.rec (motive := fun _ => T α) (.nd (ih .lf (Nat.div k' (nat_lit 2))) none .lf) (fun _ _ => .nd .lf none (ih .lf (Nat.div k' (nat_lit 2)))) (Nat.mod k' (nat_lit 2))) k)
   (fun l v r _ _ => Nat.rec (motive := fun _ => T α) (.nd l x r)
    (fun k' _ => Nat.rec (motive := fun _ => T α) (.nd (ih l (Nat.div k' (nat_lit 2))) v r) (fun _ _ => .nd l v (ih r (Nat.div k' (nat_lit 2)))) (Nat.mod k' (nat_lit 2))) k) t) f
noncomputable def T.set {α : Type} (t : T α) (k : Nat) (x : Option α) : T α := T.setF x (Nat.succ k) t k
noncomputable def T.put {α : Type} (t : T α) (k : Nat) (x : α) : T α := T.setF (some x) (Nat.succ k) t k
section
variable {α : Type}
theorem T.get_lf (k : Nat) : (T.lf : T α).get k = none := rfl
theorem T.get_nd_even (l r : T α) (v : Option α) (k : Nat) (h : k % 2 = 0) : (T.nd l v r).get (k + 1) = l.get (k / 2) := by
 show (Nat.rec (motive := fun _ => Option α) (l.get (k / 2)) (fun _ _ => r.get (k / 2)) (k % 2)) = _
 rw [h]; rfl
theorem T.get_nd_odd (l r : T α) (v : Option α) (k : Nat) (h : k % 2 = 1) : (T.nd l v r).get (k + 1) = r.get (k / 2) := by
 show (Nat.rec (motive := fun _ => Option α) (l.get (k / 2)) (fun _ _ => r.get (k / 2)) (k % 2)) = _
 rw [h]; rfl
theorem T.setF_nd0 (x : Option α) (f : Nat) (l r : T α) (v : Option α) : T.setF x (f + 1) (.nd l v r) 0 = .nd l x r := rfl
theorem T.setF_nd_even (x : Option α) (f : Nat) (l r : T α) (v : Option α) (k : Nat) (h : k % 2 = 0) :
 T.setF x (f + 1) (.nd l v r) (k + 1) = .nd (T.setF x f l (k / 2)) v r := by
 show (Nat.rec (motive := fun _ => T α) (.nd (T.setF x f l (k / 2)) v r) (fun _ _ => .nd l v (T.setF x f r (k / 2))) (k % 2)) = _
 rw [h]; rfl
theorem T.setF_nd_odd (x : Option α) (f : Nat) (l r : T α) (v : Option α) (k : Nat) (h : k % 2 = 1) :
 T.setF x (f + 1) (.nd l v r) (k + 1) = .nd l v (T.setF x f r (k / 2)) := by
 show (Nat.rec (motive := fun _ => T α) (.nd (T.setF x f l (k / 2)) v r) (fun _ _ => .nd l v (T.setF x f r (k / 2))) (k % 2)) = _
 rw [h]; rfl
theorem T.setF_lf_eq (x : Option α) (f : Nat) (k : Nat) : T.setF x (f + 1) .lf k = T.setF x (f + 1) (.nd .lf none .lf) k := by
 cases k with
 | zero => rfl
 | succ k => rfl
theorem T.get_setF (x : Option α) : ∀ (f : Nat) (t : T α) (k j : Nat), k < f → (T.setF x f t k).get j = if j = k then x else t.get j := by
 intro f
 induction f with
 | zero => intro t k j h; omega
 | succ f ih =>
   intro t k j h
   have key : ∀ l v r, (T.setF x (f + 1) (.nd l v r) k).get j = if j = k then x else (T.nd l v r).get j := by
    intro l v r
    cases k with
    | zero =>
      rw [T.setF_nd0]
      cases j with
      | zero => rw [if_pos rfl]; rfl
      | succ j =>
        rw [if_neg (by omega)]
        rcases Nat.mod_two_eq_zero_or_one j with hj | hj
        · rw [T.get_nd_even _ _ _ _ hj, T.get_nd_even _ _ _ _ hj]
        · rw [T.get_nd_odd _ _ _ _ hj, T.get_nd_odd _ _ _ _ hj]
    | succ k =>
      rcases Nat.mod_two_eq_zero_or_one k with hk | hk
      · rw [T.setF_nd_even _ _ _ _ _ _ hk]
        cases j with
        | zero => rw [if_neg (by omega)]; rfl
        | succ j =>
          rcases Nat.mod_two_eq_zero_or_one j with hj | hj
          · rw [T.get_nd_even _ _ _ _ hj, T.get_nd_even _ _ _ _ hj, ih _ _ _ (by omega)]
            by_cases e : j = k
            · subst e; simp
            · rw [if_neg (by omega), if_neg (by omega)]
          · rw [T.get_nd_odd _ _ _ _ hj, T.get_nd_odd _ _ _ _ hj, if_neg (by omega)]
      · rw [T.setF_nd_odd _ _ _ _ _ _ hk]
        cases j with
        | zero => rw [if_neg (by omega)]; rfl
        | succ j =>
          rcases Nat.mod_two_eq_zero_or_one j with hj | hj
          · rw [T.get_nd_even _ _ _ _ hj, T.get_nd_even _ _ _ _ hj, if_neg (by omega)]
          · rw [T.get_nd_odd _ _ _ _ hj, T.get_nd_odd _ _ _ _ hj, ih _ _ _ (by omega)]
            by_cases e : j = k
            · subst e; simp
            · rw [if_neg (by omega), if_neg (by omega)]
   cases t with
   | nd l v r => exact key l v r
   | lf =>
     rw [T.setF_lf_eq, key]
     by_cases e : j = k
     · rw [if_pos e, if_pos e]
     · rw [if_neg e, if_neg e]
       cases j with
       | zero => rfl
       | succ j =>
         rcases Nat.mod_two_eq_zero_or_one j with hj | hj
         · rw [T.get_nd_even _ _ _ _ hj]; rfl
         · rw [T.get_nd_odd _ _ _ _ hj]; rfl
theorem T.get_set (t : T α) (k j : Nat) (x : Option α) : (t.set k x).get j = if j = k then x else t.get j := T.get_setF x _ t k j (Nat.lt_succ_self k)
theorem T.get_put (t : T α) (k j : Nat) (x : α) : (t.put k x).get j = if j = k then some x else t.get j := T.get_setF _ _ t k j (Nat.lt_succ_self k)
theorem T.get_put_eq (t : T α) (k : Nat) (x : α) : (t.put k x).get k = some x := by rw [T.get_put, if_pos rfl]
theorem T.get_put_ne (t : T α) {k j : Nat} (x : α) (h : j ≠ k) : (t.put k x).get j = t.get j := by rw [T.get_put, if_neg h]
end
noncomputable def T.fill {α : Type} (l : List α) : T α → Nat → T α :=
 List.rec (motive := fun _ => T α → Nat → T α) (fun t _ => t) (fun x _ ih t k => ih (t.put k x) (Nat.succ k)) l
theorem T.fill_nil {α : Type} (t : T α) (k : Nat) : T.fill [] t k = t := rfl
theorem T.fill_cons {α : Type} (x : α) (l : List α) (t : T α) (k : Nat) : T.fill (x :: l) t k = T.fill l (t.put k x) (k + 1) := rfl
theorem T.get_fill {α : Type} : ∀ (l : List α) (t : T α) (k j : Nat), (T.fill l t k).get j = if k ≤ j ∧ j < k + l.length then l[j - k]? else t.get j := by
 intro l
 induction l with
 | nil => intro t k j; rw [T.fill_nil, if_neg (by simp)]
 | cons x l ih =>
   intro t k j
   rw [T.fill_cons, ih]
   by_cases e : j = k
   · subst e
     rw [if_neg (by omega), T.get_put_eq, if_pos (by simp)]
     simp
   · by_cases h : k + 1 ≤ j ∧ j < k + 1 + l.length
     · rw [if_pos h, if_pos (by simp; omega)]
       obtain ⟨d, hd⟩ : ∃ d, j - k = d + 1 := ⟨j - k - 1, by omega⟩
       rw [hd, show j - (k + 1) = d by omega]; rfl
     · rw [if_neg h, T.get_put_ne _ _ e, if_neg (by simp; omega)]
noncomputable def T.take {α : Type} (t : T α) (n : Nat) : Nat → Option (List α) :=
 Nat.rec (motive := fun _ => Nat → Option (List α)) (fun _ => some [])
  (fun _ ih k => Option.rec (motive := fun _ => Option (List α)) none (fun v => Option.rec (motive := fun _ => Option (List α)) none (fun l => some (v :: l)) (ih (Nat.succ k))) (t.get k)) n
theorem T.take_zero {α : Type} (t : T α) (k : Nat) : t.take 0 k = some [] := rfl
theorem T.take_succ {α : Type} (t : T α) (n k : Nat) : t.take (n + 1) k = (t.get k).bind fun v => (t.take n (k + 1)).map (v :: ·) := by
 show Option.rec (motive := fun _ => Option (List α)) none (fun v => Option.rec (motive := fun _ => Option (List α)) none (fun l => some (v :: l)) (t.take n (k + 1))) (t.get k) = _
 cases t.get k with
 | none => rfl
 | some v => cases t.take n (k + 1) <;> rfl
theorem T.take_some {α : Type} {t : T α} : ∀ {n k : Nat} {l : List α}, t.take n k = some l → l.length = n ∧ ∀ i, i < n → t.get (k + i) = l[i]? := by
 intro n
 induction n with
 | zero => intro k l h; rw [T.take_zero] at h; injection h with h; subst h; exact ⟨rfl, fun i hi => by omega⟩
 | succ n ih =>
   intro k l h
   rw [T.take_succ] at h
   cases hv : t.get k with
   | none => rw [hv] at h; simp at h
   | some v =>
     rw [hv] at h
     simp only [Option.bind_some, Option.map_eq_some_iff] at h
     obtain ⟨l', hl, rfl⟩ := h
     obtain ⟨h1, h2⟩ := ih hl
     refine ⟨by simp [h1], fun i hi => ?_⟩
     cases i with
     | zero => simpa using hv
     | succ i => rw [show k + (i + 1) = k + 1 + i by omega, h2 i (by omega)]; simp
inductive AV where
 | bool (b : Bool)
 | int (k : IntKind) (n : Int)
 | str (l : List Nat)
 | nilp
 | ptr (b o : Nat)
 | nils
 | slice (b o len cap es : Nat) (ex : Bool)
 | nilm
 | map (r : Nat)
 | nilf
 | fn (f : Fn) (first cap : List AV)
 | yld (r : Nat)
 | nili
 | iface (t : Nat) (v : AV)
 | agg (l : List AV)
 | tup (l : List AV)
structure RI where
 blk : Nat
 off : Nat
 size : Nat
structure Phi where
 f : Nat → Option RI
 res : Nat → Prop
instance : CoeFun Phi fun _ => Nat → Option RI := ⟨Phi.f⟩
def Phi.le (φ ψ : Phi) : Prop := ∀ b i, φ b = some i → ψ b = some i
theorem Phi.le_refl (φ : Phi) : φ.le φ := fun _ _ h => h
theorem Phi.le_trans {φ ψ χ : Phi} (h : φ.le ψ) (k : ψ.le χ) : φ.le χ := fun b i hb => k b i (h b i hb)
mutual
inductive VR (φ : Phi) : AV → Value → Prop
 | bool (b : Bool) : VR φ (.bool b) (.bool b)
 | int (k : IntKind) (n : Int) : VR φ (.int k n) (.int k n)
 | str (s : ByteArray) : VR φ (.str (s.data.toList.map UInt8.toNat)) (.string s)
 | nilp : VR φ .nilp (.pointer none)
 | ptr {b o : Nat} {i : RI} (h : φ b = some i) : VR φ (.ptr b o) (.pointer (some ⟨i.blk, i.off + o, none⟩))
 | nils : VR φ .nils (.slice none 0 0)
 | slice {b o len cap es : Nat} {ex : Bool} {i : RI} {o' cap' : Nat} (h : φ b = some i) (hl : len ≤ cap) (hc : cap ≤ cap') (he : ex = true → cap' = cap) (ho : 0 < cap → o' = i.off + o) (hs : o' + cap' * es ≤ i.size) :
  VR φ (.slice b o len cap es ex) (.slice (some ⟨i.blk, o', none⟩) len cap')
 | nilm : VR φ .nilm (.map none)
 | map {r : Nat} {i : RI} (h : φ r = some i) : VR φ (.map r) (.map (some i.blk))
 | nilf : VR φ .nilf .nilFunc
 | fn {f : Fn} {first cap : List AV} {first' cap' : List Value} (hy : ∀ l, f ≠ .yield l) (h1 : VRL φ first first') (h2 : VRL φ cap cap') : VR φ (.fn f first cap) (.func f ⟨first'⟩ ⟨cap'⟩)
 | yld {r : Nat} {i : RI} (h : φ r = some i) : VR φ (.yld r) (.func (.yield i.blk) #[] #[])
 | nili : VR φ .nili .nilIface
 | iface {t : Nat} {v : AV} {v' : Value} (h : VR φ v v') : VR φ (.iface t v) (.iface t v')
 | agg {l : List AV} {l' : List Value} (h : VRL φ l l') : VR φ (.agg l) (.agg ⟨l'⟩)
 | tup {l : List AV} {l' : List Value} (h : VRL φ l l') : VR φ (.tup l) (.tuple ⟨l'⟩)
inductive VRL (φ : Phi) : List AV → List Value → Prop
 | nil : VRL φ [] []
 | cons {v : AV} {v' : Value} {l : List AV} {l' : List Value} (h : VR φ v v') (t : VRL φ l l') : VRL φ (v :: l) (v' :: l')
end
mutual
theorem VR.mono {φ ψ : Phi} (hle : φ.le ψ) : ∀ {v : AV} {v' : Value}, VR φ v v' → VR ψ v v'
 | _, _, .bool b => .bool b
 | _, _, .int k n => .int k n
 | _, _, .str s => .str s
 | _, _, .nilp => .nilp
 | _, _, .ptr h => .ptr (hle _ _ h)
 | _, _, .nils => .nils
 | _, _, .slice h hl hc he ho hs => .slice (hle _ _ h) hl hc he ho hs
 | _, _, .nilm => .nilm
 | _, _, .map h => .map (hle _ _ h)
 | _, _, .nilf => .nilf
 | _, _, .fn hy h1 h2 => .fn hy (VRL.mono hle h1) (VRL.mono hle h2)
 | _, _, .yld h => .yld (hle _ _ h)
 | _, _, .nili => .nili
 | _, _, .iface h => .iface (VR.mono hle h)
 | _, _, .agg h => .agg (VRL.mono hle h)
 | _, _, .tup h => .tup (VRL.mono hle h)
theorem VRL.mono {φ ψ : Phi} (hle : φ.le ψ) : ∀ {l : List AV} {l' : List Value}, VRL φ l l' → VRL ψ l l'
 | _, _, .nil => .nil
 | _, _, .cons h t => .cons (VR.mono hle h) (VRL.mono hle t)
end
section
variable {φ : Phi}
theorem VRL.length {l : List AV} {l' : List Value} (h : VRL φ l l') : l.length = l'.length := by
 induction l generalizing l' with
 | nil => cases h; rfl
 | cons v l ih => cases h with | cons h t => simp [ih t]
theorem VRL.get {l : List AV} {l' : List Value} (h : VRL φ l l') : ∀ (i : Nat) (v : AV), l[i]? = some v → ∃ v', l'[i]? = some v' ∧ VR φ v v' := by
 induction l generalizing l' with
 | nil => intro i v hi; simp at hi
 | cons a l ih =>
   cases h with
   | cons h t =>
     intro i v hi
     cases i with
     | zero => simp at hi; subst hi; exact ⟨_, rfl, h⟩
     | succ i => simp at hi; simpa using ih t i v hi
theorem VRL.of_get {l : List AV} {l' : List Value} (hlen : l.length = l'.length) (h : ∀ (i : Nat) (v : AV), l[i]? = some v → ∃ v', l'[i]? = some v' ∧ VR φ v v') : VRL φ l l' := by
 induction l generalizing l' with
 | nil => cases l' with | nil => exact .nil | cons _ _ => simp at hlen
 | cons a l ih =>
   cases l' with
   | nil => simp at hlen
   | cons b l' =>
     obtain ⟨v', h1, h2⟩ := h 0 a rfl
     simp at h1; subst h1
     exact .cons h2 (ih (by simpa using hlen) fun i v hi => by simpa using h (i + 1) v (by simpa using hi))
theorem VRL.append {l m : List AV} {l' m' : List Value} (h : VRL φ l l') (k : VRL φ m m') : VRL φ (l ++ m) (l' ++ m') := by
 induction l generalizing l' with
 | nil => cases h; exact k
 | cons a l ih => cases h with | cons h t => exact .cons h (ih t)
theorem VRL.take {l : List AV} {l' : List Value} (h : VRL φ l l') (n : Nat) : VRL φ (l.take n) (l'.take n) := by
 induction l generalizing l' n with
 | nil => cases h; simp; exact .nil
 | cons a l ih => cases h with
   | cons h t => cases n with
     | zero => exact .nil
     | succ n => exact .cons h (ih t n)
theorem VRL.drop {l : List AV} {l' : List Value} (h : VRL φ l l') (n : Nat) : VRL φ (l.drop n) (l'.drop n) := by
 induction l generalizing l' n with
 | nil => cases h; simp; exact .nil
 | cons a l ih => cases h with
   | cons h t => cases n with
     | zero => exact .cons h t
     | succ n => exact ih t n
end
inductive AObj where
 | cells (n : Nat) (t : T AV)
 | map (es : List (AV × AV)) (clk : Nat)
 | miter (m : Option Nat) (clk : Nat) (left : Bool)
 | siter (s : List Nat) (pos : Nat)
   | loop (st : LoopState) (pending : Option Code) (env : T AV) (size : Nat) (params : List Tmp) (assign body : Code) (defers : Nat)
 | deferred (open_ : Bool)
abbrev Hp := T AObj
def scalar : Value → Bool
 | .agg _ | .tuple _ => false
 | _ => true
def AV.scalar : AV → Bool
 | .agg _ | .tup _ => false
 | _ => true
theorem VR.scalar_eq {φ : Phi} {v : AV} {v' : Value} (h : VR φ v v') : Ev.scalar v' = v.scalar := by cases h <;> rfl
def ER (φ : Phi) (env : T AV) (n : Nat) (tmps : Array Value) : Prop :=
 tmps.size = n ∧ ∀ t v, env.get t = some v → t < n ∧ ∃ v', tmps[t]? = some v' ∧ VR φ v v'
def AV.key : AV → Bool
 | .int _ _ | .str _ | .bool _ => true
 | _ => false
def MR (φ : Phi) (es : List (AV × AV)) (clk : Nat) (es' : List MapEntry) : Prop :=
 ∃ l : List (AV × AV), l.Perm es ∧ l.length = es'.length ∧ (∀ (i : Nat) (x : AV × AV), l[i]? = some x → ∃ e : MapEntry, es'[i]? = some e ∧ x.1.key = true ∧ VR φ x.1 e.key ∧ VR φ x.2 e.val ∧ e.born < clk) ∧ (l.map (·.1)).Nodup ∧ (es'.map (·.born)).Nodup
def OR (φ : Phi) (o : AObj) (i : RI) (w : World) : Prop :=
 match o with
 | .cells n t => ∃ c elem fr, w.heap[i.blk]? = some (.cells c elem fr) ∧ c.size = i.size ∧ i.off + n ≤ i.size ∧ (fr.1 = fr.2 ∨ i.size ≤ fr.1) ∧
  ∀ k, k < n → ∃ v v', t.get k = some v ∧ c[i.off + k]? = some v' ∧ VR φ v v' ∧ scalar v' = true
 | .map es clk => ∃ es' , w.heap[i.blk]? = some (.map es' clk) ∧ MR φ es clk es'.toList
 | .miter none _ _ => i.off = 0 ∧ w.heap[i.blk]? = some (.mapIter none 0 #[] 0)
 | .miter (some m) clk left => ∃ im seen stepped, i.off = 0 ∧ φ m = some im ∧ w.heap[i.blk]? = some (.mapIter (some im.blk) clk seen stepped) ∧ (left = true → seen = #[] ∧ stepped = clk) ∧
  (left = false → stepped = clk ∧ ∃ b, seen = #[b] ∧ ∀ es' c', w.heap[im.blk]? = some (.map es' c') → clk ≤ c' ∧ (c' = clk → ∀ e ∈ es', e.born = b))
 | .siter s pos => ∃ s' : ByteArray, s = s'.data.toList.map UInt8.toNat ∧ w.heap[i.blk]? = some (.stringIter s' pos)
 | .loop st pending env size params assign body defers => ∃ tmps id fn, φ defers = some id ∧ w.heap[i.blk]? = some (.loop { state := st, pending := pending, fn := fn, tmps := tmps, params := ⟨params⟩, assign := assign, body := body, defers := id.blk }) ∧ ER φ env size tmps
 | .deferred open_ => w.heap[i.blk]? = some (.deferred (if open_ then some [] else none))
structure WR (φ : Phi) (h : Hp) (nx : Nat) (w : World) : Prop where
 obj : ∀ b o, h.get b = some o → ∃ i, φ b = some i ∧ OR φ o i w
 inj : ∀ b b' i i', (h.get b).isSome → (h.get b').isSome → φ b = some i → φ b' = some i' → i.blk = i'.blk → b = b'
 fresh : ∀ b, nx ≤ b → φ b = none
 dom : ∀ b i, φ b = some i → i.blk < w.heap.size
 low : ∀ b, φ.res b → φ b = none
 hi : ∀ b, φ.res b → b < nx
structure Stp (φ : Phi) (h : Hp) (w : World) (ψ : Phi) (h' : Hp) (w' : World) : Prop where
 ext : φ.le ψ
 res : ψ.res = φ.res
 size : w.heap.size ≤ w'.heap.size
 os : w'.os = w.os
 tape : w'.tape = w.tape
 output : w'.output = w.output
 own : ∀ b i, (h'.get b).isSome → ψ b = some i → w.heap.size ≤ i.blk ∨ ∃ b0 i0, (h.get b0).isSome ∧ φ b0 = some i0 ∧ i0.blk = i.blk
 frame : ∀ r, r < w.heap.size → (∀ b i, (h.get b).isSome → φ b = some i → i.blk ≠ r) → w'.heap[r]? = w.heap[r]?
theorem Stp.refl (φ : Phi) (h : Hp) (w : World) : Stp φ h w φ h w :=
 ⟨Phi.le_refl φ, rfl, Nat.le_refl _, rfl, rfl, rfl, fun b i hb hi => .inr ⟨b, i, hb, hi, rfl⟩, fun _ _ _ => rfl⟩
theorem Stp.trans {φ ψ χ : Phi} {h h' h'' : Hp} {w w' w'' : World} (a : Stp φ h w ψ h' w') (b : Stp ψ h' w' χ h'' w'') : Stp φ h w χ h'' w'' := by
 refine ⟨Phi.le_trans a.ext b.ext, b.res.trans a.res, Nat.le_trans a.size b.size, b.os.trans a.os, b.tape.trans a.tape, b.output.trans a.output, ?_, ?_⟩
 · intro x i hx hi
   rcases b.own x i hx hi with h1 | ⟨b0, i0, h0, hi0, e⟩
   · exact .inl (Nat.le_trans a.size h1)
   · rcases a.own b0 i0 h0 hi0 with h1 | ⟨b1, i1, h1, hi1, e1⟩
     · exact .inl (e ▸ h1)
     · exact .inr ⟨b1, i1, h1, hi1, e1.trans e⟩
 · intro r hr hn
   rw [b.frame r (Nat.lt_of_lt_of_le hr a.size) ?_, a.frame r hr hn]
   intro x i hx hi e
   rcases a.own x i hx hi with h1 | ⟨b0, i0, h0, hi0, e0⟩
   · omega
   · exact hn b0 i0 h0 hi0 (e0.trans e)
theorem ER.mono {φ ψ : Phi} (hle : φ.le ψ) {env : T AV} {n : Nat} {tmps : Array Value} (h : ER φ env n tmps) : ER ψ env n tmps :=
 ⟨h.1, fun t v hv => let ⟨h1, v', h2, h3⟩ := h.2 t v hv; ⟨h1, v', h2, h3.mono hle⟩⟩
theorem MR.mono {φ ψ : Phi} (hle : φ.le ψ) {es : List (AV × AV)} {clk : Nat} {es' : List MapEntry} (h : MR φ es clk es') : MR ψ es clk es' := by
 obtain ⟨l, h1, h2, h3, h4, h5⟩ := h
 refine ⟨l, h1, h2, fun i x hx => ?_, h4, h5⟩
 obtain ⟨e, h6, h7, h8, h9, h10⟩ := h3 i x hx
 exact ⟨e, h6, h7, h8.mono hle, h9.mono hle, h10⟩
theorem OR.move {φ ψ : Phi} (hle : φ.le ψ) {o : AObj} {i : RI} {w w' : World} (hb : w'.heap[i.blk]? = w.heap[i.blk]?)
 (hm : ∀ m clk, o = .miter (some m) clk false → ∀ im, φ m = some im → ∀ es' c', w'.heap[im.blk]? = some (.map es' c') → ∃ es c, w.heap[im.blk]? = some (.map es c) ∧ c ≤ c' ∧ (c' = c → ∀ e ∈ es', ∃ e0 ∈ es, e.born = e0.born))
 (h : OR φ o i w) : OR ψ o i w' := by
 cases o with
 | cells n t =>
   obtain ⟨c, elem, fr, h1, h2, h3, h4, h5⟩ := h
   refine ⟨c, elem, fr, hb.trans h1, h2, h3, h4, fun k hk => ?_⟩
   obtain ⟨v, v', h6, h7, h8, h9⟩ := h5 k hk
   exact ⟨v, v', h6, h7, h8.mono hle, h9⟩
 | map es clk =>
   obtain ⟨es', h1, h2⟩ := h
   exact ⟨es', hb.trans h1, h2.mono hle⟩
 | miter m clk left =>
   cases m with
   | none => exact ⟨h.1, hb.trans h.2⟩
   | some m =>
     obtain ⟨im, seen, stepped, h0, h1, h2, h3, h4⟩ := h
     refine ⟨im, seen, stepped, h0, hle _ _ h1, hb.trans h2, h3, fun hl => ?_⟩
     obtain ⟨h5, b, h6, h7⟩ := h4 hl
     refine ⟨h5, b, h6, fun es' c' he => ?_⟩
     obtain ⟨es, c, k1, k2, k3⟩ := hm m clk (by rw [hl]) im h1 es' c' he
     obtain ⟨h8, h9⟩ := h7 es c k1
     refine ⟨Nat.le_trans h8 k2, fun hc e hem => ?_⟩
     have hcc : c' = c := by omega
     obtain ⟨e0, he0, hb0⟩ := k3 hcc e hem
     rw [hb0]
     exact h9 (by omega) e0 he0
 | siter s pos =>
   obtain ⟨s', h1, h2⟩ := h
   exact ⟨s', h1, hb.trans h2⟩
 | loop st pending env size params assign body defers =>
   obtain ⟨tmps, id, fn, h1, h2, h3⟩ := h
   exact ⟨tmps, id, fn, hle _ _ h1, hb.trans h2, h3.mono hle⟩
 | deferred open_ => exact hb.trans h
theorem OR.keep {φ ψ : Phi} (hle : φ.le ψ) {o : AObj} {i : RI} {w w' : World} (hb : w'.heap[i.blk]? = w.heap[i.blk]?)
 (hm : ∀ r es' c', w'.heap[r]? = some (.map es' c') → w.heap[r]? = some (.map es' c') ∨ w.heap.size ≤ r) (hd : ∀ m clk im, o = .miter (some m) clk false → φ m = some im → im.blk < w.heap.size)
 (h : OR φ o i w) : OR ψ o i w' := by
 refine OR.move hle hb (fun m clk ho im him es' c' he => ?_) h
 rcases hm _ es' c' he with h1 | h1
 · exact ⟨es', c', h1, Nat.le_refl _, fun _ e he => ⟨e, he, rfl⟩⟩
 · have := hd m clk im ho him; omega
end Go.Ev
end
section
namespace Go.Ev
open Go.RowKit
def Phi.put (φ : Phi) (b : Nat) (i : RI) : Phi := ⟨fun x => if x = b then some i else φ x, φ.res⟩
theorem Phi.put_eq {φ : Phi} {b : Nat} {i : RI} : φ.put b i b = some i := by simp [Phi.put]
theorem Phi.put_ne {φ : Phi} {b x : Nat} {i : RI} (h : x ≠ b) : φ.put b i x = φ x := by simp [Phi.put, h]
theorem Phi.le_put {φ : Phi} {b : Nat} {i : RI} (h : φ b = none) : φ.le (φ.put b i) := fun x j hx => by
 by_cases e : x = b
 · subst e; rw [h] at hx; cases hx
 · rw [Phi.put_ne e]; exact hx
section
variable {φ : Phi} {h : Hp} {nx : Nat} {w : World}
theorem WR.none_of (H : WR φ h nx w) {b : Nat} (hb : nx ≤ b) : h.get b = none := by
 cases hg : h.get b with
 | none => rfl
 | some o =>
   obtain ⟨i, hi, _⟩ := H.obj b o hg
   rw [H.fresh b hb] at hi; cases hi
theorem WR.not_res (H : WR φ h nx w) : ¬ φ.res nx := fun hr => Nat.lt_irrefl _ (H.hi nx hr)
theorem OR.of_heap {φ : Phi} {o : AObj} {i : RI} {w w' : World} (e : w'.heap = w.heap) (H : OR φ o i w) : OR φ o i w' :=
 OR.move (Phi.le_refl φ) (by rw [e]) (fun m clk _ im _ es' c' he => ⟨es', c', by rw [← e]; exact he, Nat.le_refl _, fun _ x hx => ⟨x, hx, rfl⟩⟩) H
theorem WR.of_heap {w' : World} (e : w'.heap = w.heap) (H : WR φ h nx w) : WR φ h nx w' :=
 ⟨fun b o hb => let ⟨i, h1, h2⟩ := H.obj b o hb; ⟨i, h1, h2.of_heap e⟩, H.inj, H.fresh, fun b i hb => by rw [e]; exact H.dom b i hb, H.low, H.hi⟩
theorem Stp.drew (φ : Phi) (h : Hp) (w : World) : Stp φ h w φ h { w with drawn := w.drawn + 1 } :=
 ⟨Phi.le_refl φ, rfl, Nat.le_refl _, rfl, rfl, rfl, fun b i hb hi => .inr ⟨b, i, hb, hi, rfl⟩, fun _ _ _ => rfl⟩
theorem WR.newA (H : WR φ h nx w) {m : Nat} (hm : φ m = none) (hmr : ¬ φ.res m) (o : AObj) (o' : Obj) (size : Nat)
 (ho : ∀ w' : World, w'.heap = w.heap.push o' → OR (φ.put m ⟨w.heap.size, 0, size⟩) o ⟨w.heap.size, 0, size⟩ w') :
 WR (φ.put m ⟨w.heap.size, 0, size⟩) (h.put m o) (max nx (m + 1)) (w.alloc o') ∧ Stp φ h w (φ.put m ⟨w.heap.size, 0, size⟩) (h.put m o) (w.alloc o') := by
 have hle : φ.le (φ.put m ⟨w.heap.size, 0, size⟩) := Phi.le_put hm
 have hheap : (w.alloc o').heap = w.heap.push o' := rfl
 have hold : ∀ r, r < w.heap.size → (w.alloc o').heap[r]? = w.heap[r]? := fun r hr => Below.heap_alloc w o' r hr
 have hnot : ∀ b o, h.get b = some o → b ≠ m := fun b o hb e => by
  obtain ⟨i, hi, _⟩ := H.obj b o hb
  rw [e, hm] at hi; cases hi
 refine ⟨⟨?_, ?_, ?_, ?_, fun b hb => by rw [Phi.put_ne (fun e => hmr (by rw [← e]; exact hb))]; exact H.low b hb, fun b hb => Nat.lt_of_lt_of_le (H.hi b hb) (Nat.le_max_left _ _)⟩, ⟨hle, rfl, ?_, rfl, rfl, rfl, ?_, fun r hr _ => hold r hr⟩⟩
 · intro b ob hb
   by_cases e : b = m
   · subst e
     rw [T.get_put_eq] at hb
     injection hb with hb
     subst hb
     exact ⟨_, Phi.put_eq, ho _ hheap⟩
   · rw [T.get_put_ne _ _ e] at hb
     obtain ⟨i, h1, h2⟩ := H.obj b ob hb
     refine ⟨i, hle _ _ h1, h2.keep hle (hold _ (H.dom _ _ h1)) ?_ (fun m clk im _ hm => H.dom _ _ hm)⟩
     intro r es' c' hr
     by_cases hlt : r < w.heap.size
     · rw [hold r hlt] at hr; exact .inl hr
     · exact .inr (by omega)
 · intro b b' i i' hb hb' hi hi' e
   by_cases e1 : b = m <;> by_cases e2 : b' = m
   · rw [e1, e2]
   · subst e1
     rw [Phi.put_eq] at hi; rw [Phi.put_ne e2] at hi'
     have := H.dom _ _ hi'
     injection hi with hi; subst hi
     simp at e; omega
   · subst e2
     rw [Phi.put_eq] at hi'; rw [Phi.put_ne e1] at hi
     have := H.dom _ _ hi
     injection hi' with hi'; subst hi'
     simp at e; omega
   · rw [T.get_put_ne _ _ e1] at hb; rw [T.get_put_ne _ _ e2] at hb'
     rw [Phi.put_ne e1] at hi; rw [Phi.put_ne e2] at hi'
     exact H.inj b b' i i' hb hb' hi hi' e
 · intro b hb
   have h1 : nx ≤ b := Nat.le_trans (Nat.le_max_left _ _) hb
   have h2 : m + 1 ≤ b := Nat.le_trans (Nat.le_max_right _ _) hb
   rw [Phi.put_ne (by omega)]
   exact H.fresh b h1
 · intro b i hb
   rw [hheap, Array.size_push]
   by_cases e : b = m
   · subst e; rw [Phi.put_eq] at hb; injection hb with hb; subst hb; exact Nat.lt_succ_self _
   · rw [Phi.put_ne e] at hb; have := H.dom _ _ hb; omega
 · rw [hheap, Array.size_push]; omega
 · intro b i hb hi
   by_cases e : b = m
   · subst e; rw [Phi.put_eq] at hi; injection hi with hi; subst hi; exact .inl (Nat.le_refl _)
   · rw [Phi.put_ne e] at hi; rw [T.get_put_ne _ _ e] at hb
     exact .inr ⟨b, i, hb, hi, rfl⟩
theorem WR.new (H : WR φ h nx w) (o : AObj) (o' : Obj) (size : Nat)
 (ho : ∀ w' : World, w'.heap = w.heap.push o' → OR (φ.put nx ⟨w.heap.size, 0, size⟩) o ⟨w.heap.size, 0, size⟩ w') :
 WR (φ.put nx ⟨w.heap.size, 0, size⟩) (h.put nx o) (nx + 1) (w.alloc o') ∧ Stp φ h w (φ.put nx ⟨w.heap.size, 0, size⟩) (h.put nx o) (w.alloc o') := by
 have := H.newA (H.fresh nx (Nat.le_refl _)) H.not_res o o' size ho
 rwa [Nat.max_eq_right (Nat.le_succ nx)] at this
theorem WR.newCellsA (H : WR φ h nx w) {m : Nat} (hm : φ m = none) (hmr : ¬ φ.res m) {l : List AV} {l' junk : List Value} (hl : VRL φ l l') (hs : ∀ v ∈ l, v.scalar = true) (elem : TypeId) :
 ∃ ψ, WR ψ (h.put m (.cells l.length (T.fill l .lf 0))) (max nx (m + 1)) (w.alloc (.cells ⟨l' ++ junk⟩ elem)) ∧ Stp φ h w ψ (h.put m (.cells l.length (T.fill l .lf 0))) (w.alloc (.cells ⟨l' ++ junk⟩ elem)) ∧
  ψ m = some ⟨w.heap.size, 0, l'.length + junk.length⟩ := by
 refine ⟨φ.put m ⟨w.heap.size, 0, l'.length + junk.length⟩, ?_⟩
 have hle : φ.le (φ.put m ⟨w.heap.size, 0, l'.length + junk.length⟩) := Phi.le_put hm
 have := H.newA hm hmr (.cells l.length (T.fill l .lf 0)) (.cells ⟨l' ++ junk⟩ elem) (l'.length + junk.length) (fun w' hw => by
  refine ⟨⟨l' ++ junk⟩, elem, (0, 0), by rw [hw]; simp, by simp, by simp [hl.length], .inl rfl, fun k hk => ?_⟩
  obtain ⟨v, hv⟩ : ∃ v, l[k]? = some v := ⟨l[k], by simp [hk]⟩
  obtain ⟨v', h1, h2⟩ := hl.get k v hv
  have hlt : k < l'.length := by rw [← hl.length]; exact hk
  refine ⟨v, v', ?_, by simpa [List.getElem?_append, hlt] using h1, h2.mono hle, ?_⟩
  · rw [T.get_fill, if_pos (by omega)]; simpa using hv
  · rw [h2.scalar_eq]; exact hs v (List.mem_of_getElem? hv))
 exact ⟨this.1, this.2, Phi.put_eq⟩
theorem WR.newCells' (H : WR φ h nx w) {l : List AV} {l' junk : List Value} (hl : VRL φ l l') (hs : ∀ v ∈ l, v.scalar = true) (elem : TypeId) :
 ∃ ψ, WR ψ (h.put nx (.cells l.length (T.fill l .lf 0))) (nx + 1) (w.alloc (.cells ⟨l' ++ junk⟩ elem)) ∧ Stp φ h w ψ (h.put nx (.cells l.length (T.fill l .lf 0))) (w.alloc (.cells ⟨l' ++ junk⟩ elem)) ∧
  ψ nx = some ⟨w.heap.size, 0, l'.length + junk.length⟩ := by
 have := H.newCellsA (H.fresh nx (Nat.le_refl _)) H.not_res (junk := junk) hl hs elem
 rwa [Nat.max_eq_right (Nat.le_succ nx)] at this
theorem WR.newCells (H : WR φ h nx w) {l : List AV} {l' : List Value} (hl : VRL φ l l') (hs : ∀ v ∈ l, v.scalar = true) (elem : TypeId) :
 ∃ ψ, WR ψ (h.put nx (.cells l.length (T.fill l .lf 0))) (nx + 1) (w.alloc (.cells ⟨l'⟩ elem)) ∧ Stp φ h w ψ (h.put nx (.cells l.length (T.fill l .lf 0))) (w.alloc (.cells ⟨l'⟩ elem)) ∧
  ψ nx = some ⟨w.heap.size, 0, l'.length⟩ := by
 have := H.newCells' (junk := []) hl hs elem
 simpa using this
theorem WR.cell (H : WR φ h nx w) {b n k : Nat} {t : T AV} (hb : h.get b = some (.cells n t)) (hk : k < n) :
 ∃ i v v', φ b = some i ∧ t.get k = some v ∧ w.cell? ⟨i.blk, i.off + k, none⟩ = some v' ∧ VR φ v v' ∧ scalar v' = true ∧ w.frozen? ⟨i.blk, i.off + k, none⟩ = false ∧ i.off + n ≤ i.size := by
 obtain ⟨i, hi, c, elem, fr, h1, h2, h3, h4, h5⟩ := H.obj _ _ hb
 obtain ⟨v, v', h6, h7, h8, h9⟩ := h5 k hk
 refine ⟨i, v, v', hi, h6, ?_, h8, h9, ?_, h3⟩
 · simp [World.cell?, h1, h7]
 · simp only [World.frozen?, h1]
   obtain ⟨lo, hi2⟩ := fr
   rcases h4 with h4 | h4
   · simp at h4; subst h4; simp; try omega
   · simp at h4; simp; try omega
theorem WR.setCell (H : WR φ h nx w) {b n k : Nat} {t : T AV} {i : RI} {v : AV} {v' : Value} (hb : h.get b = some (.cells n t)) (hk : k < n) (hi : φ b = some i) (hv : VR φ v v') (hs : v.scalar = true) :
 WR φ (h.put b (.cells n (t.put k v))) nx (w.setCell ⟨i.blk, i.off + k, none⟩ v') ∧
 Stp φ h w φ (h.put b (.cells n (t.put k v))) (w.setCell ⟨i.blk, i.off + k, none⟩ v') := by
 obtain ⟨i', hi', c, elem, fr, h1, h2, h3, h4, h5⟩ := H.obj _ _ hb
 rw [hi] at hi'; injection hi' with hi'; subst hi'
 have hsz : (w.setCell ⟨i.blk, i.off + k, none⟩ v').heap.size = w.heap.size := by simp [World.setCell]
 have hne : ∀ r, r ≠ i.blk → (w.setCell ⟨i.blk, i.off + k, none⟩ v').heap[r]? = w.heap[r]? := fun r hr => Below.heap_setCell w ⟨i.blk, i.off + k, none⟩ v' r hr
 have hat : (w.setCell ⟨i.blk, i.off + k, none⟩ v').heap[i.blk]? = some (.cells (c.setIfInBounds (i.off + k) v') elem fr) := by
  simp [World.setCell, Array.getElem?_modify, h1]
 have hmap : ∀ r es' c', (w.setCell ⟨i.blk, i.off + k, none⟩ v').heap[r]? = some (.map es' c') → w.heap[r]? = some (.map es' c') ∨ w.heap.size ≤ r := by
  intro r es' c' hr
  by_cases e : r = i.blk
  · subst e; rw [hat] at hr; cases hr
  · rw [hne r e] at hr; exact .inl hr
 refine ⟨⟨?_, ?_, H.fresh, fun b i hb => by rw [hsz]; exact H.dom b i hb, H.low, H.hi⟩, ⟨Phi.le_refl φ, rfl, by rw [hsz]; exact Nat.le_refl _, rfl, rfl, rfl, ?_, ?_⟩⟩
 · intro b2 o2 hb2
   by_cases e : b2 = b
   · subst e
     rw [T.get_put_eq] at hb2; injection hb2 with hb2; subst hb2
     refine ⟨i, hi, c.setIfInBounds (i.off + k) v', elem, fr, hat, by simp [h2], h3, h4, fun k2 hk2 => ?_⟩
     by_cases e2 : k2 = k
     · subst e2
       refine ⟨v, v', T.get_put_eq _ _ _, ?_, hv, by rw [hv.scalar_eq, hs]⟩
       rw [Array.getElem?_setIfInBounds, if_pos rfl, if_pos (by omega)]
     · obtain ⟨u, u', h6, h7, h8, h9⟩ := h5 k2 hk2
       refine ⟨u, u', by rw [T.get_put_ne _ _ e2, h6], ?_, h8, h9⟩
       rw [Array.getElem?_setIfInBounds, if_neg (by omega), h7]
   · rw [T.get_put_ne _ _ e] at hb2
     obtain ⟨i2, hi2, ho2⟩ := H.obj _ _ hb2
     have hn : i2.blk ≠ i.blk := fun e3 => e (H.inj b2 b i2 i (by rw [hb2]; rfl) (by rw [hb]; rfl) hi2 hi e3)
     exact ⟨i2, hi2, ho2.keep (Phi.le_refl φ) (hne _ hn) hmap (fun m clk im _ hm => H.dom _ _ hm)⟩
 · intro b1 b2 i1 i2 hb1 hb2
   refine H.inj b1 b2 i1 i2 ?_ ?_
   · by_cases e : b1 = b
     · subst e; rw [hb]; rfl
     · rw [T.get_put_ne _ _ e] at hb1; exact hb1
   · by_cases e : b2 = b
     · subst e; rw [hb]; rfl
     · rw [T.get_put_ne _ _ e] at hb2; exact hb2
 · intro b2 i2 hb2 hi2
   refine .inr ⟨b2, i2, ?_, hi2, rfl⟩
   by_cases e : b2 = b
   · subst e; rw [hb]; rfl
   · rw [T.get_put_ne _ _ e] at hb2; exact hb2
 · intro r _ hr
   exact hne r (fun e => hr b i (by rw [hb]; rfl) hi e.symm)
theorem WR.setObj (H : WR φ h nx w) {b : Nat} {i : RI} {o : AObj} {o' : Obj} (hi : φ b = some i) (hb : (h.get b).isSome)
 (ho : ∀ w' : World, w'.heap = w.heap.setIfInBounds i.blk o' → OR φ o i w')
 (hm : ∀ es' c', o' = .map es' c' → ∃ es c, w.heap[i.blk]? = some (.map es c) ∧ c ≤ c' ∧ (c' = c → ∀ e ∈ es', ∃ e0 ∈ es, e.born = e0.born)) :
 WR φ (h.put b o) nx { w with heap := w.heap.setIfInBounds i.blk o' } ∧ Stp φ h w φ (h.put b o) { w with heap := w.heap.setIfInBounds i.blk o' } := by
 have hlt : i.blk < w.heap.size := H.dom _ _ hi
 have hne : ∀ r, r ≠ i.blk → (w.heap.setIfInBounds i.blk o')[r]? = w.heap[r]? := fun r hr => by rw [Array.getElem?_setIfInBounds, if_neg (fun e => hr e.symm)]
 have hat : (w.heap.setIfInBounds i.blk o')[i.blk]? = some o' := by rw [Array.getElem?_setIfInBounds, if_pos rfl, if_pos hlt]
 refine ⟨⟨?_, ?_, H.fresh, fun b i hb => by simpa using H.dom b i hb, H.low, H.hi⟩, ⟨Phi.le_refl φ, rfl, by simp, rfl, rfl, rfl, ?_, ?_⟩⟩
 · intro b2 o2 hb2
   by_cases e : b2 = b
   · subst e
     rw [T.get_put_eq] at hb2; injection hb2 with hb2; subst hb2
     exact ⟨i, hi, ho _ rfl⟩
   · rw [T.get_put_ne _ _ e] at hb2
     obtain ⟨i2, hi2, ho2⟩ := H.obj _ _ hb2
     have hn : i2.blk ≠ i.blk := fun e3 => e (H.inj b2 b i2 i (by rw [hb2]; rfl) hb hi2 hi e3)
     refine ⟨i2, hi2, ho2.move (Phi.le_refl φ) (hne _ hn) (fun m clk _ im him es' c' he => ?_)⟩
     by_cases e3 : im.blk = i.blk
     · rw [e3] at he ⊢
       simp only [hat] at he
       injection he with he
       exact hm es' c' he
     · simp only [hne _ e3] at he
       exact ⟨es', c', he, Nat.le_refl _, fun _ e he => ⟨e, he, rfl⟩⟩
 · intro b1 b2 i1 i2 hb1 hb2
   refine H.inj b1 b2 i1 i2 ?_ ?_
   · by_cases e : b1 = b
     · subst e; exact hb
     · rw [T.get_put_ne _ _ e] at hb1; exact hb1
   · by_cases e : b2 = b
     · subst e; exact hb
     · rw [T.get_put_ne _ _ e] at hb2; exact hb2
 · intro b2 i2 hb2 hi2
   refine .inr ⟨b2, i2, ?_, hi2, rfl⟩
   by_cases e : b2 = b
   · subst e; exact hb
   · rw [T.get_put_ne _ _ e] at hb2; exact hb2
 · intro r _ hr
   exact hne r (fun e => hr b i hb hi e.symm)
theorem WR.forget (H : WR φ h nx w) (b : Nat) : WR φ (h.set b none) nx w ∧ Stp φ h w φ (h.set b none) w := by
 have hg : ∀ x, ((h.set b none).get x).isSome → (h.get x).isSome := by
  intro x hx
  rw [T.get_set] at hx
  by_cases e : x = b
  · rw [if_pos e] at hx; cases hx
  · rw [if_neg e] at hx; exact hx
 refine ⟨⟨fun x o hx => ?_, fun b1 b2 i1 i2 h1 h2 => H.inj b1 b2 i1 i2 (hg _ h1) (hg _ h2), H.fresh, H.dom, H.low, H.hi⟩, ⟨Phi.le_refl φ, rfl, Nat.le_refl _, rfl, rfl, rfl, fun x i hx hi => .inr ⟨x, i, hg _ hx, hi, rfl⟩, fun _ _ _ => rfl⟩⟩
 rw [T.get_set] at hx
 by_cases e : x = b
 · rw [if_pos e] at hx; cases hx
 · rw [if_neg e] at hx; exact H.obj x o hx
end
end Go.Ev
end
section
namespace Go.Ev
open Go.RowKit
theorem addr_add (b o n : Nat) : (⟨b, o, none⟩ : Addr).add n = ⟨b, o + n, none⟩ := by
 unfold Addr.add
 split
 · rename_i h; subst h; simp
 · rfl
theorem WR.congr {φ : Phi} {h h' : Hp} {nx : Nat} {w : World} (e : ∀ b, h'.get b = h.get b) (H : WR φ h nx w) : WR φ h' nx w :=
 ⟨fun b o hb => H.obj b o (by rw [← e]; exact hb), fun b b' i i' hb hb' => H.inj b b' i i' (by rw [← e]; exact hb) (by rw [← e]; exact hb'), H.fresh, H.dom, H.low, H.hi⟩
theorem Stp.congr {φ ψ : Phi} {h h' h'' : Hp} {w w' : World} (e : ∀ b, h''.get b = h'.get b) (S : Stp φ h w ψ h' w') : Stp φ h w ψ h'' w' :=
 ⟨S.ext, S.res, S.size, S.os, S.tape, S.output, fun b i hb hi => S.own b i (by rw [← e]; exact hb) hi, S.frame⟩
section
variable {P : Program} {φ : Phi} {h : Hp} {nx : Nat} {w : World}
theorem run_load {a : Addr} {v : Value} (hc : w.cell? a = some v) : (load a).run P w = .ok v w := by
 simp [load, Sem.run, hc]
theorem run_store {a : Addr} {u v : Value} (hc : w.cell? a = some u) (hf : w.frozen? a = false) (hs : scalar v = true) : (store a v).run P w = .ok () (w.setCell a v) := by
 cases v <;> simp_all [store, Sem.run, scalar]
theorem run_loadCellsFrom (b o : Nat) : ∀ (n i : Nat) (acc : Array Value) (l : List Value), l.length = n → (∀ k v, l[k]? = some v → w.cell? ⟨b, o + (i + k), none⟩ = some v) →
 (loadCellsFrom ⟨b, o, none⟩ i n acc).run P w = .ok (acc ++ l.toArray) w := by
 intro n
 induction n with
 | zero => intro i acc l hl _; cases l with
   | nil => simp [loadCellsFrom]
   | cons _ _ => simp at hl
 | succ n ih =>
   intro i acc l hl hc
   cases l with
   | nil => simp at hl
   | cons v l =>
     have h0 := hc 0 v rfl
     simp only [loadCellsFrom, Sem.run_bind, addr_add]
     rw [run_load (v := v) (by simpa using h0)]
     simp only [Result.andThen_ok]
     rw [ih (i + 1) (acc.push v) l (by simpa using hl) (fun k u hk => by rw [show i + 1 + k = i + (k + 1) by omega]; exact hc (k + 1) u (by simpa using hk))]
     simp
theorem WR.takeCells (H : WR φ h nx w) {b n k m : Nat} {t : T AV} {l : List AV} (hb : h.get b = some (.cells n t)) (hkm : k + m ≤ n) (hl : t.take m k = some l) :
 ∃ i l', φ b = some i ∧ VRL φ l l' ∧ l'.length = m ∧ (∀ v ∈ l, v.scalar = true) ∧ i.off + n ≤ i.size ∧ ∀ j v, l'[j]? = some v → w.cell? ⟨i.blk, i.off + (k + j), none⟩ = some v ∧ w.frozen? ⟨i.blk, i.off + (k + j), none⟩ = false := by
 obtain ⟨i, hi, c, elem, fr, h1, h2, h3, h4, h5⟩ := H.obj _ _ hb
 obtain ⟨hlen, hget⟩ := T.take_some hl
 refine ⟨i, (List.range m).map fun j => (c[i.off + (k + j)]?).getD undef, hi, ?_, by simp, ?_, h3, ?_⟩
 · refine VRL.of_get (by simp [hlen]) fun j v hj => ?_
   have hjm : j < m := by
    have := (List.getElem?_eq_some_iff.1 hj).1; omega
   obtain ⟨u, u', h6, h7, h8, _⟩ := h5 (k + j) (by omega)
   rw [hget j hjm, hj] at h6
   injection h6 with h6; subst h6
   refine ⟨u', ?_, h8⟩
   simp [hjm, h7]
 · intro v hv
   obtain ⟨j, hj⟩ := List.getElem?_of_mem hv
   have hjm : j < m := by
    have := (List.getElem?_eq_some_iff.1 hj).1; omega
   obtain ⟨u, u', h6, h7, h8, h9⟩ := h5 (k + j) (by omega)
   rw [hget j hjm, hj] at h6
   injection h6 with h6; subst h6
   rw [← h8.scalar_eq, h9]
 · intro j v hj
   have hjm : j < m := by
    have := (List.getElem?_eq_some_iff.1 hj).1; simpa using this
   obtain ⟨u, u', h6, h7, h8, _⟩ := h5 (k + j) (by omega)
   obtain ⟨i2, v2, v2', g1, g2, g3, g4, g5, g6, g7⟩ := H.cell hb (show k + j < n by omega)
   rw [hi] at g1; injection g1 with g1; subst g1
   refine ⟨?_, g6⟩
   rw [g3]
   simp only [List.getElem?_map, List.getElem?_range hjm, Option.map_some, h7, Option.getD_some] at hj
   simp only [World.cell?, h1, Option.isSome_none, Bool.false_eq_true, if_false, h7] at g3
   rw [← hj, g3]
theorem cell?_of_heap {w w2 : World} (e : w2.heap = w.heap) (a : Addr) : w2.cell? a = w.cell? a := by simp only [World.cell?, e]
theorem run_loadCellsA (H : WR φ h nx w) {b n k m : Nat} {t : T AV} {l : List AV} (hb : h.get b = some (.cells n t)) (hkm : k + m ≤ n) (hl : t.take m k = some l) :
 ∃ i l', φ b = some i ∧ VRL φ l l' ∧ (∀ v ∈ l, v.scalar = true) ∧ ∀ w2 : World, w2.heap = w.heap → (loadCells ⟨i.blk, i.off + k, none⟩ m).run P w2 = .ok ⟨l'⟩ w2 := by
 obtain ⟨i, l', h1, h2, h3, h4, _, h5⟩ := H.takeCells hb hkm hl
 refine ⟨i, l', h1, h2, h4, fun w2 hw2 => ?_⟩
 rw [loadCells, run_loadCellsFrom (P := P) _ _ m 0 #[] l' h3 (fun j v hj => by rw [show i.off + k + (0 + j) = i.off + (k + j) by omega, cell?_of_heap hw2]; exact (h5 j v hj).1)]
 simp
theorem run_loadCells (H : WR φ h nx w) {b n k m : Nat} {t : T AV} {l : List AV} (hb : h.get b = some (.cells n t)) (hkm : k + m ≤ n) (hl : t.take m k = some l) :
 ∃ i l', φ b = some i ∧ VRL φ l l' ∧ (∀ v ∈ l, v.scalar = true) ∧ (loadCells ⟨i.blk, i.off + k, none⟩ m).run P w = .ok ⟨l'⟩ w :=
 let ⟨i, l', h1, h2, h3, h4⟩ := run_loadCellsA (P := P) H hb hkm hl
 ⟨i, l', h1, h2, h3, h4 w rfl⟩
theorem run_storeCells (b : Nat) : ∀ (l : List AV) (l' : List Value) (h : Hp) (w : World) (n : Nat) (t : T AV) (i : RI) (o k j : Nat), WR φ h nx w → h.get b = some (.cells n t) → φ b = some i → VRL φ l l' → (∀ v ∈ l, v.scalar = true) → k + l.length ≤ n → i.off + k = o + j →
 ∃ w', (storeCells ⟨i.blk, o, none⟩ l' j).run P w = .ok () w' ∧ WR φ (h.put b (.cells n (T.fill l t k))) nx w' ∧ Stp φ h w φ (h.put b (.cells n (T.fill l t k))) w' := by
 intro l
 induction l with
 | nil =>
   intro l' h w n t i o k j H hb hi hl _ _ _
   cases hl
   have e : ∀ x, (h.put b (.cells n (T.fill [] t k))).get x = h.get x := by
    intro x
    by_cases hx : x = b
    · subst hx; rw [T.get_put_eq, T.fill_nil, hb]
    · rw [T.get_put_ne _ _ hx]
   exact ⟨w, rfl, H.congr e, (Stp.refl φ h w).congr e⟩
 | cons v l ih =>
   intro l' h w n t i o k j H hb hi hl hs hk hj
   cases hl with
   | @cons _ v' _ l' hv ht =>
     obtain ⟨i2, u, u', g1, g2, g3, g4, g5, g6, g7⟩ := H.cell hb (show k < n by simp at hk; omega)
     rw [hi] at g1; injection g1 with g1; subst g1
     have hvs : v.scalar = true := hs v (List.mem_cons_self ..)
     obtain ⟨H1, S1⟩ := H.setCell hb (show k < n by simp at hk; omega) hi hv hvs
     obtain ⟨w', r1, r2, r3⟩ := ih l' (h.put b (.cells n (t.put k v))) (w.setCell ⟨i.blk, i.off + k, none⟩ v') n (t.put k v) i o (k + 1) (j + 1) H1 (T.get_put_eq _ _ _) hi ht (fun x hx => hs x (List.mem_cons_of_mem _ hx)) (by simp at hk; omega) (by omega)
     have e : ∀ x, (h.put b (.cells n (T.fill (v :: l) t k))).get x = ((h.put b (.cells n (t.put k v))).put b (.cells n (T.fill l (t.put k v) (k + 1)))).get x := by
      intro x
      by_cases hx : x = b
      · subst hx; rw [T.get_put_eq, T.get_put_eq, T.fill_cons]
      · rw [T.get_put_ne _ _ hx, T.get_put_ne _ _ hx, T.get_put_ne _ _ hx]
     refine ⟨w', ?_, r2.congr e, (S1.trans r3).congr e⟩
     simp only [storeCells, Sem.run_bind, addr_add]
     rw [← hj, run_store g3 g6 (by rw [hv.scalar_eq, hvs])]
     simp only [Result.andThen_ok]
     exact r1
theorem run_storeRaw (b o : Nat) (elem : TypeId) (fr : Nat × Nat) : ∀ (l' : List Value) (w : World) (c : Array Value) (j : Nat), w.heap[b]? = some (.cells c elem fr) → (fr.1 = fr.2 ∨ c.size ≤ fr.1) → (∀ v ∈ l', scalar v = true) → o + j + l'.length ≤ c.size →
 ∃ c', (storeCells ⟨b, o, none⟩ l' j).run P w = .ok () { w with heap := w.heap.setIfInBounds b (.cells c' elem fr) } ∧ c'.size = c.size ∧ ∀ x, c'[x]? = if o + j ≤ x ∧ x < o + j + l'.length then l'[x - (o + j)]? else c[x]? := by
 intro l'
 induction l' with
 | nil =>
   intro w c j hb _ _ _
   refine ⟨c, ?_, rfl, fun x => by rw [if_neg (by simp)]⟩
   have : w.heap.setIfInBounds b (.cells c elem fr) = w.heap := by
    apply Array.ext_getElem?
    intro x
    rw [Array.getElem?_setIfInBounds]
    split
    · rename_i e; subst e
      split
      · exact hb.symm
      · rename_i hx; rw [Array.getElem?_eq_none (by omega)]
    · rfl
   rw [this]; rfl
 | cons v l' ih =>
   intro w c j hb hf hs hn
   simp only [List.length_cons] at hn
   have hlt : o + j < c.size := by omega
   have hbl : b < w.heap.size := (Array.getElem?_eq_some_iff.1 hb).1
   have hcell : w.cell? ⟨b, o + j, none⟩ = some c[o + j] := by simp [World.cell?, hb, hlt]
   have hfz : w.frozen? ⟨b, o + j, none⟩ = false := by
    simp only [World.frozen?, hb]
    obtain ⟨lo, hi⟩ := fr
    rcases hf with hf | hf
    · simp at hf; subst hf; simp; try omega
    · simp at hf; simp; try omega
   have hset : w.setCell ⟨b, o + j, none⟩ v = { w with heap := w.heap.setIfInBounds b (.cells (c.setIfInBounds (o + j) v) elem fr) } := by
    unfold World.setCell
    congr 1
    apply Array.ext_getElem?
    intro x
    rw [Array.getElem?_modify, Array.getElem?_setIfInBounds]
    by_cases e : b = x
    · subst e; rw [if_pos rfl, if_pos rfl, if_pos hbl, hb]; rfl
    · simp [e]
   obtain ⟨c', r1, r2, r3⟩ := ih (w.setCell ⟨b, o + j, none⟩ v) (c.setIfInBounds (o + j) v) (j + 1) (by rw [hset]; simp [hbl]) (by simpa using hf) (fun x hx => hs x (List.mem_cons_of_mem _ hx)) (by simp; omega)
   refine ⟨c', ?_, by simpa using r2, fun x => ?_⟩
   · simp only [storeCells, Sem.run_bind, addr_add]
     rw [run_store hcell hfz (hs v (List.mem_cons_self ..))]
     simp only [Result.andThen_ok]
     rw [r1, hset]
     simp
   · rw [r3 x]
     by_cases h1 : o + (j + 1) ≤ x ∧ x < o + (j + 1) + l'.length
     · rw [if_pos h1, if_pos (by simp; omega)]
       obtain ⟨d, hd⟩ : ∃ d, x - (o + j) = d + 1 := ⟨x - (o + j) - 1, by omega⟩
       rw [hd, show x - (o + (j + 1)) = d by omega]; rfl
     · rw [if_neg h1, Array.getElem?_setIfInBounds]
       by_cases h2 : o + j = x
       · rw [if_pos h2, if_pos (by omega), if_pos (by simp; omega)]
         subst h2; simp
       · rw [if_neg h2, if_neg (by simp; omega)]
theorem WR.regrow (H : WR φ h nx w) {b n : Nat} {t : T AV} {i : RI} (hb : h.get b = some (.cells n t)) (hi : φ b = some i) {l : List AV} {o : Nat} {elem : TypeId} {fr : Nat × Nat} {c' : Array Value}
 (hc : c'.size = i.size) (hfr : fr.1 = fr.2 ∨ i.size ≤ fr.1) (ho : o + l.length ≤ i.size)
 (hl : ∀ k v, l[k]? = some v → ∃ v', c'[o + k]? = some v' ∧ VR φ v v' ∧ v.scalar = true) :
 ∃ ψ, WR ψ ((h.set b none).put nx (.cells l.length (T.fill l .lf 0))) (nx + 1) { w with heap := w.heap.setIfInBounds i.blk (.cells c' elem fr) } ∧
  Stp φ h w ψ ((h.set b none).put nx (.cells l.length (T.fill l .lf 0))) { w with heap := w.heap.setIfInBounds i.blk (.cells c' elem fr) } ∧ ψ nx = some ⟨i.blk, o, i.size⟩ := by
 have hlt : i.blk < w.heap.size := H.dom _ _ hi
 have hne : ∀ r, r ≠ i.blk → (w.heap.setIfInBounds i.blk (.cells c' elem fr))[r]? = w.heap[r]? := fun r hr => by rw [Array.getElem?_setIfInBounds, if_neg (fun e => hr e.symm)]
 have hat : (w.heap.setIfInBounds i.blk (.cells c' elem fr))[i.blk]? = some (.cells c' elem fr) := by rw [Array.getElem?_setIfInBounds, if_pos rfl, if_pos hlt]
 have hle : φ.le (φ.put nx ⟨i.blk, o, i.size⟩) := Phi.le_put (H.fresh nx (Nat.le_refl _))
 have hbn : b ≠ nx := fun e => by rw [e, H.none_of (Nat.le_refl _)] at hb; cases hb
 have hmap : ∀ r es' c2, (w.heap.setIfInBounds i.blk (.cells c' elem fr))[r]? = some (.map es' c2) → w.heap[r]? = some (.map es' c2) ∨ w.heap.size ≤ r := by
  intro r es' c2 hr
  by_cases e : r = i.blk
  · subst e; rw [hat] at hr; cases hr
  · rw [hne r e] at hr; exact .inl hr
 have hold : ∀ x o2, x ≠ nx → ((h.set b none).put nx (.cells l.length (T.fill l .lf 0))).get x = some o2 → x ≠ b ∧ h.get x = some o2 := by
  intro x o2 hx hg
  rw [T.get_put_ne _ _ hx, T.get_set] at hg
  by_cases e : x = b
  · rw [if_pos e] at hg; cases hg
  · rw [if_neg e] at hg; exact ⟨e, hg⟩
 refine ⟨φ.put nx ⟨i.blk, o, i.size⟩, ⟨?_, ?_, ?_, ?_, fun x hx => by rw [Phi.put_ne (fun e => H.not_res (by rw [← e]; exact hx))]; exact H.low x hx, fun x hx => Nat.lt_succ_of_lt (H.hi x hx)⟩, ⟨hle, rfl, by simp, rfl, rfl, rfl, ?_, ?_⟩, Phi.put_eq⟩
 · intro x o2 hx
   by_cases e : x = nx
   · subst e
     rw [T.get_put_eq] at hx; injection hx with hx; subst hx
     refine ⟨_, Phi.put_eq, c', elem, fr, hat, hc, ho, hfr, fun k hk => ?_⟩
     obtain ⟨v, hv⟩ : ∃ v, l[k]? = some v := ⟨l[k], by simp [hk]⟩
     obtain ⟨v', g1, g2, g3⟩ := hl k v hv
     exact ⟨v, v', by rw [T.get_fill, if_pos (by omega)]; simpa using hv, g1, g2.mono hle, by rw [g2.scalar_eq, g3]⟩
   · obtain ⟨hxb, hg⟩ := hold x o2 e hx
     obtain ⟨i2, hi2, ho2⟩ := H.obj _ _ hg
     have hn : i2.blk ≠ i.blk := fun e3 => hxb (H.inj x b i2 i (by rw [hg]; rfl) (by rw [hb]; rfl) hi2 hi e3)
     exact ⟨i2, hle _ _ hi2, ho2.keep hle (hne _ hn) hmap (fun m clk im _ hm => H.dom _ _ hm)⟩
 · intro b1 b2 i1 i2 hb1 hb2 hi1 hi2 e
   have live : ∀ x, x ≠ nx → (((h.set b none).put nx (.cells l.length (T.fill l .lf 0))).get x).isSome → x ≠ b ∧ (h.get x).isSome := by
    intro x hx hs
    obtain ⟨o2, ho2⟩ := Option.isSome_iff_exists.1 hs
    obtain ⟨h1, h2⟩ := hold x o2 hx ho2
    exact ⟨h1, by rw [h2]; rfl⟩
   by_cases e1 : b1 = nx <;> by_cases e2 : b2 = nx
   · rw [e1, e2]
   · subst e1
     rw [Phi.put_eq] at hi1; injection hi1 with hi1; subst hi1
     rw [Phi.put_ne e2] at hi2
     obtain ⟨h1, h2⟩ := live b2 e2 hb2
     exact absurd (H.inj b2 b i2 i h2 (by rw [hb]; rfl) hi2 hi e.symm) h1
   · subst e2
     rw [Phi.put_eq] at hi2; injection hi2 with hi2; subst hi2
     rw [Phi.put_ne e1] at hi1
     obtain ⟨h1, h2⟩ := live b1 e1 hb1
     exact absurd (H.inj b1 b i1 i h2 (by rw [hb]; rfl) hi1 hi e) h1
   · rw [Phi.put_ne e1] at hi1; rw [Phi.put_ne e2] at hi2
     exact H.inj b1 b2 i1 i2 (live b1 e1 hb1).2 (live b2 e2 hb2).2 hi1 hi2 e
 · intro x hx
   rw [Phi.put_ne (by omega)]; exact H.fresh x (by omega)
 · intro x i2 hx
   simp only [Array.size_setIfInBounds]
   by_cases e : x = nx
   · subst e; rw [Phi.put_eq] at hx; injection hx with hx; subst hx; exact hlt
   · rw [Phi.put_ne e] at hx; exact H.dom _ _ hx
 · intro x i2 hx hi2
   by_cases e : x = nx
   · subst e; rw [Phi.put_eq] at hi2; injection hi2 with hi2; subst hi2
     exact .inr ⟨b, i, by rw [hb]; rfl, hi, rfl⟩
   · rw [Phi.put_ne e] at hi2
     obtain ⟨o2, ho2⟩ := Option.isSome_iff_exists.1 hx
     obtain ⟨_, h2⟩ := hold x o2 e ho2
     exact .inr ⟨x, i2, by rw [h2]; rfl, hi2, rfl⟩
 · intro r _ hr
   exact hne r (fun e => hr b i (by rw [hb]; rfl) hi e.symm)
end
end Go.Ev
end
section
namespace Go.Ev
noncomputable def mapO {α β : Type} (f : α → Option β) (l : List α) : Option (List β) :=
 List.rec (motive := fun _ => Option (List β)) (some []) (fun x _ ih => Option.rec (motive := fun _ => Option (List β)) none (fun y => Option.rec (motive := fun _ => Option (List β)) none (fun r => some (y :: r)) ih) (f x)) l
section
variable {α β : Type} {f : α → Option β}
theorem mapO_nil : mapO f [] = some [] := rfl
theorem mapO_cons (x : α) (l : List α) : mapO f (x :: l) = (f x).bind fun y => (mapO f l).map (y :: ·) := by
 show Option.rec (motive := fun _ => Option (List β)) none (fun y => Option.rec (motive := fun _ => Option (List β)) none (fun r => some (y :: r)) (mapO f l)) (f x) = _
 cases f x with
 | none => rfl
 | some y => cases mapO f l <;> rfl
theorem mapO_some {l : List α} {r : List β} (h : mapO f l = some r) : l.length = r.length ∧ ∀ (i : Nat) (x : α), l[i]? = some x → ∃ y, r[i]? = some y ∧ f x = some y := by
 induction l generalizing r with
 | nil => rw [mapO_nil] at h; injection h with h; subst h; exact ⟨rfl, fun i x hx => by simp at hx⟩
 | cons a l ih =>
   rw [mapO_cons] at h
   cases ha : f a with
   | none => rw [ha] at h; simp at h
   | some y =>
     rw [ha] at h
     simp only [Option.bind_some, Option.map_eq_some_iff] at h
     obtain ⟨r', hr, rfl⟩ := h
     obtain ⟨h1, h2⟩ := ih hr
     refine ⟨by simp [h1], fun i x hx => ?_⟩
     cases i with
     | zero => simp at hx; subst hx; exact ⟨y, rfl, ha⟩
     | succ i => simp at hx; simpa using h2 i x hx
end
def av1 : Value → Option AV
 | .bool b => some (.bool b)
 | .int k n => some (.int k n)
 | .string s => some (.str (s.data.toList.map UInt8.toNat))
 | .pointer none => some .nilp
 | .slice none 0 0 => some .nils
 | .map none => some .nilm
 | .nilFunc => some .nilf
 | .nilIface => some .nili
 | _ => none
theorem av1_ok {φ : Phi} {v : Value} {a : AV} (h : av1 v = some a) : VR φ a v ∧ a.scalar = true := by
 unfold av1 at h
 split at h <;> (first | cases h; done | (injection h with h; subst h; exact ⟨by constructor, rfl⟩))
noncomputable def avL (l : List Value) : Option (List AV) := mapO av1 l
theorem avL_ok {φ : Phi} {l : List Value} {l' : List AV} (h : avL l = some l') : VRL φ l' l ∧ ∀ v ∈ l', v.scalar = true := by
 obtain ⟨h1, h2⟩ := mapO_some h
 refine ⟨VRL.of_get h1.symm fun i v hi => ?_, fun v hv => ?_⟩
 · have hlt : i < l.length := by have := (List.getElem?_eq_some_iff.1 hi).1; omega
   obtain ⟨y, hy, hf⟩ := h2 i l[i] (by simp [hlt])
   rw [hi] at hy; injection hy with hy; subst hy
   exact ⟨_, by simp [hlt], (av1_ok hf).1⟩
 · obtain ⟨i, hi⟩ := List.getElem?_of_mem hv
   have hlt : i < l.length := by have := (List.getElem?_eq_some_iff.1 hi).1; omega
   obtain ⟨y, hy, hf⟩ := h2 i l[i] (by simp [hlt])
   rw [hi] at hy; injection hy with hy; subst hy
   exact (av1_ok (φ := φ) hf).2
noncomputable def avOf : Value → Option AV
 | .agg cs => (avL cs.toList).map .agg
 | .tuple cs => (avL cs.toList).map .tup
 | v => av1 v
theorem avOf_ok {φ : Phi} {v : Value} {a : AV} (h : avOf v = some a) : VR φ a v := by
 unfold avOf at h
 split at h
 · rename_i cs
   simp only [Option.map_eq_some_iff] at h
   obtain ⟨l, h1, rfl⟩ := h
   exact .agg (avL_ok h1).1
 · rename_i cs
   simp only [Option.map_eq_some_iff] at h
   obtain ⟨l, h1, rfl⟩ := h
   exact .tup (avL_ok h1).1
 · exact (av1_ok h).1
inductive IX where
 | t (n : Nat)
 | c (v : AV)
noncomputable def IX.ev (env : T AV) (x : IX) : Option AV := IX.rec (motive := fun _ => Option AV) (fun n => env.get n) (fun v => some v) x
noncomputable def evL (env : T AV) (l : List IX) : Option (List AV) := mapO (IX.ev env) l
noncomputable def cpx : Operand → Option IX
 | .tmp t => some (.t t)
 | .const v => (avOf v).map .c
 | .func f => some (.c (.fn (.func f) [] []))
 | .global _ => none
theorem ev_ok {φ : Phi} {env : T AV} {n : Nat} {a : Act} (hE : ER φ env n a.tmps) {x : Operand} {ix : IX} {v : AV} (hc : cpx x = some ix) (he : ix.ev env = some v) : VR φ v (a.eval x) := by
 unfold cpx at hc
 split at hc
 · injection hc with hc; subst hc
   obtain ⟨h1, v', h2, h3⟩ := hE.2 _ _ he
   simpa [Act.eval, h2] using h3
 · simp only [Option.map_eq_some_iff] at hc
   obtain ⟨u, h1, rfl⟩ := hc
   injection he with he; subst he
   exact avOf_ok h1
 · injection hc with hc; subst hc
   injection he with he; subst he
   exact .fn (fun l h => by cases h) .nil .nil
 · cases hc
theorem evL_ok {φ : Phi} {env : T AV} {n : Nat} {a : Act} (hE : ER φ env n a.tmps) {xs : List Operand} {is : List IX} {vs : List AV} (hc : mapO cpx xs = some is) (he : evL env is = some vs) : VRL φ vs (xs.map a.eval) := by
 obtain ⟨h1, h2⟩ := mapO_some hc
 obtain ⟨h3, h4⟩ := mapO_some he
 refine VRL.of_get (by simp; omega) fun i v hi => ?_
 have hlt : i < xs.length := by have := (List.getElem?_eq_some_iff.1 hi).1; omega
 obtain ⟨y, hy, hf⟩ := h2 i xs[i] (by simp [hlt])
 obtain ⟨z, hz, hg⟩ := h4 i y hy
 rw [hi] at hz; injection hz with hz; subst hz
 exact ⟨a.eval xs[i], by simp [hlt], ev_ok hE hf hg⟩
def hiOf : IntKind → Nat
 | .i8 => 127 | .i16 => 32767 | .i32 => 2147483647 | .i64 => 9223372036854775807
 | .u8 => 255 | .u16 => 65535 | .u32 => 4294967295 | .u64 => 18446744073709551615
def sgn : IntKind → Bool
 | .i8 | .i16 | .i32 | .i64 => true
 | _ => false
noncomputable def wrapF (k : IntKind) (n : Int) : Int :=
 Int.rec (motive := fun _ => Int)
  (fun m => Bool.rec (motive := fun _ => Int) (k.wrap (Int.ofNat m)) (Int.ofNat m) (Nat.ble m (hiOf k)))
  (fun m => Bool.rec (motive := fun _ => Int) (k.wrap (Int.negSucc m)) (Int.negSucc m) (Bool.rec (motive := fun _ => Bool) false (Nat.ble m (hiOf k)) (sgn k))) n
theorem wrap_id {k : IntKind} {n : Int} (h : k.min ≤ n) (h' : n ≤ k.max) : k.wrap n = n := by
 cases k <;> simp [IntKind.min, IntKind.max, IntKind.signed, IntKind.bits] at h h' <;> simp [IntKind.wrap, IntKind.signed, IntKind.bits] <;> (try split) <;> omega
theorem wrapF_eq (k : IntKind) (n : Int) : wrapF k n = k.wrap n := by
 cases n with
 | ofNat m =>
   show Bool.rec (motive := fun _ => Int) (k.wrap (Int.ofNat m)) (Int.ofNat m) (Nat.ble m (hiOf k)) = _
   cases hb : Nat.ble m (hiOf k) with
   | false => rfl
   | true =>
     have hb := Nat.le_of_ble_eq_true hb
     show Int.ofNat m = _
     rw [wrap_id]
     · cases k <;> simp [IntKind.min, IntKind.signed, IntKind.bits] <;> omega
     · cases k <;> simp [IntKind.max, IntKind.signed, IntKind.bits, hiOf] at hb ⊢ <;> omega
 | negSucc m =>
   show Bool.rec (motive := fun _ => Int) (k.wrap (Int.negSucc m)) (Int.negSucc m) (Bool.rec (motive := fun _ => Bool) false (Nat.ble m (hiOf k)) (sgn k)) = _
   cases hs : sgn k with
   | false => rfl
   | true =>
     show Bool.rec (motive := fun _ => Int) (k.wrap (Int.negSucc m)) (Int.negSucc m) (Nat.ble m (hiOf k)) = _
     cases hb : Nat.ble m (hiOf k) with
     | false => rfl
     | true =>
       have hb := Nat.le_of_ble_eq_true hb
       show Int.negSucc m = _
       rw [wrap_id]
       · cases k <;> simp [IntKind.min, IntKind.signed, IntKind.bits, hiOf, sgn] at hb hs ⊢ <;> omega
       · cases k <;> simp [IntKind.max, IntKind.signed, IntKind.bits, hiOf, sgn] at hb hs ⊢ <;> omega
noncomputable def ieq (a b : Int) : Bool :=
 Int.rec (motive := fun _ => Bool) (fun m => Int.rec (motive := fun _ => Bool) (fun n => Nat.beq m n) (fun _ => false) b) (fun m => Int.rec (motive := fun _ => Bool) (fun _ => false) (fun n => Nat.beq m n) b) a
noncomputable def ile (a b : Int) : Bool :=
 Int.rec (motive := fun _ => Bool) (fun m => Int.rec (motive := fun _ => Bool) (fun n => Nat.ble m n) (fun _ => false) b) (fun m => Int.rec (motive := fun _ => Bool) (fun _ => true) (fun n => Nat.ble n m) b) a
theorem ieq_eq (a b : Int) : ieq a b = (a == b) := by
 rw [Bool.eq_iff_iff, beq_iff_eq]
 cases a with
 | ofNat m => cases b with
   | ofNat n => show Nat.beq m n = true ↔ _; rw [Nat.beq_eq]; constructor <;> intro h <;> (first | (subst h; rfl) | (injection h))
   | negSucc n => show false = true ↔ _; constructor <;> intro h <;> cases h
 | negSucc m => cases b with
   | ofNat n => show false = true ↔ _; constructor <;> intro h <;> cases h
   | negSucc n => show Nat.beq m n = true ↔ _; rw [Nat.beq_eq]; constructor <;> intro h <;> (first | (subst h; rfl) | (injection h))
theorem ile_eq (a b : Int) : ile a b = decide (a ≤ b) := by
 rw [Bool.eq_iff_iff, decide_eq_true_iff]
 cases a with
 | ofNat m => cases b with
   | ofNat n => show Nat.ble m n = true ↔ _; rw [Nat.ble_eq]; simp
   | negSucc n => show false = true ↔ _; simp; omega
 | negSucc m => cases b with
   | ofNat n => show true = true ↔ _; simp; omega
   | negSucc n => show Nat.ble n m = true ↔ _; rw [Nat.ble_eq]; omega
noncomputable def aint (op : BinOp) (k : IntKind) (a b : Int) : Option AV :=
 match op with
 | .add => some (.int k (wrapF k (Int.add a b)))
 | .sub => some (.int k (wrapF k (Int.sub a b)))
 | .mul => some (.int k (wrapF k (Int.mul a b)))
 | .quo => bif ieq b 0 then none else some (.int k (wrapF k (a.tdiv b)))
 | .rem => bif ieq b 0 then none else some (.int k (a.tmod b))
 | .and => some (.int k (k.wrap ((BitVec.ofInt k.bits a &&& BitVec.ofInt k.bits b).toNat : Int)))
 | .or => some (.int k (k.wrap ((BitVec.ofInt k.bits a ||| BitVec.ofInt k.bits b).toNat : Int)))
 | .xor => some (.int k (k.wrap ((BitVec.ofInt k.bits a ^^^ BitVec.ofInt k.bits b).toNat : Int)))
 | .andNot => some (.int k (k.wrap ((BitVec.ofInt k.bits a &&& ~~~BitVec.ofInt k.bits b).toNat : Int)))
 | .eql => some (.bool (ieq a b))
 | .neq => some (.bool (!ieq a b))
 | .lss => some (.bool (!ile b a))
 | .leq => some (.bool (ile a b))
 | .gtr => some (.bool (!ile a b))
 | .geq => some (.bool (ile b a))
 | _ => none
noncomputable def ashift (op : BinOp) (k : IntKind) (a : Int) (b : Int) : Option AV :=
 bif ile 0 b then
  match op with
  | .shl => some (.int k (wrapF k (a * 2 ^ (min b.toNat k.bits))))
  | .shr => some (.int k (a.fdiv (2 ^ (min b.toNat k.bits))))
  | _ => none
 else none
noncomputable def leqb (a : List Nat) : List Nat → Bool :=
 List.rec (motive := fun _ => List Nat → Bool) (fun b => List.rec (motive := fun _ => Bool) true (fun _ _ _ => false) b)
  (fun x _ ih b => List.rec (motive := fun _ => Bool) false (fun y b' _ => Bool.rec (motive := fun _ => Bool) false (ih b') (Nat.beq x y)) b) a
noncomputable def llt (a : List Nat) : List Nat → Bool :=
 List.rec (motive := fun _ => List Nat → Bool) (fun b => List.rec (motive := fun _ => Bool) false (fun _ _ _ => true) b)
  (fun x _ ih b => List.rec (motive := fun _ => Bool) false (fun y b' _ => Bool.rec (motive := fun _ => Bool) (Bool.rec (motive := fun _ => Bool) false (ih b') (Nat.beq x y)) true (Nat.blt x y)) b) a
theorem leqb_eq : ∀ (a b : List Nat), leqb a b = decide (a = b) := by
 intro a
 induction a with
 | nil => intro b; cases b <;> rfl
 | cons x a ih =>
   intro b
   cases b with
   | nil => rfl
   | cons y b =>
     show Bool.rec (motive := fun _ => Bool) false (leqb a b) (Nat.beq x y) = _
     cases h : Nat.beq x y with
     | false =>
       have : x ≠ y := fun e => by subst e; simp at h
       simp [this]
     | true =>
       have := Nat.eq_of_beq_eq_true h
       subst this
       show leqb a b = _
       rw [ih]; simp
theorem toNat_inj {a b : List UInt8} (h : a.map UInt8.toNat = b.map UInt8.toNat) : a = b := by
 induction a generalizing b with
 | nil => cases b with | nil => rfl | cons _ _ => simp at h
 | cons x a ih => cases b with
   | nil => simp at h
   | cons y b =>
     simp at h
     rw [UInt8.toNat_inj.1 h.1, ih h.2]
theorem str_inj {s s' : ByteArray} (h : s.data.toList.map UInt8.toNat = s'.data.toList.map UInt8.toNat) : s = s' := by
 have := toNat_inj h
 obtain ⟨d⟩ := s; obtain ⟨d'⟩ := s'
 obtain ⟨l⟩ := d; obtain ⟨l'⟩ := d'
 simp at this; rw [this]
theorem llt_eq (a b : List UInt8) : llt (a.map UInt8.toNat) (b.map UInt8.toNat) = Op.bytesLess a b := by
 induction a generalizing b with
 | nil => cases b <;> rfl
 | cons x a ih => cases b with
   | nil => rfl
   | cons y b =>
     show Bool.rec (motive := fun _ => Bool) (Bool.rec (motive := fun _ => Bool) false (llt (a.map UInt8.toNat) (b.map UInt8.toNat)) (Nat.beq x.toNat y.toNat)) true (Nat.blt x.toNat y.toNat) = _
     rw [ih]
     simp only [Op.bytesLess]
     by_cases h1 : x < y
     · have h2 : Nat.blt x.toNat y.toNat = true := by rw [Nat.blt_eq]; exact UInt8.lt_iff_toNat_lt.1 h1
       rw [h2]; simp [h1]
     · have h2 : Nat.blt x.toNat y.toNat = false := by
        rw [Bool.eq_false_iff]; intro h; rw [Nat.blt_eq] at h; exact h1 (UInt8.lt_iff_toNat_lt.2 h)
       rw [h2]
       by_cases h3 : x = y
       · subst h3
         have : Nat.beq x.toNat x.toNat = true := by simp
         rw [this]; simp
       · have : Nat.beq x.toNat y.toNat = false := by
          rw [Bool.eq_false_iff]; intro h; exact h3 (UInt8.toNat_inj.1 (Nat.eq_of_beq_eq_true h))
         rw [this]; simp [h1, h3]
noncomputable def astr (op : BinOp) (a b : List Nat) : Option AV :=
 match op with
 | .add => bif Nat.ble (a.length + b.length) 1000000000 then some (.str (a ++ b)) else none
 | .eql => some (.bool (leqb a b))
 | .neq => some (.bool (!leqb a b))
 | .lss => some (.bool (llt a b))
 | .leq => some (.bool (llt a b || leqb a b))
 | .gtr => some (.bool (!(llt a b || leqb a b)))
 | .geq => some (.bool (!llt a b))
 | _ => none
def IntKind.same : IntKind → IntKind → Bool
 | .i8, .i8 | .i16, .i16 | .i32, .i32 | .i64, .i64 | .u8, .u8 | .u16, .u16 | .u32, .u32 | .u64, .u64 => true
 | _, _ => false
theorem IntKind.same_eq {a b : IntKind} (h : IntKind.same a b = true) : a = b := by cases a <;> cases b <;> simp_all [IntKind.same]
end Go.Ev
end
section
namespace Go.Ev
open Go.RowKit
def Done (P : Program) (s : Sem Next) (φ : Phi) (h : Hp) (w : World) (v : AV) (h' : Hp) (nx' : Nat) : Prop :=
 ∃ ψ v' w', (s.run P w = .ok (.value v') w' ∨ (s.run P w = .ok .skip w' ∧ v' = undef)) ∧ VR ψ v v' ∧ WR ψ h' nx' w' ∧ Stp φ h w ψ h' w'
theorem Done.pure {P : Program} {s : Sem Next} {φ : Phi} {h : Hp} {nx : Nat} {w : World} {v : AV} {v' : Value} (hr : s.run P w = .ok (.value v') w) (hv : VR φ v v') (H : WR φ h nx w) : Done P s φ h w v h nx :=
 ⟨φ, v', w, .inl hr, hv, H, Stp.refl φ h w⟩
structure Tb where
 und : T TypeDesc
 zr : T (List AV)
 zv : T AV
 flat : T (List (Nat × Nat))
structure Tb.Ok (P : Program) (B : Tb) : Prop where
 zv : ∀ t z, B.zv.get t = some z → ∃ i v, P.info? t = some i ∧ i.zero = some v ∧ avOf v = some z
 und : ∀ t d, B.und.get t = some d → P.underlying t = some d
 zr : ∀ t z, B.zr.get t = some z → ∃ i v, P.info? t = some i ∧ i.zero = some v ∧ avL v.cells.toList = some z ∧ i.size = z.length ∧ i.bytes ≤ 1048576
section
variable {P : Program} {w : World}
theorem run_und {t : TypeId} {d : TypeDesc} (h : P.underlying t = some d) : (underlying t).run P w = .ok d w := run_underlying h w
theorem run_zero {t : TypeId} {i : TypeInfo} {v : Value} (h : P.info? t = some i) (hz : i.zero = some v) : (zeroValue t).run P w = .ok v w := by
 simp [zeroValue, typeInfo, h, hz]
theorem run_size {t : TypeId} {i : TypeInfo} (h : P.info? t = some i) : (sizeOf t).run P w = .ok i.size w := by
 simp [sizeOf, typeInfo, h]
def aggD : TypeDesc → Bool
 | .struct _ | .array _ _ => true
 | _ => false
theorem run_isAgg {t : TypeId} {d : TypeDesc} (h : P.underlying t = some d) : (isAgg t).run P w = .ok (aggD d) w := by
 simp only [isAgg, Sem.run_bind, run_und h, Result.andThen_ok]
 cases d <;> rfl
end
noncomputable def AV.cells (v : AV) : List AV :=
 match v with
 | .agg l => l
 | v => [v]
theorem cells_ok {φ : Phi} {v : AV} {v' : Value} (h : VR φ v v') : VRL φ v.cells v'.cells.toList := by
 cases h
 case agg h => exact h
 all_goals exact .cons (by constructor <;> assumption) .nil
noncomputable def scal (l : List AV) : Bool := List.rec (motive := fun _ => Bool) true (fun v _ ih => Bool.rec (motive := fun _ => Bool) false ih v.scalar) l
theorem scal_ok {l : List AV} (h : scal l = true) : ∀ v ∈ l, v.scalar = true := by
 induction l with
 | nil => intro v hv; cases hv
 | cons a l ih =>
   have h' : Bool.rec (motive := fun _ => Bool) false (scal l) a.scalar = true := h
   cases ha : a.scalar with
   | false => rw [ha] at h'; cases h'
   | true =>
     rw [ha] at h'
     intro v hv
     cases hv with
     | head => exact ha
     | tail _ hv => exact ih h' v hv
inductive XOp where
 | mv (x : IX)
 | pick (c a b : IX)
 | new (zs : List AV)
 | box (x : IX)
 | build (zs : List AV) (parts : List (Nat × Nat × IX))
 | bslice (es n : Nat) (zs : List AV) (parts : List (Nat × Nat × IX))
 | ld (n : Nat) (agg : Bool) (x : IX)
 | st (n : Nat) (x v : IX)
 | nck (x : IX)
 | bin (op : BinOp) (x y : IX)
 | eqn (k : Nat) (neg : Bool) (x y : IX)
 | eqs (neg : Bool) (offs : List (Nat × Nat)) (x y : IX)
 | un (op : UnOp) (x : IX)
 | cvI (k : IntKind) (x : IX)
 | cvS (x : IX)
 | cvB (x : IX)
 | cvSB (x : IX)
 | cvBS (x : IX)
 | mkf (f : Fn) (first cap : List IX)
 | mkm
 | mks (es : Nat) (zs : List AV) (len cap : IX)
 | slS (x : IX) (lo hi : Option IX)
 | slV (es : Nat) (x : IX) (lo hi mx : Option IX)
 | fa (off : Nat) (x : IX)
 | fld (off n : Nat) (agg : Bool) (x : IX)
 | iaV (es : Nat) (x i : IX)
 | ixS (x i : IX)
 | lkp (tag : Nat) (z : AV) (ok : Bool) (m k : IX)
 | mup (tag : Nat) (m k v : IX)
 | ext (x : IX) (i : Nat)
 | len (tg : Nat) (x : IX)
 | app (es : Nat) (x y : IX)
 | mnx (mx : Bool) (x y : IX)
 | rng (x : IX)
 | nxt (x : IX)
 | ent (x : IX)
 | clr (zs : List AV) (x : IX)
noncomputable def afill (env : T AV) (cs : List AV) (parts : List (Nat × Nat × IX)) : Option (List AV) :=
 List.rec (motive := fun _ => List AV → Option (List AV)) (fun cs => some cs)
  (fun p _ ih cs => Option.rec (motive := fun _ => Option (List AV)) none
   (fun v => bif Nat.beq v.cells.length p.2.1 && Nat.ble (p.1 + v.cells.length) cs.length then ih (cs.take p.1 ++ (v.cells ++ cs.drop (p.1 + v.cells.length))) else none) (p.2.2.ev env)) parts cs
theorem fill_step (cells : Array Value) (off : Nat) (vs : Array Value) (h : off + vs.size ≤ cells.size) :
 (vs.zipIdx.foldl (fun cs (c, j) => cs.setIfInBounds (off + j) c) cells).toList = cells.toList.take off ++ (vs.toList ++ cells.toList.drop (off + vs.size)) := by
 have key : ∀ (l : List Value) (k : Nat) (cs : Array Value), off + k + l.length ≤ cs.size →
  ((l.zipIdx k).foldl (fun cs (c, j) => cs.setIfInBounds (off + j) c) cs).toList = cs.toList.take (off + k) ++ (l ++ cs.toList.drop (off + k + l.length)) := by
  intro l
  induction l with
  | nil => intro k cs _; simp
  | cons v l ih =>
    intro k cs hk
    simp only [List.length_cons] at hk
    simp only [List.zipIdx_cons, List.foldl_cons]
    rw [ih (k + 1) _ (by simp; omega)]
    apply List.ext_getElem?
    intro i
    simp only [List.getElem?_append, List.getElem?_take, List.getElem?_drop, List.length_take, List.length_cons, Array.toList_setIfInBounds, List.getElem?_set, List.length_set, Array.length_toList, List.getElem?_cons]
    repeat' split
    all_goals (first | omega | rfl | (congr 1; omega) | (simp; omega) | skip)
 have := key vs.toList 0 cells (by simpa using h)
 rw [← Array.foldl_toList, Array.toList_zipIdx]
 simpa using this
end Go.Ev
end
section
namespace Go.Ev
open Go.RowKit
section
variable {P : Program} {φ : Phi} {h : Hp} {nx : Nat} {w : World} {env : T AV} {n : Nat} {a : Act}
def PartsR (place : Nat → Option (Nat × Nat)) (parts : List (Nat × Operand)) (xs : List (Nat × Nat × IX)) : Prop :=
 parts.length = xs.length ∧ ∀ (i : Nat) (p : Nat × Operand) (x : Nat × Nat × IX), parts[i]? = some p → xs[i]? = some x → place p.1 = some (x.1, x.2.1) ∧ cpx p.2 = some x.2.2
theorem afill_ok (hE : ER φ env n a.tmps) {place : Nat → Option (Nat × Nat)} : ∀ (xs : List (Nat × Nat × IX)) (parts : List (Nat × Operand)) (cs cs' : List AV) (cells : Array Value), PartsR place parts xs → VRL φ cs cells.toList → afill env cs xs = some cs' →
 ∃ cells', Instr.fill place cells (parts.map fun p => (p.1, a.eval p.2)) = some cells' ∧ VRL φ cs' cells'.toList ∧ cs'.length = cs.length := by
 intro xs
 induction xs with
 | nil =>
   intro parts cs cs' cells hp hv hf
   have : parts = [] := List.eq_nil_of_length_eq_zero (by simpa using hp.1)
   subst this
   have hf' : some cs = some cs' := hf
   injection hf' with hf'; subst hf'
   exact ⟨cells, rfl, hv, rfl⟩
 | cons x xs ih =>
   intro parts cs cs' cells hp hv hf
   cases parts with
   | nil => have := hp.1; simp at this
   | cons p parts =>
     obtain ⟨hpl, hx⟩ := hp.2 0 p x rfl rfl
     have hp' : PartsR place parts xs := ⟨by have := hp.1; simpa using this, fun i q y hq hy => hp.2 (i + 1) q y (by simpa using hq) (by simpa using hy)⟩
     have hf' : Option.rec (motive := fun _ => Option (List AV)) none
      (fun v => bif Nat.beq v.cells.length x.2.1 && Nat.ble (x.1 + v.cells.length) cs.length then afill env (cs.take x.1 ++ (v.cells ++ cs.drop (x.1 + v.cells.length))) xs else none) (x.2.2.ev env) = some cs' := hf
     cases hev : x.2.2.ev env with
     | none => rw [hev] at hf'; cases hf'
     | some v =>
       rw [hev] at hf'
       have hvv := ev_ok hE hx hev
       have hcv := cells_ok hvv
       have hlen := hcv.length
       have hcl := hv.length
       cases hb : (Nat.beq v.cells.length x.2.1 && Nat.ble (x.1 + v.cells.length) cs.length) with
       | false => simp only [hb, cond_false] at hf'; cases hf'
       | true =>
         simp only [hb, cond_true] at hf'
         simp only [Bool.and_eq_true] at hb
         have hb1 := Nat.eq_of_beq_eq_true hb.1
         have hb2 := Nat.le_of_ble_eq_true hb.2
         simp only [Array.length_toList] at hlen hcl
         obtain ⟨cells', h1, h2, h3⟩ := ih parts _ cs' ((a.eval p.2).cells.zipIdx.foldl (fun cs (c, j) => cs.setIfInBounds (x.1 + j) c) cells) hp'
          (by rw [fill_step _ _ _ (by omega), ← hlen]; exact (hv.take _).append (hcv.append (hv.drop _))) hf'
         refine ⟨cells', ?_, h2, ?_⟩
         · simp only [List.map_cons, Instr.fill, hpl]
           rw [if_neg (by simp; omega)]
           exact h1
         · rw [h3]; simp; omega
theorem run_newRowA {l : List AV} {l' : List Value} (H : WR φ h nx w) {m : Nat} (hm : φ m = none) (hmr : ¬ φ.res m) (hl : VRL φ l l') (hs : ∀ v ∈ l, v.scalar = true) (elem : TypeId) :
 ∃ ψ w', (newRow elem ⟨l'⟩).run P w = .ok ⟨w.heap.size, 0, none⟩ w' ∧ WR ψ (h.put m (.cells l.length (T.fill l .lf 0))) (max nx (m + 1)) w' ∧ Stp φ h w ψ (h.put m (.cells l.length (T.fill l .lf 0))) w' ∧
  ψ m = some ⟨w.heap.size, 0, l'.length⟩ ∧ φ.le ψ := by
 obtain ⟨ψ, h1, h2, h3⟩ := H.newCellsA hm hmr (junk := []) hl hs elem
 simp only [List.append_nil, List.length_nil, Nat.add_zero] at h1 h2 h3
 exact ⟨ψ, _, by simp [newRow], h1, h2, h3, h2.ext⟩
theorem d_newA {elem : TypeId} {i : TypeInfo} {v : Value} {zs : List AV} (H : WR φ h nx w) {m : Nat} (hm : φ m = none) (hmr : ¬ φ.res m) (hi : P.info? elem = some i) (hz : i.zero = some v) (hl : avL v.cells.toList = some zs) :
 Done P (do pure (.value (← Instr.alloc elem true (.tuple #[])))) φ h w (.ptr m 0) (h.put m (.cells zs.length (T.fill zs .lf 0))) (max nx (m + 1)) := by
 obtain ⟨h1, h2⟩ := avL_ok (φ := φ) hl
 obtain ⟨ψ, w', r1, r2, r3, r4, _⟩ := run_newRowA (P := P) H hm hmr h1 h2 elem
 refine ⟨ψ, _, w', .inl ?_, .ptr r4, r2, r3⟩
 simp only [Instr.alloc, Sem.run_bind, run_zero hi hz, Result.andThen_ok, newVar, r1, Sem.run_pure]
theorem d_boxA {elem : TypeId} {v : AV} {v' : Value} (H : WR φ h nx w) {m : Nat} (hm : φ m = none) (hmr : ¬ φ.res m) (hv : VR φ v v') (hs : scal v.cells = true) :
 Done P (do pure (.value (← Instr.box elem v'))) φ h w (.ptr m 0) (h.put m (.cells v.cells.length (T.fill v.cells .lf 0))) (max nx (m + 1)) := by
 obtain ⟨ψ, w', r1, r2, r3, r4, _⟩ := run_newRowA (P := P) H hm hmr (cells_ok hv) (scal_ok hs) elem
 refine ⟨ψ, _, w', .inl ?_, .ptr r4, r2, r3⟩
 simp only [Instr.box, Sem.run_bind, newVar, r1, Result.andThen_ok, Sem.run_pure]
theorem run_newRow {l : List AV} {l' : List Value} (H : WR φ h nx w) (hl : VRL φ l l') (hs : ∀ v ∈ l, v.scalar = true) (elem : TypeId) :
 ∃ ψ w', (newRow elem ⟨l'⟩).run P w = .ok ⟨w.heap.size, 0, none⟩ w' ∧ WR ψ (h.put nx (.cells l.length (T.fill l .lf 0))) (nx + 1) w' ∧ Stp φ h w ψ (h.put nx (.cells l.length (T.fill l .lf 0))) w' ∧
  ψ nx = some ⟨w.heap.size, 0, l'.length⟩ ∧ φ.le ψ := by
 obtain ⟨ψ, h1, h2, h3⟩ := H.newCells hl hs elem
 exact ⟨ψ, _, by simp [newRow], h1, h2, h3, h2.ext⟩
theorem d_new {elem : TypeId} {i : TypeInfo} {v : Value} {zs : List AV} (H : WR φ h nx w) (hi : P.info? elem = some i) (hz : i.zero = some v) (hl : avL v.cells.toList = some zs) :
 Done P (do pure (.value (← Instr.alloc elem true (.tuple #[])))) φ h w (.ptr nx 0) (h.put nx (.cells zs.length (T.fill zs .lf 0))) (nx + 1) := by
 obtain ⟨h1, h2⟩ := avL_ok (φ := φ) hl
 obtain ⟨ψ, w', r1, r2, r3, r4, _⟩ := run_newRow (P := P) H h1 h2 elem
 refine ⟨ψ, _, w', .inl ?_, .ptr r4, r2, r3⟩
 simp only [Instr.alloc, Sem.run_bind, run_zero hi hz, Result.andThen_ok, newVar, r1, Sem.run_pure]
theorem d_box {elem : TypeId} {v : AV} {v' : Value} (H : WR φ h nx w) (hv : VR φ v v') (hs : scal v.cells = true) :
 Done P (do pure (.value (← Instr.box elem v'))) φ h w (.ptr nx 0) (h.put nx (.cells v.cells.length (T.fill v.cells .lf 0))) (nx + 1) := by
 obtain ⟨ψ, w', r1, r2, r3, r4, _⟩ := run_newRow (P := P) H (cells_ok hv) (scal_ok hs) elem
 refine ⟨ψ, _, w', .inl ?_, .ptr r4, r2, r3⟩
 simp only [Instr.box, Sem.run_bind, newVar, r1, Result.andThen_ok, Sem.run_pure]
theorem ld_core {t : TypeId} {d : TypeDesc} {i : TypeInfo} {b o m : Nat} {tr : T AV} {l : List AV} {x : Value} (H : WR φ h nx w) (hu : P.underlying t = some d) (hi : P.info? t = some i)
 (hx : VR φ (.ptr b o) x) (hb : h.get b = some (.cells m tr)) (hm : o + i.size ≤ m) (hl : tr.take i.size o = some l) (v : AV) (hv : if aggD d then v = .agg l else i.size = 1 ∧ l = [v]) :
 ∃ ad u, x = .pointer (some ad) ∧ (loadVar t ad).run P w = .ok u w ∧ VR φ v u := by
 cases hx with
 | @ptr _ _ ri hp =>
   obtain ⟨i2, l', h1, h2, h3, h4⟩ := run_loadCells (P := P) H hb hm hl
   rw [hp] at h1; injection h1 with h1; subst h1
   cases hd : aggD d with
   | true =>
     rw [hd] at hv
     simp only [if_true] at hv
     subst hv
     refine ⟨_, .agg ⟨l'⟩, rfl, ?_, .agg h2⟩
     simp only [loadVar, Sem.run_bind, Sem.run_pure, Result.andThen_ok, run_isAgg hu, hd, if_true, run_size hi, h4]
   | false =>
     rw [hd] at hv
     simp only [Bool.false_eq_true, if_false] at hv
     obtain ⟨hs1, rfl⟩ := hv
     rw [hs1] at h4 hm hl
     obtain ⟨i3, u, u', g1, g2, g3, g4, g5, g6, g7⟩ := H.cell hb (show o < m by omega)
     rw [hp] at g1; injection g1 with g1; subst g1
     have hvu : u = v := by
      have := (T.take_some hl).2 0 (by omega)
      simp only [Nat.add_zero, g2, List.getElem?_cons_zero] at this
      injection this
     subst hvu
     refine ⟨_, u', rfl, ?_, g4⟩
     simp only [loadVar, Sem.run_bind, Result.andThen_ok, run_isAgg hu, hd, Bool.false_eq_true, if_false]
     exact run_load g3
theorem d_ld {t : TypeId} {d : TypeDesc} {i : TypeInfo} {b o m : Nat} {tr : T AV} {l : List AV} {x : Value} (H : WR φ h nx w) (hu : P.underlying t = some d) (hi : P.info? t = some i)
 (hx : VR φ (.ptr b o) x) (hb : h.get b = some (.cells m tr)) (hm : o + i.size ≤ m) (hl : tr.take i.size o = some l) (v : AV) (hv : if aggD d then v = .agg l else i.size = 1 ∧ l = [v]) :
 Done P (do pure (.value (← Instr.loadAt t x))) φ h w v h nx := by
 obtain ⟨ad, u, rfl, h1, h2⟩ := ld_core (P := P) H hu hi hx hb hm hl v hv
 refine Done.pure ?_ h2 H
 simp only [Instr.loadAt, Instr.sureAddr, Sem.run_bind, Sem.run_pure, Result.andThen_ok, h1]
theorem d_st {t : TypeId} {i : TypeInfo} {b o m : Nat} {tr : T AV} {x v' : Value} {v : AV} (H : WR φ h nx w) (hi : P.info? t = some i)
 (hx : VR φ (.ptr b o) x) (hv : VR φ v v') (hb : h.get b = some (.cells m tr)) (hm : o + i.size ≤ m) (hn : v.cells.length = i.size) (hs : scal v.cells = true) :
 Done P (do Instr.storeAt t x v'; pure .skip) φ h w (.tup []) (h.put b (.cells m (T.fill v.cells tr o))) nx := by
 cases hx with
 | @ptr _ _ ri hp =>
   have hc := cells_ok hv
   have hlen := hc.length
   obtain ⟨w', r1, r2, r3⟩ := run_storeCells (P := P) b v.cells v'.cells.toList h w m tr ri (ri.off + o) o 0 H hb hp hc (scal_ok hs) (by omega) (by omega)
   refine ⟨φ, undef, w', .inr ⟨?_, rfl⟩, .tup .nil, r2, r3⟩
   simp only [Instr.storeAt, Instr.sureAddr, storeVar, Sem.run_bind, Sem.run_pure, Result.andThen_ok, run_size hi]
   rw [if_neg (by simp at hlen; simp; omega)]
   simp only [r1, Result.andThen_ok]
theorem d_build_struct {t : TypeId} {fs : Array Field} {i : TypeInfo} {z : Value} {zs l : List AV} {parts : Array (Nat × Operand)} {xs : List (Nat × Nat × IX)} (H : WR φ h nx w) (hE : ER φ env n a.tmps)
 (hu : P.underlying t = some (.struct fs)) (hi : P.info? t = some i) (hz : i.zero = some z) (hl : avL z.cells.toList = some zs) (hfs : ∀ f ∈ fs, ∃ j, P.info? f.type = some j)
 (hp : PartsR (fun k => (fs[k]?).map fun f => (f.offset, P.cellsOf f.type)) parts.toList xs) (ha : afill env zs xs = some l) :
 Done P (do pure (.value (← Instr.build t (parts.map fun (k, x) => (k, a.eval x))))) φ h w (.agg l) h nx := by
 have hplaces : (fs.mapM fun f => do pure (f.offset, ← sizeOf f.type) : Sem (Array (Nat × Nat))).run P w = .ok (fs.map fun f => (f.offset, P.cellsOf f.type)) w := by
  have key : ∀ (l : List Field) (acc : Array (Nat × Nat)), (∀ f ∈ l, ∃ j, P.info? f.type = some j) →
   (l.foldlM (fun (acc : Array (Nat × Nat)) f => do pure (acc.push (← (do pure (f.offset, ← sizeOf f.type) : Sem (Nat × Nat))))) acc : Sem (Array (Nat × Nat))).run P w = .ok (acc ++ (l.map fun f => (f.offset, P.cellsOf f.type)).toArray) w := by
   intro l
   induction l with
   | nil => intro acc _; simp
   | cons f l ih =>
     intro acc hf
     obtain ⟨j, hj⟩ := hf f (List.mem_cons_self ..)
     simp only [List.foldlM_cons, Sem.run_bind, run_size hj, Result.andThen_ok, Sem.run_pure]
     rw [ih _ (fun g hg => hf g (List.mem_cons_of_mem _ hg))]
     simp [Program.cellsOf, hj]
  have h1 := key fs.toList #[] (fun f hf => hfs f (by simpa using hf))
  rw [Array.mapM_eq_foldlM, ← Array.foldlM_toList]
  have h2 : (fun (bs : Array (Nat × Nat)) (f : Field) => (bs.push <$> (do pure (f.offset, ← sizeOf f.type) : Sem (Nat × Nat)))) =
   (fun (acc : Array (Nat × Nat)) f => do pure (acc.push (← (do pure (f.offset, ← sizeOf f.type) : Sem (Nat × Nat))))) := by
   funext acc f
   rw [map_eq_pure_bind]
  simp only [h2] at *
  rw [h1]
  congr 1
  apply Array.toList_inj.1
  simp
 obtain ⟨cells', r1, r2, r3⟩ := afill_ok hE (place := fun k => (fs[k]?).map fun f => (f.offset, P.cellsOf f.type)) xs parts.toList zs l z.cells hp (avL_ok hl).1 ha
 refine Done.pure ?_ (.agg (l' := cells'.toList) r2) H
 simp only [Instr.build, Sem.run_bind, run_zero hi hz, Result.andThen_ok, run_und hu, hplaces]
 have e : (fun (k : Nat) => (fs.map fun (f : Field) => (f.offset, P.cellsOf f.type))[k]?) = (fun (k : Nat) => (fs[k]?).map fun (f : Field) => (f.offset, P.cellsOf f.type)) := by
  funext k; simp
 rw [e]
 simp only [Array.toList_map] at r1 ⊢
 rw [r1]
 rfl
end
end Go.Ev
end
section
namespace Go.Ev
open Go.RowKit
noncomputable def arep (zs : List AV) (n : Nat) : List AV := Nat.rec (motive := fun _ => List AV) [] (fun _ ih => zs ++ ih) n
theorem arep_zero (zs : List AV) : arep zs 0 = [] := rfl
theorem arep_succ (zs : List AV) (n : Nat) : arep zs (n + 1) = zs ++ arep zs n := rfl
theorem arep_length (zs : List AV) (n : Nat) : (arep zs n).length = n * zs.length := by
 induction n with
 | zero => simp [arep_zero]
 | succ n ih => rw [arep_succ, List.length_append, ih, Nat.succ_mul]; omega
theorem arep_get (zs : List AV) (n i : Nat) (h : i < n * zs.length) : (arep zs n)[i]? = zs[i % zs.length]? := by
 induction n generalizing i with
 | zero => simp at h
 | succ n ih =>
   rw [arep_succ, List.getElem?_append]
   split
   · rename_i hi; rw [Nat.mod_eq_of_lt hi]
   · rename_i hi
     rw [ih _ (by rw [Nat.succ_mul] at h; omega), ← Nat.mod_eq_sub_mod (show zs.length ≤ i by omega)]
theorem arep_scal {zs : List AV} (hs : ∀ v ∈ zs, v.scalar = true) (n : Nat) : ∀ v ∈ arep zs n, v.scalar = true := by
 induction n with
 | zero => intro v hv; rw [arep_zero] at hv; cases hv
 | succ n ih =>
   intro v hv
   rw [arep_succ, List.mem_append] at hv
   rcases hv with hv | hv
   · exact hs v hv
   · exact ih v hv
theorem zero_cells {φ : Phi} {zs : List AV} {z : Array Value} (hv : VRL φ zs z.toList) (n : Nat) : VRL φ (arep zs n) ((Array.range (n * z.size)).map (z[· % z.size]!)).toList := by
 have hlen := hv.length
 simp only [Array.length_toList] at hlen
 refine VRL.of_get (by rw [arep_length]; simp [hlen]) fun i v hi => ?_
 have hlt : i < n * zs.length := by have := (List.getElem?_eq_some_iff.1 hi).1; rwa [arep_length] at this
 rw [arep_get zs n i hlt] at hi
 obtain ⟨v', h1, h2⟩ := hv.get _ v hi
 refine ⟨v', ?_, h2⟩
 rw [hlen] at hlt h1
 have hp : 0 < z.size := by
  rcases Nat.eq_zero_or_pos z.size with h0 | h0
  · rw [h0] at hlt; omega
  · exact h0
 have hm : i % z.size < z.size := Nat.mod_lt _ hp
 simp only [Array.toList_map, Array.toList_range, List.getElem?_map, List.getElem?_range hlt, Option.map_some]
 simp only [Array.getElem?_toList] at h1
 rw [← h1, getElem!_pos z _ hm, getElem?_pos z _ hm]
section
variable {P : Program} {φ : Phi} {h : Hp} {nx : Nat} {w : World} {env : T AV} {n : Nat} {a : Act}
theorem d_bsliceA {t e : TypeId} {i : TypeInfo} {z : Value} {zs l : List AV} {parts : Array (Nat × Operand)} {xs : List (Nat × Nat × IX)} {len : Nat} (H : WR φ h nx w) {m : Nat} (hm : φ m = none) (hmr : ¬ φ.res m) (hE : ER φ env n a.tmps)
 (hu : P.underlying t = some (.slice e)) (hi : P.info? e = some i) (hz : i.zero = some z) (hl : avL z.cells.toList = some zs) (hs : i.size = zs.length) (hbig : len * i.size ≤ 16777216)
 (hp : PartsR (fun k => some (k * i.size, i.size)) parts.toList xs) (ha : afill env (arep zs len) xs = some l) (hsc : scal l = true) :
 Done P (do pure (.value (← Instr.buildSlice t len (parts.map fun (k, x) => (k, a.eval x))))) φ h w (.slice m 0 len len i.size true) (h.put m (.cells l.length (T.fill l .lf 0))) (max nx (m + 1)) := by
 have hv := (avL_ok (φ := φ) hl).1
 have hlen : i.size = z.cells.size := by have := hv.length; simp at this; omega
 have hrange : VRL φ (arep zs len) ((Array.range (len * i.size)).map (z.cells[· % z.cells.size]!)).toList := by rw [hlen]; exact zero_cells hv len
 obtain ⟨cells', r1, r2, r3⟩ := afill_ok hE (place := fun k => some (k * i.size, i.size)) xs parts.toList _ l _ hp hrange ha
 have hlf := r2.length
 obtain ⟨ψ, w', q1, q2, q3, q4, _⟩ := run_newRowA (P := P) (l' := cells'.toList) H hm hmr r2 (scal_ok hsc) e
 have hsz : cells'.toList.length = len * i.size := by rw [← hlf, r3, arep_length, hs]
 refine ⟨ψ, .slice (some ⟨w.heap.size, 0, none⟩) len len, w', .inl ?_, .slice q4 (Nat.le_refl _) (Nat.le_refl _) (fun _ => rfl) (fun _ => rfl) (by simp only [Nat.zero_add]; rw [hsz]; exact Nat.le_refl _), q2, q3⟩
 have hnot : ¬ len * i.size > 2 ^ 24 := by omega
 simp only [Instr.buildSlice, Sem.run_bind, run_und hu, Result.andThen_ok, run_size hi, hnot, if_false]
 by_cases h0 : len * i.size = 0
 · have hzc : ((Array.range (len * i.size)).map fun k => (#[] : Array Value)[k % (#[] : Array Value).size]!) = ((Array.range (len * i.size)).map (z.cells[· % z.cells.size]!)) := by
    apply Array.ext
    · simp
    · intro k hk _; simp at hk; omega
   simp only [h0, if_true, Sem.run_bind, Sem.run_pure, Result.andThen_ok]
   rw [h0] at hzc r1
   rw [hzc]
   simp only [Array.toList_map] at r1 ⊢
   rw [r1]
   simp only [Sem.run_bind, q1, Result.andThen_ok, Sem.run_pure]
 · simp only [h0, if_false, Sem.run_bind, run_zero hi hz, Sem.run_pure, Result.andThen_ok]
   simp only [Array.toList_map] at r1 ⊢
   rw [r1]
   simp only [Sem.run_bind, q1, Result.andThen_ok, Sem.run_pure]
theorem d_bslice {t e : TypeId} {i : TypeInfo} {z : Value} {zs l : List AV} {parts : Array (Nat × Operand)} {xs : List (Nat × Nat × IX)} {len : Nat} (H : WR φ h nx w) (hE : ER φ env n a.tmps)
 (hu : P.underlying t = some (.slice e)) (hi : P.info? e = some i) (hz : i.zero = some z) (hl : avL z.cells.toList = some zs) (hs : i.size = zs.length) (hbig : len * i.size ≤ 16777216)
 (hp : PartsR (fun k => some (k * i.size, i.size)) parts.toList xs) (ha : afill env (arep zs len) xs = some l) (hsc : scal l = true) :
 Done P (do pure (.value (← Instr.buildSlice t len (parts.map fun (k, x) => (k, a.eval x))))) φ h w (.slice nx 0 len len i.size true) (h.put nx (.cells l.length (T.fill l .lf 0))) (nx + 1) := by
 have := d_bsliceA (P := P) (a := a) H (H.fresh nx (Nat.le_refl _)) H.not_res hE hu hi hz hl hs hbig hp ha hsc
 rwa [Nat.max_eq_right (Nat.le_succ nx)] at this
theorem d_mks {t e : TypeId} {i : TypeInfo} {z : Value} {zs : List AV} {k1 k2 : IntKind} {l c : Int} {x y : Value} (H : WR φ h nx w)
 (hu : P.underlying t = some (.slice e)) (hi : P.info? e = some i) (hz : i.zero = some z) (hl : avL z.cells.toList = some zs) (hs : i.size = zs.length)
 (hx : VR φ (.int k1 l) x) (hy : VR φ (.int k2 c) y) (h0 : 0 ≤ l) (hlc : l ≤ c) (hc : c ≤ 1048576) (hb : i.bytes ≤ 1048576) :
 Done P (do pure (.value (← Instr.makeSlice t x y))) φ h w (.slice nx 0 l.toNat c.toNat i.size true) (h.put nx (.cells (arep zs c.toNat).length (T.fill (arep zs c.toNat) .lf 0))) (nx + 1) := by
 cases hx; cases hy
 have hv := (avL_ok (φ := φ) hl).1
 have hsc := (avL_ok (φ := φ) hl).2
 have hlen : i.size = z.cells.size := by have := hv.length; simp at this; omega
 have hrange : VRL φ (arep zs c.toNat) ((Array.range (c.toNat * i.size)).map (z.cells[· % z.cells.size]!)).toList := by rw [hlen]; exact zero_cells hv _
 obtain ⟨ψ, w', q1, q2, q3, q4, _⟩ := run_newRow (P := P) H hrange (arep_scal hsc _) e
 have hw1 : IntKind.i64.wrap l = l := wrap_id (by simp [IntKind.min, IntKind.signed, IntKind.bits]; omega) (by simp [IntKind.max, IntKind.signed, IntKind.bits]; omega)
 have hw2 : IntKind.i64.wrap c = c := wrap_id (by simp [IntKind.min, IntKind.signed, IntKind.bits]; omega) (by simp [IntKind.max, IntKind.signed, IntKind.bits]; omega)
 refine ⟨ψ, .slice (some ⟨w.heap.size, 0, none⟩) l.toNat c.toNat, w', .inl ?_, .slice q4 (by omega) (Nat.le_refl _) (fun _ => rfl) (fun _ => rfl) (by simp), q2, q3⟩
 have hbig : ((i.bytes : Int) * c) ≤ 2 ^ 48 := by
  have h1 : (i.bytes : Int) ≤ 1048576 := by omega
  have : (i.bytes : Int) * c ≤ 1048576 * 1048576 := Int.mul_le_mul h1 hc (by omega) (by omega)
  omega
 have e1 : (decide (c < 0) || decide ((i.bytes : Int) * c > 2 ^ 48)) = false := by simp; omega
 simp only [Instr.makeSlice, Sem.run_bind, run_und hu, Result.andThen_ok, asInt, asIntOf, Sem.run_pure, typeInfo, run_program, hi, hw1, hw2, e1, Bool.false_or]
 have e2 : (decide (l < 0) || decide (l > c)) = false := by simp; omega
 simp only [e2, Bool.false_eq_true, if_false, Sem.run_bind, Sem.run_pure, Result.andThen_ok, run_askRoom, run_size hi]
 by_cases h00 : c.toNat * i.size = 0
 · have hzc : ((Array.range (c.toNat * i.size)).map fun k => (#[] : Array Value)[k % (#[] : Array Value).size]!) = ((Array.range (c.toNat * i.size)).map (z.cells[· % z.cells.size]!)) := by
    apply Array.ext
    · simp
    · intro k hk _; simp at hk; omega
   simp only [h00, if_true, Sem.run_bind, Sem.run_pure, Result.andThen_ok]
   rw [h00] at hzc q1
   rw [hzc]
   have q1' : (newRow e ((Array.range 0).map (z.cells[· % z.cells.size]!))).run P w = .ok ⟨w.heap.size, 0, none⟩ w' := q1
   rw [q1']
   rfl
 · have q1' : (newRow e ((Array.range (c.toNat * i.size)).map (z.cells[· % z.cells.size]!))).run P w = .ok ⟨w.heap.size, 0, none⟩ w' := q1
   simp only [h00, if_false, Sem.run_bind, run_zero hi hz, Sem.run_pure, Result.andThen_ok, q1']
theorem d_slV {t e : TypeId} {i : TypeInfo} {v : AV} {x : Value} {b o len cap : Nat} {ex : Bool} {lo hi mx : Option Value} {l hh m : Nat} (H : WR φ h nx w)
 (hu : P.underlying t = some (.slice e)) (hi' : P.info? e = some i) (hv : v = .slice b o len cap i.size ex ∨ (v = .nils ∧ len = 0 ∧ cap = 0)) (hx : VR φ v x)
 (hlo : match lo with | none => l = 0 | some u => ∃ k, u = .int k l) (hhi : match hi with | none => hh = len | some u => ∃ k, u = .int k hh) (hmx : match mx with | none => m = cap | some u => hi.isSome ∧ ∃ k, u = .int k m)
 (hl : l ≤ hh) (hhm : hh ≤ m) (hmc : m ≤ cap) :
 Done P (do pure (.value (← Instr.sliceAt t x lo hi mx))) φ h w
  (match v with | .slice b o _ _ es ex => .slice b (o + l * es) (hh - l) (m - l) es (ex || mx.isSome) | v => v) h nx := by
 have bound : ∀ (u : Value) (q y : Nat) (code : BoundsCode), (∃ k, u = .int k q) → q ≤ y → ∀ w : World, (Instr.sliceBound u y code).run P w = .ok q w := by
  rintro u q y code ⟨k, rfl⟩ hq w
  simp only [Instr.sliceBound, asIntOf, Sem.run_bind, Sem.run_pure, Result.andThen_ok]
  rw [if_pos (by omega)]
  simp
 rcases hv with rfl | ⟨rfl, rfl, rfl⟩
 · cases hx with
   | @slice _ _ _ _ _ _ ri ro cap' hp h1 h2 h3 h4 h5 =>
     -- the model's bound where no third index is given is its own capacity
     obtain ⟨mc, hmc0⟩ : ∃ mc : Nat, mc = match mx with | none => cap' | some _ => m := ⟨_, rfl⟩
     have hmc' : m ≤ mc ∧ mc ≤ cap' := by
      cases mx with
      | none => simp at hmx hmc0; omega
      | some u => simp at hmc0; omega
     have hb : (Instr.sliceBounds true len cap' lo hi mx).run P w = .ok (l, hh, mc) w := by
      have fin : ∀ (q : Nat) (cd : BoundsCode), ((do
       let l ← match lo with
        | some v => Instr.sliceBound v hh cd
        | none => pure 0
       pure (l, hh, q)) : Sem (Nat × Nat × Nat)).run P w = .ok (l, hh, q) w := by
       intro q cd
       cases lo with
       | none => simp at hlo; subst hlo; simp
       | some u => simp only [Sem.run_bind, bound u l hh _ hlo hl, Result.andThen_ok, Sem.run_pure]
      unfold Instr.sliceBounds
      cases mx with
      | none =>
        simp at hmc0; subst hmc0
        cases hi with
        | none =>
          simp at hhi; subst hhi
          simp only [Sem.run_bind, Sem.run_pure, Result.andThen_ok]
          have := fin mc .sliceB
          simp only [Sem.run_bind] at this
          exact this
        | some u2 =>
          have hhc : hh ≤ mc := by omega
          simp only [Sem.run_bind, Sem.run_pure, Result.andThen_ok, bound u2 hh mc _ hhi hhc]
          have := fin mc .sliceB
          simp only [Sem.run_bind] at this
          exact this
      | some u3 =>
        simp at hmc0; subst hmc0
        obtain ⟨hhs, hm3⟩ := hmx
        cases hi with
        | none => simp at hhs
        | some u2 =>
          have hmc3 : mc ≤ cap' := by omega
          simp only [Sem.run_bind, bound u3 mc cap' _ hm3 hmc3, Result.andThen_ok, bound u2 hh mc _ hhi hhm]
          have := fin mc .slice3C
          simp only [Sem.run_bind] at this
          exact this
     refine Done.pure (v' := .slice (some ⟨ri.blk, if mc = l then ro else ro + l * i.size, none⟩) (hh - l) (mc - l)) ?_ ?_ H
     · simp only [Instr.sliceAt, Sem.run_bind, run_und hu, Result.andThen_ok, Instr.slice, hb, run_size hi', Sem.run_pure]
       congr 3
       split <;> simp [addr_add, *]
     · refine .slice hp (by omega) (by omega) ?_ ?_ ?_
       · intro he
         cases mx with
         | none => simp at he hmx hmc0; have := h3 he; omega
         | some u => simp at hmc0; omega
       · intro h0
         rw [if_neg (by omega), h4 (by omega)]; omega
       · by_cases e : mc = l
         · rw [if_pos e, e]
           have : 0 ≤ cap' * i.size := Nat.zero_le _
           simp; omega
         · rw [if_neg e]
           have h6 : l * i.size + (mc - l) * i.size = mc * i.size := by rw [← Nat.add_mul]; congr 1; omega
           have h7 : mc * i.size ≤ cap' * i.size := Nat.mul_le_mul_right _ hmc'.2
           omega
 · cases hx
   have e1 : m = 0 := by omega
   have e2 : hh = 0 := by omega
   have e3 : l = 0 := by omega
   subst e1 e2 e3
   have hb : (Instr.sliceBounds true 0 0 lo hi mx).run P w = .ok (0, 0, 0) w := by
    unfold Instr.sliceBounds
    have fin : ∀ (q : Nat) (cd : BoundsCode), ((do
     let l ← match lo with
      | some v => Instr.sliceBound v 0 cd
      | none => pure 0
     pure (l, 0, q)) : Sem (Nat × Nat × Nat)).run P w = .ok (0, 0, q) w := by
     intro q cd
     cases lo with
     | none => simp
     | some u => simp only [Sem.run_bind, bound u 0 0 _ hlo (Nat.le_refl _), Result.andThen_ok, Sem.run_pure]
    cases mx with
    | none =>
      cases hi with
      | none =>
        simp only [Sem.run_bind, Sem.run_pure, Result.andThen_ok]
        have := fin 0 .sliceB
        simp only [Sem.run_bind] at this
        exact this
      | some u2 =>
        simp only [Sem.run_bind, Sem.run_pure, Result.andThen_ok, bound u2 0 0 _ hhi (Nat.le_refl _)]
        have := fin 0 .sliceB
        simp only [Sem.run_bind] at this
        exact this
    | some u3 =>
      obtain ⟨hhs, hm3⟩ := hmx
      cases hi with
      | none => simp at hhs
      | some u2 =>
        simp only [Sem.run_bind, bound u3 0 0 _ hm3 (Nat.le_refl _), Result.andThen_ok, bound u2 0 0 _ hhi (Nat.le_refl _)]
        have := fin 0 .slice3C
        simp only [Sem.run_bind] at this
        exact this
   refine Done.pure (v' := .slice none 0 0) ?_ .nils H
   simp only [Instr.sliceAt, Sem.run_bind, run_und hu, Result.andThen_ok, Instr.slice, hb, run_size hi', Sem.run_pure]
   simp
end
end Go.Ev
end
section
namespace Go.Ev
open Go.RowKit
theorem growBy_le (need : Nat) : ∀ (rounds c : Nat), c ≤ 3 * need + 10000 → Builtin.growBy need rounds c ≤ 3 * need + 10000
 | 0, c, h => h
 | r + 1, c, h => by
   unfold Builtin.growBy
   split
   · exact h
   · rename_i hc
     exact growBy_le need r _ (by omega)
theorem nextslicecap_le (need c : Nat) (h : c ≤ need) : Builtin.nextslicecap need c ≤ 3 * need + 10000 := by
 unfold Builtin.nextslicecap
 split
 · omega
 · split
   · omega
   · exact growBy_le need 4 c (by omega)
noncomputable def acells (h : Hp) (es : Nat) (y : AV) : Option (Nat × List AV) :=
 match y with
 | .nils => some (0, [])
 | .slice b o len _ es' _ => bif Nat.beq es es' then (h.get b).bind fun ob => match ob with
  | .cells n t => bif Nat.ble (o + len * es) n then (t.take (len * es) o).bind fun l => some (len, l) else none
  | _ => none
   else none
 | .str l => bif Nat.beq es 1 then some (l.length, l.map fun c => .int .u8 (Int.ofNat c)) else none
 | _ => none
section
variable {P : Program} {φ : Phi} {h : Hp} {nx : Nat} {w : World}
theorem slice_addr {φ : Phi} {b o len cap es : Nat} {ex : Bool} {v : Value} (hv : VR φ (.slice b o len cap es ex) v) :
 ∃ i ro cap', φ b = some i ∧ v = .slice (some ⟨i.blk, ro, none⟩) len cap' ∧ len ≤ cap ∧ cap ≤ cap' ∧ (ex = true → cap' = cap) ∧ (0 < cap → ro = i.off + o) ∧ ro + cap' * es ≤ i.size := by
 cases hv with
 | slice hp h1 h2 h3 h4 h5 => exact ⟨_, _, _, hp, rfl, h1, h2, h3, h4, h5⟩
theorem run_first (H : WR φ h nx w) {b o len cap es m : Nat} {ex : Bool} {x' : Value} (hx : VR φ (.slice b o len cap es ex) x') {t : T AV} (hb : h.get b = some (.cells m t)) (hm : o + len * es ≤ m) {l : List AV} (hl : t.take (len * es) o = some l) :
 ∃ l', VRL φ l l' ∧ (∀ v ∈ l, v.scalar = true) ∧ ∀ w2 : World, w2.heap = w.heap → (Builtin.firstCells es len x').run P w2 = .ok ⟨l'⟩ w2 := by
 obtain ⟨i, ro, cap', hp, rfl, h1, h2, h3, h4, h5⟩ := slice_addr hx
 by_cases h0 : len * es = 0
 · rw [h0] at hl
   rw [T.take_zero] at hl
   injection hl with hl; subst hl
   refine ⟨[], .nil, (fun v hv => by cases hv), fun w2 _ => ?_⟩
   simp [Builtin.firstCells, loadCells, h0, loadCellsFrom]
 · obtain ⟨i2, l', g1, g2, g3, g4⟩ := run_loadCellsA (P := P) H hb hm hl
   rw [hp] at g1; injection g1 with g1; subst g1
   have hlen : 0 < len := Nat.pos_of_ne_zero fun e => h0 (by rw [e]; simp)
   refine ⟨l', g2, g3, fun w2 hw2 => ?_⟩
   rw [h4 (by omega)]
   exact g4 w2 hw2
theorem acells_ok (H : WR φ h nx w) {es k : Nat} {y : AV} {y' : Value} {l : List AV} (hy : VR φ y y') (ha : acells h es y = some (k, l)) :
 (∀ w2 : World, (Builtin.lenOf y').run P w2 = .ok k w2) ∧ l.length = k * es ∧ ∃ l', VRL φ l l' ∧ (∀ v ∈ l, v.scalar = true) ∧ ∀ w2 : World, w2.heap = w.heap → (Builtin.firstCells es k y').run P w2 = .ok ⟨l'⟩ w2 := by
 unfold acells at ha
 split at ha
 · injection ha with ha; injection ha with h1 h2; subst h1; subst h2
   cases hy
   exact ⟨fun _ => rfl, by simp, [], .nil, (fun v hv => by cases hv), fun _ _ => rfl⟩
 · rename_i b o len cap es' ex
   cases he : Nat.beq es es' with
   | false => rw [he] at ha; cases ha
   | true =>
     rw [he] at ha
     have he := Nat.eq_of_beq_eq_true he
     subst he
     simp only [cond_true] at ha
     cases hb : h.get b with
     | none => rw [hb] at ha; cases ha
     | some ob =>
       rw [hb] at ha
       simp only [Option.bind_some] at ha
       cases ob with
       | cells n t =>
         simp only at ha
         cases hle : Nat.ble (o + len * es) n with
         | false => rw [hle] at ha; cases ha
         | true =>
           rw [hle] at ha
           have hle := Nat.le_of_ble_eq_true hle
           simp only [cond_true] at ha
           cases hl : t.take (len * es) o with
           | none => rw [hl] at ha; cases ha
           | some l2 =>
             rw [hl] at ha
             simp only [Option.bind_some] at ha
             injection ha with ha; injection ha with h1 h2; subst h1; subst h2
             obtain ⟨l', g1, g2, g3⟩ := run_first (P := P) H hy hb hle hl
             obtain ⟨i, ro, cap', hp, rfl, _⟩ := slice_addr hy
             exact ⟨fun _ => rfl, (T.take_some hl).1, l', g1, g2, g3⟩
       | _ => cases ha
 · rename_i s
   cases he : Nat.beq es 1 with
   | false => rw [he] at ha; cases ha
   | true =>
     rw [he] at ha
     have he := Nat.eq_of_beq_eq_true he
     subst he
     simp only [cond_true] at ha
     injection ha with ha; injection ha with h1 h2; subst h1; subst h2
     cases hy with
     | str s =>
       refine ⟨fun _ => by simp [Builtin.lenOf], by simp, s.data.toList.map fun b => .int .u8 b.toNat, ?_, ?_, fun w2 _ => ?_⟩
       · refine VRL.of_get (by simp) fun i v hi => ?_
         simp only [List.getElem?_map, Option.map_eq_some_iff] at hi
         obtain ⟨c, ⟨d, hd, rfl⟩, rfl⟩ := hi
         exact ⟨.int .u8 d.toNat, by simp [hd], .int _ _⟩
       · intro v hv
         simp at hv
         obtain ⟨c, _, rfl⟩ := hv
         rfl
       · have : s.extract 0 (s.data.toList.map UInt8.toNat).length = s := by
          simp
         simp only [Builtin.firstCells, this, Sem.run_pure]
         congr 1
         apply Array.toList_inj.1
         simp
 · cases ha
def isIntD : TypeDesc → Bool
 | .int _ => true
 | _ => false
theorem app_new {sT xT e : TypeId} {dX : TypeDesc} {i : TypeInfo} {z : Value} {ty : TypeId} {base : Option Addr} {sLen cap' k : Nat} {y' : Value} {old new : List AV} {old' new' : List Value} (H : WR φ h nx w)
 (hu : P.underlying sT = some (.slice e)) (hX : P.underlying xT = some dX) (hX' : isIntD dX = false) (hi : P.info? e = some i) (hz : i.zero = some z) (hbytes : i.bytes ≤ 1048576)
 (hlen : ∀ w : World, (Builtin.lenOf y').run P w = .ok k w) (hneed : cap' < sLen + k) (hsmall : sLen + k ≤ 1048576)
 (hold : ∀ w2 : World, w2.heap = w.heap → (Builtin.firstCells i.size sLen (.slice base sLen cap')).run P w2 = .ok ⟨old'⟩ w2) (hnew : ∀ w2 : World, w2.heap = w.heap → (Builtin.firstCells i.size k y').run P w2 = .ok ⟨new'⟩ w2)
 (ho : VRL φ old old') (hn : VRL φ new new') (hos : ∀ v ∈ old, v.scalar = true) (hns : ∀ v ∈ new, v.scalar = true) (hsz : old.length + new.length = (sLen + k) * i.size) (hzs : z.cells.size = i.size) :
 Done P (do pure (.value (← Builtin.append_ #[sT, xT] ty #[.slice base sLen cap', y']))) φ h w (.slice nx 0 (sLen + k) (sLen + k) i.size false) (h.put nx (.cells (old ++ new).length (T.fill (old ++ new) .lf 0))) (nx + 1) := by
 obtain ⟨nc, hnc⟩ : ∃ nc : Nat, nc = (Question.appendCap (sLen + k) cap' e).cut (w.tape w.drawn (Question.appendCap (sLen + k) cap' e)) := ⟨_, rfl⟩
 have hge : sLen + k ≤ nc := by rw [hnc]; exact Nat.le_add_right _ _
 obtain ⟨w1, hw1⟩ : ∃ w1 : World, w1 = { w with drawn := w.drawn + 1 } := ⟨_, rfl⟩
 have hh1 : w1.heap = w.heap := by rw [hw1]
 have H1 : WR φ h nx w1 := H.of_heap hh1
 have S1 : Stp φ h w φ h w1 := by rw [hw1]; exact Stp.drew φ h w
 obtain ⟨ψ, g1, g2, g3⟩ := H1.newCells' (junk := (Builtin.zeroCells z.cells (nc - (sLen + k))).toList) (ho.append hn) (fun v hv => by
  rcases List.mem_append.1 hv with hv | hv
  · exact hos v hv
  · exact hns v hv) e
 have hl' := (ho.append hn).length
 refine ⟨ψ, .slice (some ⟨w1.heap.size, 0, none⟩) (sLen + k) nc, _, .inl ?_, ?_, g1, S1.trans g2⟩
 · have h1 : ¬ (sLen + k ≤ cap') := by omega
   have h2 : ¬ (((sLen + k : Nat) : Int) > IntKind.i64.max ∧ (False ∨ i.bytes = 0)) := by
    intro hh; have := hh.1; simp [IntKind.max, IntKind.signed, IntKind.bits] at this; omega
   have h3 : ¬ (Builtin.nextslicecap (sLen + k) cap' * i.bytes > 2 ^ 48) := by
    have a1 := nextslicecap_le (sLen + k) cap' (by omega)
    have : Builtin.nextslicecap (sLen + k) cap' * i.bytes ≤ (3 * 1048576 + 10000) * 1048576 := Nat.mul_le_mul (by omega) hbytes
    omega
   have e1 : ((⟨old'⟩ : Array Value) ++ (⟨new'⟩ : Array Value) ++ Builtin.zeroCells z.cells (nc - (sLen + k))) = ⟨(old' ++ new') ++ (Builtin.zeroCells z.cells (nc - (sLen + k))).toList⟩ := by
    apply Array.toList_inj.1; simp
   cases dX
   case int => cases hX'
   all_goals
    simp only [Builtin.append_, List.getElem?_toArray, List.getElem?_cons_zero, List.getElem?_cons_succ, Sem.run_bind, run_und hu, Result.andThen_ok, run_size hi, run_und hX, Sem.run_pure, hlen, h1, if_false,
     typeInfo, run_program, hi, h2, h3, run_choose, Question.forced, Bool.false_eq_true, ← hnc, ← hw1, run_askRoom, hold w1 hh1, Bool.not_false, if_true, hnew w1 hh1, run_zero hi hz]
    rw [e1]
    simp [newRow]
 · refine .slice g3 (Nat.le_refl _) hge (fun h => by cases h) (fun _ => rfl) ?_
   have hzl : (Builtin.zeroCells z.cells (nc - (sLen + k))).toList.length = (nc - (sLen + k)) * i.size := by
    simp [Builtin.zeroCells, hzs]
   rw [hzl, ← hl', List.length_append, hsz, ← Nat.add_mul]
   have : sLen + k + (nc - (sLen + k)) = nc := by omega
   rw [this]; simp
end
end Go.Ev
end
section
namespace Go.Ev
open Go.RowKit
section
variable {P : Program} {φ : Phi} {h : Hp} {nx : Nat} {w : World}
theorem WR.retree {h2 : Hp} (H : WR φ h nx w) {x n : Nat} {t t' : T AV} (hx : h.get x = some (.cells n t)) (hx' : h2.get x = some (.cells n t')) (hne : ∀ b, b ≠ x → h2.get b = h.get b) (ht : ∀ k, k < n → t'.get k = t.get k) : WR φ h2 nx w := by
 have live : ∀ b, (h2.get b).isSome → (h.get b).isSome := by
  intro b hb
  by_cases e : b = x
  · subst e; rw [hx]; rfl
  · rw [← hne b e]; exact hb
 refine ⟨fun b o hb => ?_, fun b b' i i' h1 h2 => H.inj b b' i i' (live _ h1) (live _ h2), H.fresh, H.dom, H.low, H.hi⟩
 by_cases e : b = x
 · subst e
   rw [hx'] at hb; injection hb with hb; subst hb
   obtain ⟨i, hi, c, elem, fr, h1, h2, h3, h4, h5⟩ := H.obj _ _ hx
   exact ⟨i, hi, c, elem, fr, h1, h2, h3, h4, fun k hk => by rw [ht k hk]; exact h5 k hk⟩
 · exact H.obj b o (by rw [← hne b e]; exact hb)
theorem Done.retree {s : Sem Next} {v : AV} {h1 h2 : Hp} {nx1 x n : Nat} {t t' : T AV} (D : Done P s φ h w v h1 nx1) (hx : h1.get x = some (.cells n t)) (hx' : h2.get x = some (.cells n t')) (hne : ∀ b, b ≠ x → h2.get b = h1.get b) (ht : ∀ k, k < n → t'.get k = t.get k) :
 Done P s φ h w v h2 nx1 := by
 obtain ⟨ψ, v', w', r, hv, H, S⟩ := D
 refine ⟨ψ, v', w', r, hv, H.retree hx hx' hne ht, ⟨S.ext, S.res, S.size, S.os, S.tape, S.output, fun b i hb hi => S.own b i ?_ hi, S.frame⟩⟩
 by_cases e : b = x
 · subst e; rw [hx]; rfl
 · rw [← hne b e]; exact hb
theorem WR.takes (H : WR φ h nx w) {b n : Nat} {t : T AV} (hb : h.get b = some (.cells n t)) : ∀ (m k : Nat), k + m ≤ n → ∃ l, t.take m k = some l := by
 intro m
 induction m with
 | zero => intro k _; exact ⟨[], rfl⟩
 | succ m ih =>
   intro k hk
   obtain ⟨i, v, v', _, h2, _⟩ := H.cell hb (show k < n by omega)
   obtain ⟨l, hl⟩ := ih (k + 1) (by omega)
   exact ⟨v :: l, by rw [T.take_succ, h2, Option.bind_some, hl]; rfl⟩
theorem run_append_in {sT xT e : TypeId} {dX : TypeDesc} {i : TypeInfo} {ty : TypeId} {base : Option Addr} {sLen cap' k : Nat} {y' : Value} {new' : List Value} {w' : World}
 (hu : P.underlying sT = some (.slice e)) (hX : P.underlying xT = some dX) (hX' : isIntD dX = false) (hi : P.info? e = some i)
 (hlen : (Builtin.lenOf y').run P w = .ok k w) (hneed : sLen + k ≤ cap') (hnew : (Builtin.firstCells i.size k y').run P w = .ok ⟨new'⟩ w)
 (hst : match base with | some a => (storeCells (a.add (sLen * i.size)) new').run P w = .ok () w' | none => w' = w) :
 (Builtin.append_ #[sT, xT] ty #[.slice base sLen cap', y']).run P w = .ok (.slice base (sLen + k) cap') w' := by
 cases dX
 case int => cases hX'
 all_goals
  simp only [Builtin.append_, List.getElem?_toArray, List.getElem?_cons_zero, List.getElem?_cons_succ, Sem.run_bind, run_und hu, Result.andThen_ok, run_size hi, run_und hX, Sem.run_pure, hlen, hneed, if_true, Bool.false_eq_true, if_false,
   Bool.not_false, hnew]
  cases base with
  | none => simp only at hst; subst hst; simp
  | some a => simp only at hst; simp [hst]
noncomputable def aapp (h : Hp) (nx es : Nat) (s y : AV) : Option (AV × Hp × Nat) :=
 (acells h es y).bind fun kc => match s with
  | .nils => bif Nat.beq kc.1 0 then some (.nils, h, nx) else bif Nat.ble kc.1 1048576 then some (.slice nx 0 kc.1 kc.1 es false, h.put nx (.cells kc.2.length (T.fill kc.2 .lf 0)), nx + 1) else none
  | .slice b o len cap es' ex =>
    bif Nat.beq es es' then
     bif Nat.ble (len + kc.1) cap then
      (bif Nat.beq (kc.1 * es) 0 then some (.slice b o (len + kc.1) cap es ex, h, nx) else
       (h.get b).bind fun ob => match ob with
        | .cells n t => bif Nat.ble (o + len * es + kc.2.length) n then some (.slice b o (len + kc.1) cap es ex, h.put b (.cells n (T.fill kc.2 t (o + len * es))), nx) else none
        | _ => none)
     else bif Nat.ble (len + kc.1) 1048576 then
      (h.get b).bind fun ob => match ob with
       | .cells n t => bif Nat.ble (o + len * es) n then
        (Nat.rec (motive := fun _ => Option (T AV)) (some (T.fill kc.2 t (len * es))) (fun _ _ => (t.take (len * es) o).bind fun old => some (T.fill (old ++ kc.2) .lf 0)) o).bind fun t' =>
         some (.slice nx 0 (len + kc.1) (len + kc.1) es false, (bif ex then h else h.set b none).put nx (.cells (len * es + kc.2.length) t'), nx + 1)
         else none
       | _ => none
     else none
    else none
  | _ => none
theorem d_app {sT xT e : TypeId} {dX : TypeDesc} {i : TypeInfo} {z : Value} {ty : TypeId} {s y v : AV} {s' y' : Value} {h2 : Hp} {nx2 : Nat} (H : WR φ h nx w)
 (hu : P.underlying sT = some (.slice e)) (hX : P.underlying xT = some dX) (hX' : isIntD dX = false) (hi : P.info? e = some i) (hz : i.zero = some z) (hbytes : i.bytes ≤ 1048576) (hzs : z.cells.size = i.size)
 (hs : VR φ s s') (hy : VR φ y y') (ha : aapp h nx i.size s y = some (v, h2, nx2)) :
 Done P (do pure (.value (← Builtin.append_ #[sT, xT] ty #[s', y']))) φ h w v h2 nx2 := by
 unfold aapp at ha
 cases hc : acells h i.size y with
 | none => rw [hc] at ha; cases ha
 | some kc =>
 obtain ⟨k, cs⟩ := kc
 rw [hc] at ha
 simp only [Option.bind_some] at ha
 obtain ⟨hlen, hcl, new', hn1, hn2, hn3⟩ := acells_ok (P := P) H hy hc
 cases hs
 case nils =>
  simp only at ha
  cases hk : Nat.beq k 0 with
  | true =>
    have hk := Nat.eq_of_beq_eq_true hk
    subst hk
    simp only [Nat.beq_refl, cond_true] at ha
    injection ha with ha; injection ha with a1 a2; injection a2 with a2 a3; subst a1; subst a2; subst a3
    have := run_append_in (P := P) (ty := ty) (base := none) (sLen := 0) (cap' := 0) hu hX hX' hi (hlen w) (Nat.le_refl _) (hn3 w rfl) rfl
    exact Done.pure (by simp only [Sem.run_bind, this, Result.andThen_ok, Sem.run_pure]) .nils H
  | false =>
    rw [hk] at ha
    simp only [cond_false] at ha
    cases hsm : Nat.ble k 1048576 with
    | false => rw [hsm] at ha; cases ha
    | true =>
      rw [hsm] at ha
      simp only [cond_true] at ha
      injection ha with ha; injection ha with a1 a2; injection a2 with a2 a3; subst a1; subst a2; subst a3
      have hk0 : k ≠ 0 := fun e => by subst e; simp at hk
      have := app_new (P := P) (ty := ty) (base := none) (sLen := 0) (cap' := 0) (old := []) (old' := []) H hu hX hX' hi hz hbytes hlen (by omega) (by have := Nat.le_of_ble_eq_true hsm; omega) (fun _ _ => rfl) hn3 .nil hn1 (fun v hv => by cases hv) hn2 (by simp [hcl]) hzs
      simpa using this
 case slice b o len cap es ex ri ro cap' hp hl1 hl2 hl3 hl4 hl5 =>
  simp only at ha
  cases hes : Nat.beq i.size es with
  | false => rw [hes] at ha; cases ha
  | true =>
  rw [hes] at ha
  have hes := Nat.eq_of_beq_eq_true hes
  subst hes
  simp only [cond_true] at ha
  have hvs : VR φ (.slice b o len cap i.size ex) (.slice (some ⟨ri.blk, ro, none⟩) len cap') := .slice hp hl1 hl2 hl3 hl4 hl5
  cases hin : Nat.ble (len + k) cap with
  | true =>
    -- in its place, in both
    rw [hin] at ha
    have hin := Nat.le_of_ble_eq_true hin
    simp only [cond_true] at ha
    cases hk : Nat.beq (k * i.size) 0 with
    | true =>
      rw [hk] at ha
      have hk := Nat.eq_of_beq_eq_true hk
      simp only [cond_true] at ha
      injection ha with ha; injection ha with a1 a2; injection a2 with a2 a3; subst a1; subst a2; subst a3
      have hnil : cs = [] := List.eq_nil_of_length_eq_zero (by rw [hcl, hk])
      subst hnil
      cases hn1
      have := run_append_in (P := P) (ty := ty) (base := some ⟨ri.blk, ro, none⟩) (sLen := len) (cap' := cap') (w' := w) hu hX hX' hi (hlen w) (by omega) (hn3 w rfl) rfl
      exact Done.pure (by simp only [Sem.run_bind, this, Result.andThen_ok, Sem.run_pure]) (.slice hp hin hl2 hl3 hl4 hl5) H
    | false =>
      rw [hk] at ha
      simp only [cond_false] at ha
      have hk0 : k * i.size ≠ 0 := fun e => by rw [e] at hk; simp at hk
      have hkp : 0 < k := Nat.pos_of_ne_zero fun e => hk0 (by rw [e]; simp)
      cases hb : h.get b with
      | none => rw [hb] at ha; cases ha
      | some ob =>
      rw [hb] at ha
      simp only [Option.bind_some] at ha
      cases ob with
      | cells n t =>
        simp only at ha
        cases hle : Nat.ble (o + len * i.size + cs.length) n with
        | false => rw [hle] at ha; cases ha
        | true =>
          rw [hle] at ha
          have hle := Nat.le_of_ble_eq_true hle
          simp only [cond_true] at ha
          injection ha with ha; injection ha with a1 a2; injection a2 with a2 a3; subst a1; subst a2; subst a3
          have hro := hl4 (by omega)
          obtain ⟨w', r1, r2, r3⟩ := run_storeCells (P := P) b cs new' h w n t ri (ro + len * i.size) (o + len * i.size) 0 H hb hp hn1 hn2 hle (by omega)
          have := run_append_in (P := P) (ty := ty) (base := some ⟨ri.blk, ro, none⟩) (sLen := len) (cap' := cap') hu hX hX' hi (hlen w) (by omega) (hn3 w rfl) (by simp only [addr_add]; exact r1)
          exact ⟨φ, _, w', .inl (by simp only [Sem.run_bind, this, Result.andThen_ok, Sem.run_pure]), .slice hp hin hl2 hl3 hl4 hl5, r2, r3⟩
      | _ => cases ha
  | false =>
    rw [hin] at ha
    have hin' : cap < len + k := by
     rcases Nat.lt_or_ge cap (len + k) with h1 | h1
     · exact h1
     · have := Nat.ble_eq_true_of_le h1; rw [this] at hin; cases hin
    simp only [cond_false] at ha
    cases hsm : Nat.ble (len + k) 1048576 with
    | false => rw [hsm] at ha; cases ha
    | true =>
    rw [hsm] at ha
    have hsm := Nat.le_of_ble_eq_true hsm
    simp only [cond_true] at ha
    cases hb : h.get b with
    | none => rw [hb] at ha; cases ha
    | some ob =>
    rw [hb] at ha
    simp only [Option.bind_some] at ha
    cases ob with
    | cells n t =>
      simp only at ha
      cases hle : Nat.ble (o + len * i.size) n with
      | false => rw [hle] at ha; cases ha
      | true =>
      rw [hle] at ha
      have hle := Nat.le_of_ble_eq_true hle
      simp only [cond_true] at ha
      obtain ⟨old, hold⟩ := H.takes hb (len * i.size) o (by omega)
      have holdlen := (T.take_some hold).1
      obtain ⟨old', ho1, ho2, ho3⟩ := run_first (P := P) H hvs hb hle hold
      have hbn : b ≠ nx := fun e => by rw [e, H.none_of (Nat.le_refl _)] at hb; cases hb
      -- the tree of the new row
      obtain ⟨t', ht', hget⟩ : ∃ t', (some (AV.slice nx 0 (len + k) (len + k) i.size false, (bif ex then h else h.set b none).put nx (.cells (len * i.size + cs.length) t'), nx + 1) = some (v, h2, nx2)) ∧ ∀ x, x < (old ++ cs).length → t'.get x = (T.fill (old ++ cs) .lf 0).get x := by
       cases o with
       | zero =>
         refine ⟨_, ha, fun x hx => ?_⟩
         rw [T.get_fill, T.get_fill]
         rw [if_pos (show 0 ≤ x ∧ x < 0 + (old ++ cs).length from ⟨Nat.zero_le _, by omega⟩)]
         simp only [List.length_append] at hx
         by_cases h1 : len * i.size ≤ x
         · rw [if_pos ⟨h1, by omega⟩, List.getElem?_append_right (by omega), Nat.sub_zero, holdlen]
         · rw [if_neg (by omega), List.getElem?_append_left (by omega), Nat.sub_zero, ← (T.take_some hold).2 x (by omega)]
           simp
       | succ o =>
         simp only [hold, Option.bind_some] at ha
         exact ⟨_, ha, fun x hx => rfl⟩
      injection ht' with ht'; injection ht' with a1 a2; injection a2 with a2 a3; subst a1; subst a2; subst a3
      have hlens : (old ++ cs).length = len * i.size + cs.length := by simp [holdlen]
      rw [← hlens]
      by_cases hreal : len + k ≤ cap'
      · -- the world has room: there it is done in its place
        have hex : ex = false := by
         cases ex with
         | false => rfl
         | true => have := hl3 rfl; omega
        subst hex
        simp only [cond_false]
        obtain ⟨ri', hp', c, elem, fr, h1, h3, h4, h5, h6⟩ := H.obj _ _ hb
        rw [hp] at hp'; injection hp' with hp'; subst hp'
        have hbound : ro + (len + k) * i.size ≤ ri.size := by
         have := Nat.mul_le_mul_right i.size hreal; omega
        have hsplit : (len + k) * i.size = len * i.size + k * i.size := Nat.add_mul _ _ _
        have hnl := hn1.length
        obtain ⟨c', r1, r2, r3⟩ := run_storeRaw (P := P) ri.blk (ro + len * i.size) elem fr new' w c 0 h1 (by rw [h3]; exact h5) (fun v' hv' => by
         obtain ⟨j, hj⟩ := List.getElem?_of_mem hv'
         have hjl : j < cs.length := by rw [hnl]; exact (List.getElem?_eq_some_iff.1 hj).1
         obtain ⟨u, hu1, hu2⟩ := hn1.get j cs[j] (by simp [hjl])
         rw [hj] at hu1; injection hu1 with hu1; subst hu1
         rw [hu2.scalar_eq]; exact hn2 _ (List.getElem_mem hjl)) (by omega)
        obtain ⟨ψ, g1, g2, g3⟩ := H.regrow (elem := elem) (fr := fr) (c' := c') (l := old ++ cs) (o := ro) hb hp (by omega) h5 (by simp [holdlen]; omega) (fun q u hq => by
         rw [r3]
         rcases Nat.lt_or_ge q old.length with hq1 | hq1
         · rw [List.getElem?_append_left hq1] at hq
           rw [if_neg (by omega)]
           have hro := hl4 (by
            have : len * i.size ≠ 0 := by omega
            have : 0 < len := Nat.pos_of_ne_zero fun e => this (by rw [e]; simp)
            omega)
           obtain ⟨v1, v2, k1, k2, k3, k4⟩ := h6 (o + q) (by omega)
           have := (T.take_some hold).2 q (by omega)
           rw [k1, hq] at this; injection this with this; subst this
           exact ⟨v2, by rw [← k2]; congr 1; omega, k3, by rw [← k3.scalar_eq, k4]⟩
         · rw [List.getElem?_append_right hq1] at hq
           have hql : q - old.length < cs.length := (List.getElem?_eq_some_iff.1 hq).1
           obtain ⟨u', k1, k2⟩ := hn1.get _ _ hq
           refine ⟨u', ?_, k2, hn2 _ (List.mem_of_getElem? hq)⟩
           rw [if_pos (by omega), ← k1]; congr 1; omega)
        have hrun := run_append_in (P := P) (ty := ty) (base := some ⟨ri.blk, ro, none⟩) (sLen := len) (cap' := cap') hu hX hX' hi (hlen w) hreal (hn3 w rfl) (by simp only [addr_add]; exact r1)
        refine Done.retree (t := T.fill (old ++ cs) .lf 0) (x := nx) ⟨ψ, .slice (some ⟨ri.blk, ro, none⟩) (len + k) cap', _, .inl (by simp only [Sem.run_bind, hrun, Result.andThen_ok, Sem.run_pure]), ?_, g1, g2⟩ (T.get_put_eq _ _ _) (T.get_put_eq _ _ _) (fun b' hb' => by rw [T.get_put_ne _ _ hb', T.get_put_ne _ _ hb']) hget
        refine .slice (i := ⟨ri.blk, ro, ri.size⟩) g3 (Nat.le_refl _) hreal (fun h => by cases h) (fun _ => rfl) ?_
        exact hl5
      · -- new memory in both
        have D := app_new (P := P) (ty := ty) (base := some ⟨ri.blk, ro, none⟩) (sLen := len) (cap' := cap') (old := old) (old' := old') H hu hX hX' hi hz hbytes hlen (by omega) hsm ho3 hn3 ho1 hn1 ho2 hn2 (by rw [holdlen, hcl, Nat.add_mul]) hzs
        have D' := Done.retree (h2 := h.put nx (.cells (old ++ cs).length t')) D (T.get_put_eq _ _ _) (T.get_put_eq _ _ _) (fun b' hb' => by rw [T.get_put_ne _ _ hb', T.get_put_ne _ _ hb']) hget
        cases ex with
        | true => exact D'
        | false =>
          obtain ⟨ψ, v', w', q1, q2, q3, q4⟩ := D'
          obtain ⟨f1, f2⟩ := q3.forget b
          have e : ∀ x, ((h.set b none).put nx (.cells (old ++ cs).length t')).get x = ((h.put nx (.cells (old ++ cs).length t')).set b none).get x := by
           intro x
           by_cases e1 : x = nx
           · subst e1; rw [T.get_put_eq, T.get_set, if_neg (fun e => hbn e.symm), T.get_put_eq]
           · rw [T.get_put_ne _ _ e1, T.get_set, T.get_set, T.get_put_ne _ _ e1]
          exact ⟨ψ, v', w', q1, q2, f1.congr e, (q4.trans f2).congr e⟩
    | _ => cases ha
 all_goals cases ha
end
end Go.Ev
end
section
namespace Go.Ev
open Go.RowKit
section
variable {P : Program} {φ : Phi} {h : Hp} {nx : Nat} {w : World}
noncomputable def isShift : BinOp → Bool
 | .shl | .shr => true
 | _ => false
noncomputable def abin (op : BinOp) (x y : AV) : Option AV :=
 match x, y with
 | .int k a, .int k' b => bif isShift op then ashift op k a b else bif IntKind.same k k' then aint op k a b else none
 | .str a, .str b => astr op a b
 | _, _ => none
theorem run_eqGuard_int {op : BinOp} {t : TypeId} {x y : Operand} {k k' : IntKind} {a b : Int} : (eqGuard op t x y (.int k a) (.int k' b)).run P w = .ok () w := by
 unfold eqGuard
 cases op <;> simp
theorem run_eqGuard_str {op : BinOp} {t : TypeId} {x y : Operand} {a b : ByteArray} : (eqGuard op t x y (.string a) (.string b)).run P w = .ok () w := by
 unfold eqGuard
 cases op <;> simp
theorem d_bin {op : BinOp} {t : TypeId} {ox oy : Operand} {x y v : AV} {x' y' : Value} (H : WR φ h nx w) (hx : VR φ x x') (hy : VR φ y y') (ha : abin op x y = some v) :
 Done P (do pure (.value (← (do eqGuard op t ox oy x' y'; binOp op t x' y')))) φ h w v h nx := by
 unfold abin at ha
 split at ha
 · rename_i k a k' b
   cases hx; cases hy
   cases hs : isShift op with
   | true =>
     rw [hs] at ha
     simp only [cond_true] at ha
     unfold ashift at ha
     cases hb : ile 0 b with
     | false => rw [hb] at ha; cases ha
     | true =>
       rw [hb] at ha
       rw [ile_eq] at hb
       have hb := of_decide_eq_true hb
       simp only [cond_true] at ha
       have hnot : ¬ b < 0 := by omega
       cases op <;> simp [isShift] at hs <;> simp only at ha <;> (injection ha with ha; subst ha)
       · refine Done.pure ?_ (.int _ _) H
         simp only [Sem.run_bind, run_eqGuard_int, Result.andThen_ok, binOp, Op.shift, hnot, if_false, Sem.run_pure, wrapF_eq]
       · refine Done.pure ?_ (.int _ _) H
         simp only [Sem.run_bind, run_eqGuard_int, Result.andThen_ok, binOp, Op.shift, hnot, if_false, Sem.run_pure]
   | false =>
     rw [hs] at ha
     simp only [cond_false] at ha
     cases hk : IntKind.same k k' with
     | false => rw [hk] at ha; cases ha
     | true =>
       rw [hk] at ha
       have hk := IntKind.same_eq hk
       subst hk
       simp only [cond_true] at ha
       unfold aint at ha
       cases op <;> simp [isShift] at hs <;> simp only at ha
       case quo =>
        rw [ieq_eq] at ha
        cases hb : (b == 0) with
        | true => rw [hb] at ha; cases ha
        | false =>
          rw [hb] at ha
          simp only [cond_false] at ha
          injection ha with ha; subst ha
          have hb : ¬ b = 0 := by simpa using hb
          refine Done.pure ?_ (.int _ _) H
          simp only [Sem.run_bind, run_eqGuard_int, Result.andThen_ok, binOp, ne_eq, not_true, if_false, Op.intDiv, hb, Sem.run_pure, wrapF_eq]
       case rem =>
        rw [ieq_eq] at ha
        cases hb : (b == 0) with
        | true => rw [hb] at ha; cases ha
        | false =>
          rw [hb] at ha
          simp only [cond_false] at ha
          injection ha with ha; subst ha
          have hb : ¬ b = 0 := by simpa using hb
          refine Done.pure ?_ (.int _ _) H
          simp only [Sem.run_bind, run_eqGuard_int, Result.andThen_ok, binOp, ne_eq, not_true, if_false, Op.intDiv, hb, Sem.run_pure]
       all_goals (injection ha with ha; subst ha)
       case add => exact Done.pure (by simp only [Sem.run_bind, run_eqGuard_int, Result.andThen_ok, binOp, ne_eq, not_true, if_false, Op.intArith, Sem.run_pure, wrapF_eq]; rfl) (.int _ _) H
       case sub => exact Done.pure (by simp only [Sem.run_bind, run_eqGuard_int, Result.andThen_ok, binOp, ne_eq, not_true, if_false, Op.intArith, Sem.run_pure, wrapF_eq]; rfl) (.int _ _) H
       case mul => exact Done.pure (by simp only [Sem.run_bind, run_eqGuard_int, Result.andThen_ok, binOp, ne_eq, not_true, if_false, Op.intArith, Sem.run_pure, wrapF_eq]; rfl) (.int _ _) H
       case and => exact Done.pure (by simp only [Sem.run_bind, run_eqGuard_int, Result.andThen_ok, binOp, ne_eq, not_true, if_false, Op.intBits, Sem.run_pure]) (.int _ _) H
       case or => exact Done.pure (by simp only [Sem.run_bind, run_eqGuard_int, Result.andThen_ok, binOp, ne_eq, not_true, if_false, Op.intBits, Sem.run_pure]) (.int _ _) H
       case xor => exact Done.pure (by simp only [Sem.run_bind, run_eqGuard_int, Result.andThen_ok, binOp, ne_eq, not_true, if_false, Op.intBits, Sem.run_pure]) (.int _ _) H
       case andNot => exact Done.pure (by simp only [Sem.run_bind, run_eqGuard_int, Result.andThen_ok, binOp, ne_eq, not_true, if_false, Op.intBits, Sem.run_pure]) (.int _ _) H
       case eql => exact Done.pure (by simp only [Sem.run_bind, run_eqGuard_int, Result.andThen_ok, binOp, ne_eq, not_true, if_false, Op.intCmp, Sem.run_pure, ieq_eq]) (.bool _) H
       case neq => exact Done.pure (by simp only [Sem.run_bind, run_eqGuard_int, Result.andThen_ok, binOp, ne_eq, not_true, if_false, Op.intCmp, Sem.run_pure, ieq_eq]; rfl) (.bool _) H
       case lss =>
        refine Done.pure (v' := .bool (decide (a < b))) (by simp only [Sem.run_bind, run_eqGuard_int, Result.andThen_ok, binOp, ne_eq, not_true, if_false, Op.intCmp, Sem.run_pure]) ?_ H
        rw [ile_eq, show (!decide (b ≤ a)) = decide (a < b) from by rw [← decide_not]; congr 1; simp]
        exact .bool _
       case leq =>
        refine Done.pure (v' := .bool (decide (a ≤ b))) (by simp only [Sem.run_bind, run_eqGuard_int, Result.andThen_ok, binOp, ne_eq, not_true, if_false, Op.intCmp, Sem.run_pure]) ?_ H
        rw [ile_eq]; exact .bool _
       case gtr =>
        refine Done.pure (v' := .bool (decide (a > b))) (by simp only [Sem.run_bind, run_eqGuard_int, Result.andThen_ok, binOp, ne_eq, not_true, if_false, Op.intCmp, Sem.run_pure]) ?_ H
        rw [ile_eq, show (!decide (a ≤ b)) = decide (a > b) from by rw [← decide_not]; congr 1; simp]
        exact .bool _
       case geq =>
        refine Done.pure (v' := .bool (decide (a ≥ b))) (by simp only [Sem.run_bind, run_eqGuard_int, Result.andThen_ok, binOp, ne_eq, not_true, if_false, Op.intCmp, Sem.run_pure]) ?_ H
        rw [ile_eq]; exact .bool _
 · rename_i a b
   cases hx with
   | str s =>
   cases hy with
   | str s' =>
   have hlists : ∀ q : ByteArray, q.toList = q.data.toList := fun q => Go.ByteArray.toList_eq q
   have heq : leqb (s.data.toList.map UInt8.toNat) (s'.data.toList.map UInt8.toNat) = (s.toList == s'.toList) := by
    rw [leqb_eq, hlists, hlists, Bool.eq_iff_iff, decide_eq_true_iff, beq_iff_eq]
    exact ⟨toNat_inj, fun e => by rw [e]⟩
   have hlt : llt (s.data.toList.map UInt8.toNat) (s'.data.toList.map UInt8.toNat) = Op.bytesLess s.toList s'.toList := by rw [llt_eq, hlists, hlists]
   unfold astr at ha
   rw [heq, hlt] at ha
   cases op <;> simp only at ha
   case add =>
    cases hb : Nat.ble ((s.data.toList.map UInt8.toNat).length + (s'.data.toList.map UInt8.toNat).length) 1000000000 with
    | false => rw [hb] at ha; cases ha
    | true =>
      rw [hb] at ha
      have hb := Nat.le_of_ble_eq_true hb
      simp only [cond_true] at ha
      injection ha with ha; subst ha
      have hnot : ¬ (((s.size + s'.size : Nat) : Int) > IntKind.i64.max) := by
       simp [IntKind.max, IntKind.signed, IntKind.bits] at hb ⊢; omega
      refine Done.pure (v' := .string (s ++ s')) ?_ ?_ H
      · simp only [Sem.run_bind, run_eqGuard_str, Result.andThen_ok, binOp, Op.stringOp, hnot, if_false, Sem.run_pure]
      · have : s.data.toList.map UInt8.toNat ++ s'.data.toList.map UInt8.toNat = (s ++ s').data.toList.map UInt8.toNat := by simp
        rw [this]; exact .str _
   all_goals first
    | cases ha; done
    | (injection ha with ha; subst ha
       exact Done.pure (by simp only [Sem.run_bind, run_eqGuard_str, Result.andThen_ok, binOp, Op.stringOp, Sem.run_pure]) (.bool _) H)
 · cases ha
end
end Go.Ev
end
section
namespace Go.Ev
open Go.RowKit
noncomputable def anil (k : Nat) (x y : AV) : Option Bool :=
 match k, x, y with
 | 0, .nilp, .nilp => some true
 | 0, .nilp, .ptr _ _ => some false
 | 0, .ptr _ _, .nilp => some false
 | 1, .nils, .nils => some true
 | 1, .nils, .slice _ _ _ _ _ _ => some false
 | 1, .slice _ _ _ _ _ _, .nils => some false
 | 2, .nilm, .nilm => some true
 | 2, .nilm, .map _ => some false
 | 2, .map _, .nilm => some false
 | 3, .nilf, .nilf => some true
 | 3, .nilf, .fn _ _ _ => some false
 | 3, .fn _ _ _, .nilf => some false
 | 4, .bool a, .bool b => some (Bool.rec (motive := fun _ => Bool) (!b) b a)
 | _, _, _ => none
def nilD : TypeDesc → Option Nat
 | .pointer _ => some 0
 | .slice _ => some 1
 | .map _ _ => some 2
 | .func _ _ _ => some 3
 | .bool => some 4
 | _ => none
noncomputable def aeq1 (x y : AV) : Option Bool :=
 match x, y with
 | .int k a, .int k' b => bif IntKind.same k k' then some (ieq a b) else none
 | .str a, .str b => some (leqb a b)
 | .bool a, .bool b => some (Bool.rec (motive := fun _ => Bool) (!b) b a)
 | _, _ => none
noncomputable def aeqs (x y : List AV) (offs : List Nat) : Option Bool :=
 List.rec (motive := fun _ => Option Bool) (some true)
  (fun o _ ih => (x[o]?).bind fun a => (y[o]?).bind fun b => (aeq1 a b).bind fun e => Bool.rec (motive := fun _ => Option Bool) (some false) ih e) offs
def plainD : TypeDesc → Bool
 | .bool | .int _ | .string => true
 | _ => false
section
variable {P : Program} {φ : Phi} {h : Hp} {nx : Nat} {w : World}
theorem bool_eq (a b : Bool) : (Bool.rec (motive := fun _ => Bool) (!b) b a) = (a == b) := by cases a <;> cases b <;> rfl
theorem run_equalIn_nil {t : TypeId} {d : TypeDesc} {k : Nat} {x y : AV} {x' y' : Value} {b : Bool} (q : Nat) (hu : P.underlying t = some d) (hd : nilD d = some k) (hx : VR φ x x') (hy : VR φ y y') (ha : anil k x y = some b) :
 (Op.equalIn (q + 1) t x' y').run P w = .ok b w := by
 unfold anil at ha
 split at ha
 case h_14 => cases ha
 case h_13 =>
  injection ha with ha; subst ha
  cases hx; cases hy
  cases d <;> simp [nilD] at hd
  simp [Op.equalIn, run_und hu, bool_eq]
 all_goals
  injection ha with ha; subst ha
  cases hx; cases hy
  cases d <;> simp [nilD] at hd
  simp [Op.equalIn, run_und hu]
theorem bytes_beq (s s' : ByteArray) : (s == s') = decide (s = s') := by
 obtain ⟨d⟩ := s; obtain ⟨d'⟩ := s'
 show (d == d') = _
 rw [Bool.eq_iff_iff, beq_iff_eq, decide_eq_true_iff]
 exact ⟨fun e => by rw [e], fun e => by injection e⟩
def kOk (d : TypeDesc) : AV → Prop
 | .bool _ => d = .bool
 | .int _ _ => ∃ k, d = .int k
 | .str _ => d = .string
 | _ => False
theorem run_equalIn_plain {t : TypeId} {d : TypeDesc} {x y : AV} {x' y' : Value} {b : Bool} (q : Nat) (hu : P.underlying t = some d) (hx : VR φ x x') (hy : VR φ y y') (ha : aeq1 x y = some b)
 (hk : kOk d x) :
 (Op.equalIn (q + 1) t x' y').run P w = .ok b w := by
 unfold aeq1 at ha
 split at ha
 · rename_i k m k' m'
   cases hx; cases hy
   cases hs : IntKind.same k k' with
   | false => simp only [hs, cond_false] at ha; cases ha
   | true =>
     have hs' := IntKind.same_eq hs
     subst hs'
     simp only [hs, cond_true] at ha
     injection ha with ha; subst ha
     obtain ⟨k2, rfl⟩ : ∃ k, d = .int k := hk
     simp [Op.equalIn, run_und hu, ieq_eq]
 · rename_i s s'
   cases hx with
   | str s =>
   cases hy with
   | str s' =>
   injection ha with ha; subst ha
   have hk : d = _ := hk
   subst hk
   have : leqb (s.data.toList.map UInt8.toNat) (s'.data.toList.map UInt8.toNat) = (s == s') := by
    rw [leqb_eq, bytes_beq, Bool.eq_iff_iff, decide_eq_true_iff, decide_eq_true_iff]
    exact ⟨str_inj, fun e => by rw [e]⟩
   rw [this]
   simp [Op.equalIn, run_und hu]
 · cases hx; cases hy
   injection ha with ha; subst ha
   have hk : d = _ := hk
   subst hk
   simp [Op.equalIn, run_und hu, bool_eq]
 · cases ha
theorem d_eqn {t : TypeId} {d : TypeDesc} {k : Nat} {neg : Bool} {ox oy : Operand} {x y : AV} {x' y' : Value} {b : Bool} (H : WR φ h nx w) (hu : P.underlying t = some d) (hd : nilD d = some k) (hx : VR φ x x') (hy : VR φ y y') (ha : anil k x y = some b) :
 Done P (do pure (.value (← (do eqGuard (if neg then .neq else .eql) t ox oy x' y'; binOp (if neg then .neq else .eql) t x' y')))) φ h w (.bool (Bool.rec (motive := fun _ => Bool) b (!b) neg)) h nx := by
 obtain ⟨q, hq⟩ : ∃ q, Op.maxDepth = q + 1 := ⟨9999, rfl⟩
 have heq := run_equalIn_nil (P := P) (w := w) q hu hd hx hy ha
 rw [← hq] at heq
 have hg : ∀ op, (eqGuard op t ox oy x' y').run P w = .ok () w := by
  intro op
  unfold anil at ha
  split at ha <;> (first | (cases ha; done) | (cases hx; cases hy; unfold eqGuard; cases op <;> simp))
 have hb : ∀ op, op = .eql ∨ op = .neq → binOp op t x' y' = (match op with | .eql => (do pure (.bool (← Op.equal t x' y'))) | _ => (do pure (.bool (!(← Op.equal t x' y'))))) := by
  intro op hop
  unfold anil at ha
  split at ha <;> (first | (cases ha; done) | (cases hx; cases hy; rcases hop with rfl | rfl <;> rfl))
 cases neg with
 | false =>
   refine Done.pure (v' := .bool b) ?_ (.bool _) H
   simp only [Bool.false_eq_true, if_false, Sem.run_bind, hg, Result.andThen_ok, hb .eql (.inl rfl), Op.equal, heq, Sem.run_pure]
 | true =>
   refine Done.pure (v' := .bool (!b)) ?_ (.bool _) H
   simp only [if_true, Sem.run_bind, hg, Result.andThen_ok, hb .neq (.inr rfl), Op.equal, heq, Sem.run_pure]
theorem run_eqFields (q : Nat) {xs ys : List AV} {xs' ys' : List Value} (hx : VRL φ xs xs') (hy : VRL φ ys ys') : ∀ (fs : List Field) (b : Bool), (∀ f ∈ fs, f.name ≠ "_" ∧ ∃ d, P.underlying f.type = some d ∧ plainD d = true ∧ ∀ v, xs[f.offset]? = some v → kOk d v) →
 aeqs xs ys (fs.map (·.offset)) = some b → (Op.eqFields (q + 1) ⟨xs'⟩ ⟨ys'⟩ fs).run P w = .ok b w := by
 intro fs
 induction fs with
 | nil => intro b _ hb; have hb : some true = some b := hb; injection hb with hb; subst hb; rfl
 | cons f fs ih =>
   intro b hf hb
   obtain ⟨hname, d, hu, hpl, hk⟩ := hf f (List.mem_cons_self ..)
   have hb' : ((xs[f.offset]?).bind fun a => (ys[f.offset]?).bind fun b => (aeq1 a b).bind fun e => Bool.rec (motive := fun _ => Option Bool) (some false) (aeqs xs ys (fs.map (·.offset))) e) = some b := hb
   cases h1 : xs[f.offset]? with
   | none => rw [h1] at hb'; cases hb'
   | some u =>
   cases h2 : ys[f.offset]? with
   | none => rw [h1, h2] at hb'; cases hb'
   | some v =>
   rw [h1, h2] at hb'
   simp only [Option.bind_some] at hb'
   cases h3 : aeq1 u v with
   | none => rw [h3] at hb'; cases hb'
   | some e =>
   rw [h3] at hb'
   simp only [Option.bind_some] at hb'
   obtain ⟨u', g1, g2⟩ := hx.get _ _ h1
   obtain ⟨v', g3, g4⟩ := hy.get _ _ h2
   have hpart : ∀ (l : List Value) (z : Value), l[f.offset]? = some z → (part f.type ⟨l⟩ f.offset).run P w = .ok z w := by
    intro l z hz
    have hag : aggD d = false := by cases d <;> simp [plainD] at hpl <;> rfl
    simp only [part, Sem.run_bind, run_isAgg hu, hag, Result.andThen_ok, Bool.false_eq_true, if_false, List.getElem?_toArray, hz, Sem.run_pure]
   have heq := run_equalIn_plain (P := P) (w := w) q hu g2 g4 h3 (hk u h1)
   simp only [Op.eqFields, hname, ne_eq, not_false_eq_true, if_true, Sem.run_bind, hpart _ _ g1, hpart _ _ g3, Result.andThen_ok, heq]
   cases e with
   | false => have hb' : some false = some b := hb'; injection hb' with hb'; subst hb'; simp
   | true =>
     simp only [Bool.not_true, Bool.false_eq_true, if_false]
     exact ih b (fun g hg => hf g (List.mem_cons_of_mem _ hg)) hb'
noncomputable def kind1 (v : AV) (k : Nat) : Bool :=
 match v, k with
 | .bool _, 0 | .int _ _, 1 | .str _, 2 => true
 | _, _ => false
noncomputable def kinds (l : List AV) (offs : List (Nat × Nat)) : Bool :=
 List.rec (motive := fun _ => Bool) true (fun o _ ih => Option.rec (motive := fun _ => Bool) false (fun v => Bool.rec (motive := fun _ => Bool) false ih (kind1 v o.2)) l[o.1]?) offs
def tagD : TypeDesc → Option Nat
 | .bool => some 0
 | .int _ => some 1
 | .string => some 2
 | _ => none
theorem kind1_ok {v : AV} {d : TypeDesc} {k : Nat} (hd : tagD d = some k) (h : kind1 v k = true) : kOk d v := by
 unfold kind1 at h
 split at h <;> (first | (cases h; done) | (cases d <;> simp [tagD] at hd <;> first | rfl | exact ⟨_, rfl⟩))
structure FlatT (P : Program) (t : TypeId) (offs : List (Nat × Nat)) : Prop where
 und : P.underlying t = some (.struct (P.fieldsOf t))
 held : P.stoodInHeld t = false
 guard : P.eqGuardType P.depth t = false
 len : (P.fieldsOf t).toList.length = offs.length
 fields : ∀ (i : Nat) (f : Field) (o : Nat × Nat), (P.fieldsOf t).toList[i]? = some f → offs[i]? = some o → f.name ≠ "_" ∧ f.offset = o.1 ∧ ∃ d, P.underlying f.type = some d ∧ tagD d = some o.2
theorem kinds_ok {l : List AV} : ∀ (offs : List (Nat × Nat)) (i : Nat) (o : Nat × Nat), kinds l offs = true → offs[i]? = some o → ∃ v, l[o.1]? = some v ∧ kind1 v o.2 = true := by
 intro offs
 induction offs with
 | nil => intro i o _ h; simp at h
 | cons p offs ih =>
   intro i o hk hi
   have hk' : Option.rec (motive := fun _ => Bool) false (fun v => Bool.rec (motive := fun _ => Bool) false (kinds l offs) (kind1 v p.2)) l[p.1]? = true := hk
   cases hv : l[p.1]? with
   | none => rw [hv] at hk'; cases hk'
   | some v =>
     rw [hv] at hk'
     simp only at hk'
     cases hk1 : kind1 v p.2 with
     | false => rw [hk1] at hk'; cases hk'
     | true =>
       rw [hk1] at hk'
       cases i with
       | zero => simp at hi; subst hi; exact ⟨v, hv, hk1⟩
       | succ i => exact ih i o hk' (by simpa using hi)
theorem d_eqs {t : TypeId} {neg : Bool} {ox oy : Operand} {l1 l2 : List AV} {x' y' : Value} {b : Bool} {offs : List (Nat × Nat)} (H : WR φ h nx w) (hf : FlatT P t offs) (hx : VR φ (.agg l1) x') (hy : VR φ (.agg l2) y') (hk : kinds l1 offs = true) (ha : aeqs l1 l2 (offs.map (·.1)) = some b) :
 Done P (do pure (.value (← (do eqGuard (if neg then .neq else .eql) t ox oy x' y'; binOp (if neg then .neq else .eql) t x' y')))) φ h w (.bool (Bool.rec (motive := fun _ => Bool) b (!b) neg)) h nx := by
 cases hx with
 | @agg _ l1' h1 =>
 cases hy with
 | @agg _ l2' h2 =>
 have hoffs : offs.map (·.1) = (P.fieldsOf t).toList.map (·.offset) := by
  apply List.ext_getElem?
  intro i
  simp only [List.getElem?_map]
  cases hi : (P.fieldsOf t).toList[i]? with
  | none =>
    have : offs[i]? = none := by rw [List.getElem?_eq_none_iff] at hi ⊢; rw [← hf.len]; exact hi
    rw [this]; rfl
  | some f =>
    have hlt : i < offs.length := by rw [← hf.len]; exact (List.getElem?_eq_some_iff.1 hi).1
    have ho : offs[i]? = some offs[i] := by simp [hlt]
    obtain ⟨_, h4, _⟩ := hf.fields i f _ hi ho
    rw [ho]; simp [h4]
 rw [hoffs] at ha
 have hrun := run_eqFields (P := P) (w := w) 9998 h1 h2 (P.fieldsOf t).toList b (fun f hfm => by
  obtain ⟨i, hi⟩ := List.getElem?_of_mem hfm
  have hlt : i < offs.length := by rw [← hf.len]; exact (List.getElem?_eq_some_iff.1 hi).1
  have ho : offs[i]? = some offs[i] := by simp [hlt]
  obtain ⟨h3, h4, d, h5, h6⟩ := hf.fields i f _ hi ho
  refine ⟨h3, d, h5, by cases d <;> simp [tagD] at h6 <;> rfl, fun v hv => ?_⟩
  obtain ⟨v2, h7, h8⟩ := kinds_ok offs i _ hk ho
  rw [h4, h7] at hv; injection hv with hv; subst hv
  exact kind1_ok h6 h8) ha
 have hst := run_equalIn_struct (P := P) w 9999 t ⟨l1'⟩ ⟨l2'⟩ hf.und hf.held
 rw [hrun] at hst
 cases neg with
 | false =>
   refine Done.pure (v' := .bool b) ?_ (.bool _) H
   simp only [Bool.false_eq_true, if_false, Sem.run_bind, run_eqGuard_agg w _ _ _ _ _ _ hf.guard, Result.andThen_ok, run_eql_struct, hst, Sem.run_pure]
 | true =>
   refine Done.pure (v' := .bool (!b)) ?_ (.bool _) H
   simp only [if_true, Sem.run_bind, run_eqGuard_agg w _ _ _ _ _ _ hf.guard, Result.andThen_ok, run_neq_struct, hst, Sem.run_pure]
end
end Go.Ev
end
section
namespace Go.Ev
open Go.RowKit
section
variable {P : Program} {φ : Phi} {h : Hp} {nx : Nat} {w : World}
noncomputable def aun (op : UnOp) (x : AV) : Option AV :=
 match op, x with
 | .neg, .int k n => some (.int k (wrapF k (Int.neg n)))
 | .not, .bool b => some (.bool (!b))
 | .xor, .int k n => some (.int k (k.wrap ((BitVec.ofInt k.bits (if k.signed then -1 else k.max) ^^^ BitVec.ofInt k.bits n).toNat : Int)))
 | _, _ => none
theorem d_un {op : UnOp} {x v : AV} {x' : Value} (H : WR φ h nx w) (hx : VR φ x x') (ha : aun op x = some v) : Done P (do pure (.value (← Op.unary op x'))) φ h w v h nx := by
 unfold aun at ha
 split at ha
 · injection ha with ha; subst ha
   cases hx with
   | int k n =>
     refine Done.pure ?_ (.int _ _) H
     simp only [Op.unary, Op.intArith, Sem.run_bind, Sem.run_pure, Result.andThen_ok, wrapF_eq, Int.zero_sub]
     rfl
 · injection ha with ha; subst ha
   cases hx
   exact Done.pure (by simp only [Op.unary, Sem.run_bind, Sem.run_pure, Result.andThen_ok]) (.bool _) H
 · injection ha with ha; subst ha
   cases hx
   exact Done.pure (by simp only [Op.unary, Op.intBits, Sem.run_bind, Sem.run_pure, Result.andThen_ok]) (.int _ _) H
 · cases ha
theorem d_cvI {s d : TypeId} {ds : TypeDesc} {k k' : IntKind} {n : Int} {x' : Value} (H : WR φ h nx w) (hs : P.underlying s = some ds) (hd : P.underlying d = some (.int k)) (hx : VR φ (.int k' n) x') :
 Done P (do pure (.value (← convert s d x'))) φ h w (.int k (wrapF k n)) h nx := by
 cases hx
 refine Done.pure ?_ (.int _ _) H
 simp only [convert, Sem.run_bind, run_und hs, run_und hd, Result.andThen_ok]
 cases ds <;> simp [Conv.intToInt, wrapF_eq]
theorem d_cvS {s d : TypeId} {l : List Nat} {x' : Value} (H : WR φ h nx w) (hs : P.underlying s = some .string) (hd : P.underlying d = some .string) (hx : VR φ (.str l) x') :
 Done P (do pure (.value (← convert s d x'))) φ h w (.str l) h nx := by
 cases hx
 refine Done.pure ?_ (.str _) H
 simp only [convert, Sem.run_bind, run_und hs, run_und hd, Result.andThen_ok, Sem.run_pure]
theorem d_fa {t : TypeId} {fs : Array Field} {f : Field} {k : Nat} {j : TypeInfo} {b o : Nat} {x' : Value} (H : WR φ h nx w) (hu : P.underlying t = some (.struct fs)) (hf : fs[k]? = some f) (hj : P.info? f.type = some j) (hsz : j.size ≠ 0) (hx : VR φ (.ptr b o) x') :
 Done P (do pure (.value (← Instr.fieldAt t x' k))) φ h w (.ptr b (o + f.offset)) h nx := by
 cases hx with
 | @ptr _ _ i hp =>
   refine Done.pure (v' := .pointer (some ⟨i.blk, i.off + (o + f.offset), none⟩)) ?_ (.ptr hp) H
   simp only [Instr.fieldAt, Sem.run_bind, run_und hu, Result.andThen_ok, hf, Instr.sureAddr, Sem.run_pure, fieldPlace, run_size hj, hsz, if_false, addr_add, Nat.add_assoc]
theorem d_iaV {t e : TypeId} {i : TypeInfo} {b o len cap : Nat} {ex : Bool} {k : IntKind} {n : Int} {x' y' : Value} (H : WR φ h nx w) (hu : P.underlying t = some (.slice e)) (hi : P.info? e = some i) (hx : VR φ (.slice b o len cap i.size ex) x') (hy : VR φ (.int k n) y') (h0 : 0 ≤ n) (hn : n.toNat < len) :
 Done P (do pure (.value (← Instr.indexAt t x' y'))) φ h w (.ptr b (o + n.toNat * i.size)) h nx := by
 cases hy
 obtain ⟨ri, ro, cap', hp, rfl, h1, h2, h3, h4, h5⟩ := slice_addr hx
 refine Done.pure (v' := .pointer (some ⟨ri.blk, ri.off + (o + n.toNat * i.size), none⟩)) ?_ (.ptr hp) H
 have hin : 0 ≤ n ∧ n < (len : Int) := by omega
 simp only [Instr.indexAt, asIntOf, Sem.run_bind, Sem.run_pure, Result.andThen_ok, run_und hu, hin, and_self, if_true, run_size hi, addr_add, h4 (by omega), Nat.add_assoc]
theorem d_ixS {t : TypeId} {l : List Nat} {k : IntKind} {n : Int} {c : Nat} {x' y' : Value} (H : WR φ h nx w) (hu : P.underlying t = some .string) (hx : VR φ (.str l) x') (hy : VR φ (.int k n) y') (h0 : 0 ≤ n) (hc : l[n.toNat]? = some c) :
 Done P (do pure (.value (← Instr.index t x' y'))) φ h w (.int .u8 (Int.ofNat c)) h nx := by
 cases hy
 cases hx with
 | str s =>
   simp only [List.getElem?_map, Option.map_eq_some_iff] at hc
   obtain ⟨u, hu2, rfl⟩ := hc
   refine Done.pure (v' := .int .u8 u.toNat) ?_ (.int _ _) H
   have hs : s[n.toNat]? = some u := by
    have hlt : n.toNat < s.data.toList.length := (List.getElem?_eq_some_iff.1 hu2).1
    have hlt' : n.toNat < s.size := by simpa using hlt
    rw [getElem?_pos s _ hlt']
    rw [List.getElem?_eq_getElem hlt] at hu2
    injection hu2 with hu2
    rw [← hu2]; rfl
   simp only [Instr.index, asIntOf, Sem.run_bind, Sem.run_pure, Result.andThen_ok, run_und hu, h0, if_true, hs]
theorem d_slS {t : TypeId} {l : List Nat} {x' : Value} {lo hi : Option Value} {a b : Nat} (H : WR φ h nx w) (hu : P.underlying t = some .string) (hx : VR φ (.str l) x')
 (hlo : match lo with | none => a = 0 | some u => ∃ k, u = .int k a) (hhi : match hi with | none => b = l.length | some u => ∃ k, u = .int k b) (hab : a ≤ b) (hb : b ≤ l.length) :
 Done P (do pure (.value (← Instr.sliceAt t x' lo hi none))) φ h w (.str ((l.drop a).take (b - a))) h nx := by
 cases hx with
 | str s =>
   have bound : ∀ (u : Value) (q y : Nat) (code : BoundsCode), (∃ k, u = .int k q) → q ≤ y → ∀ w : World, (Instr.sliceBound u y code).run P w = .ok q w := by
    rintro u q y code ⟨k, rfl⟩ hq w
    simp only [Instr.sliceBound, asIntOf, Sem.run_bind, Sem.run_pure, Result.andThen_ok]
    rw [if_pos (by omega)]
    simp
   have hsz : (s.data.toList.map UInt8.toNat).length = s.size := by simp
   rw [hsz] at hb hhi
   have hb2 : (Instr.sliceBounds false s.size s.size lo hi none).run P w = .ok (a, b, s.size) w := by
    unfold Instr.sliceBounds
    cases hi with
    | none =>
      simp at hhi; subst hhi
      cases lo with
      | none => simp at hlo; subst hlo; simp
      | some u => simp only [Sem.run_bind, Sem.run_pure, Result.andThen_ok, bound u a s.size _ hlo hab]
    | some u2 =>
      cases lo with
      | none => simp at hlo; subst hlo; simp only [Sem.run_bind, Sem.run_pure, Result.andThen_ok, bound u2 b s.size _ hhi hb]
      | some u => simp only [Sem.run_bind, Sem.run_pure, Result.andThen_ok, bound u2 b s.size _ hhi hb, bound u a b _ hlo hab]
   refine Done.pure (v' := .string (s.extract a b)) ?_ ?_ H
   · simp only [Instr.sliceAt, Sem.run_bind, run_und hu, Result.andThen_ok, Instr.slice, Option.isSome_none, Bool.false_eq_true, if_false, Sem.run_pure, hb2]
   · have : ((s.data.toList.map UInt8.toNat).drop a).take (b - a) = (s.extract a b).data.toList.map UInt8.toNat := by
      simp [List.map_drop, List.map_take]
     rw [this]; exact .str _
end
end Go.Ev
end
section
namespace Go.Ev
open Go.RowKit
noncomputable def afind (k : AV) (es : List (AV × AV)) : Option (Option AV) :=
 List.rec (motive := fun _ => Option (Option AV)) (some none)
  (fun e _ ih => (aeq1 k e.1).bind fun b => ih.bind fun r => some (Bool.rec (motive := fun _ => Option AV) r (some e.2) b)) es
theorem afind_cons (k : AV) (e : AV × AV) (es : List (AV × AV)) : afind k (e :: es) = (aeq1 k e.1).bind fun b => (afind k es).bind fun r => some (Bool.rec (motive := fun _ => Option AV) r (some e.2) b) := rfl
theorem afind_ok {k : AV} : ∀ {es : List (AV × AV)} {r : Option AV}, afind k es = some r →
 (∀ e ∈ es, ∃ b, aeq1 k e.1 = some b) ∧ (r = none → ∀ e ∈ es, aeq1 k e.1 = some false) ∧ (∀ v, r = some v → ∃ e ∈ es, aeq1 k e.1 = some true ∧ e.2 = v) := by
 intro es
 induction es with
 | nil =>
   intro r h
   have h : some none = some r := h
   injection h with h; subst h
   exact ⟨(fun e he => by cases he), (fun _ e he => by cases he), (fun v hv => by cases hv)⟩
 | cons e es ih =>
   intro r h
   rw [afind_cons] at h
   cases hb : aeq1 k e.1 with
   | none => rw [hb] at h; cases h
   | some b =>
     rw [hb] at h
     simp only [Option.bind_some] at h
     cases hr : afind k es with
     | none => rw [hr] at h; cases h
     | some r0 =>
       rw [hr] at h
       simp only [Option.bind_some] at h
       injection h with h
       obtain ⟨h1, h2, h3⟩ := ih hr
       refine ⟨fun e' he' => ?_, fun hn e' he' => ?_, fun v hv => ?_⟩
       · cases he' with
         | head => exact ⟨b, hb⟩
         | tail _ he' => exact h1 e' he'
       · cases b with
         | true => rw [hn] at h; cases h
         | false =>
           have h : r0 = r := h
           cases he' with
           | head => exact hb
           | tail _ he' => exact h2 (h.trans hn) e' he'
       · cases b with
         | true =>
           have h : some e.2 = r := h
           rw [hv] at h; injection h with h
           exact ⟨e, List.mem_cons_self .., hb, h⟩
         | false =>
           have h : r0 = r := h
           obtain ⟨e', he', h4, h5⟩ := h3 v (h.trans hv)
           exact ⟨e', List.mem_cons_of_mem _ he', h4, h5⟩
theorem nodup_idx {α : Type} {l : List α} (hn : l.Nodup) : ∀ {i j : Nat} {x : α}, l[i]? = some x → l[j]? = some x → i = j := by
 induction l with
 | nil => intro i j x h; simp at h
 | cons a l ih =>
   obtain ⟨h1, h2⟩ := List.nodup_cons.1 hn
   intro i j x hi hj
   cases i with
   | zero =>
     simp at hi; subst hi
     cases j with
     | zero => rfl
     | succ j => simp at hj; exact absurd (List.mem_of_getElem? hj) h1
   | succ i =>
     simp at hi
     cases j with
     | zero => simp at hj; subst hj; exact absurd (List.mem_of_getElem? hi) h1
     | succ j => simp at hj; rw [ih h2 hi hj]
theorem aeq1_true {x y : AV} (h : aeq1 x y = some true) : x = y := by
 unfold aeq1 at h
 split at h
 · rename_i k a k' b
   cases hs : IntKind.same k k' with
   | false => rw [hs] at h; cases h
   | true =>
     rw [hs] at h
     have hs := IntKind.same_eq hs
     subst hs
     simp only [cond_true] at h
     injection h with h
     rw [ieq_eq] at h
     rw [eq_of_beq h]
 · injection h with h
   rw [leqb_eq] at h
   rw [of_decide_eq_true h]
 · rename_i a b
   injection h with h
   rw [bool_eq] at h
   rw [eq_of_beq h]
 · cases h
noncomputable def aset (k v : AV) (es : List (AV × AV)) : List (AV × AV) :=
 List.rec (motive := fun _ => List (AV × AV)) [] (fun e _ ih => (Option.rec (motive := fun _ => AV × AV) e (fun b => Bool.rec (motive := fun _ => AV × AV) e (e.1, v) b) (aeq1 k e.1)) :: ih) es
noncomputable def aset1 (k v : AV) (e : AV × AV) : AV × AV := Option.rec (motive := fun _ => AV × AV) e (fun b => Bool.rec (motive := fun _ => AV × AV) e (e.1, v) b) (aeq1 k e.1)
theorem aset_eq (k v : AV) (es : List (AV × AV)) : aset k v es = es.map (aset1 k v) := by
 induction es with
 | nil => rfl
 | cons e es ih => show aset1 k v e :: aset k v es = _; rw [ih]; rfl
theorem aset1_fst (k v : AV) (e : AV × AV) : (aset1 k v e).1 = e.1 := by
 unfold aset1
 cases aeq1 k e.1 with
 | none => rfl
 | some b => cases b <;> rfl
section
variable {P : Program} {φ : Phi} {h : Hp} {nx : Nat} {w : World}
theorem sameNow_ok {d : TypeDesc} {k x : AV} {k' x' : Value} {b : Bool} (hk : VR φ k k') (hx : VR φ x x') (hd : kOk d k) (ha : aeq1 k x = some b) : Instr.sameNow d k' x' = some b := by
 unfold aeq1 at ha
 split at ha
 · rename_i j a j' c
   cases hk; cases hx
   cases hs : IntKind.same j j' with
   | false => rw [hs] at ha; cases ha
   | true =>
     rw [hs] at ha
     have hs := IntKind.same_eq hs
     subst hs
     simp only [cond_true] at ha
     injection ha with ha; subst ha
     obtain ⟨k2, rfl⟩ : ∃ k, d = .int k := hd
     simp [Instr.sameNow, ieq_eq]
 · cases hk with
   | str s =>
   cases hx with
   | str s' =>
   injection ha with ha; subst ha
   have hd : d = .string := hd
   subst hd
   have : leqb (s.data.toList.map UInt8.toNat) (s'.data.toList.map UInt8.toNat) = (s == s') := by
    rw [leqb_eq, bytes_beq, Bool.eq_iff_iff, decide_eq_true_iff, decide_eq_true_iff]
    exact ⟨str_inj, fun e => by rw [e]⟩
   rw [this]
   simp [Instr.sameNow]
 · cases hk; cases hx
   injection ha with ha; subst ha
   have hd : d = .bool := hd
   subst hd
   simp [Instr.sameNow, bool_eq]
 · cases ha
theorem findNow_ok {d : TypeDesc} {k : AV} {k' : Value} (hk : VR φ k k') (hd : kOk d k) : ∀ (l : List (AV × AV)) (es' : List MapEntry) (i0 : Nat), l.length = es'.length →
 (∀ (i : Nat) (x : AV × AV), l[i]? = some x → ∃ e : MapEntry, es'[i]? = some e ∧ VR φ x.1 e.key) → (∀ x ∈ l, ∃ b, aeq1 k x.1 = some b) →
 ((∀ x ∈ l, aeq1 k x.1 = some false) ∧ Instr.findNow d k' es' i0 = some none) ∨
 ∃ (j : Nat) (x : AV × AV) (e : MapEntry), l[j]? = some x ∧ es'[j]? = some e ∧ aeq1 k x.1 = some true ∧ Instr.findNow d k' es' i0 = some (some (i0 + j, e.val)) := by
 intro l
 induction l with
 | nil =>
   intro es' i0 hl _ _
   cases es' with
   | nil => exact .inl ⟨(fun x hx => by cases hx), rfl⟩
   | cons _ _ => simp at hl
 | cons x l ih =>
   intro es' i0 hl hp hb
   cases es' with
   | nil => simp at hl
   | cons e es' =>
     obtain ⟨e0, he0, hx⟩ := hp 0 x rfl
     simp at he0; subst he0
     obtain ⟨b, hbx⟩ := hb x (List.mem_cons_self ..)
     have hs := sameNow_ok hk hx hd hbx
     cases b with
     | true =>
       refine .inr ⟨0, x, e, rfl, rfl, hbx, ?_⟩
       simp only [Instr.findNow, hs, Nat.add_zero]
     | false =>
       rcases ih es' (i0 + 1) (by simpa using hl) (fun i y hy => by simpa using hp (i + 1) y (by simpa using hy)) (fun y hy => hb y (List.mem_cons_of_mem _ hy)) with ⟨h1, h2⟩ | ⟨j, y, e2, h1, h2, h3, h4⟩
       · refine .inl ⟨fun y hy => ?_, ?_⟩
         · cases hy with
           | head => exact hbx
           | tail _ hy => exact h1 y hy
         · simp only [Instr.findNow, hs]; exact h2
       · refine .inr ⟨j + 1, y, e2, by simpa using h1, by simpa using h2, h3, ?_⟩
         simp only [Instr.findNow, hs]
         rw [h4]; congr 3; omega
theorem checkKey_ok {kt : TypeId} {d : TypeDesc} {k : AV} {k' : Value} {b : Bool} (hu : P.underlying kt = some d) (hk : VR φ k k') (hd : kOk d k) : (Instr.checkKey b 10000 kt k').run P w = .ok () w := by
 obtain ⟨q, hq⟩ : ∃ q, 10000 = q + 1 := ⟨9999, rfl⟩
 rw [hq]
 unfold kOk at hd
 cases hk <;> simp only at hd
 case bool => subst hd; simp [Instr.checkKey, run_und hu]
 case int => obtain ⟨j, rfl⟩ := hd; simp [Instr.checkKey, run_und hu]
 case str => subst hd; simp [Instr.checkKey, run_und hu]
theorem run_getObj {r : Nat} {o : Obj} (ho : w.heap[r]? = some o) (hc : ∀ c e f, o ≠ .cells c e f) : (getObj r).run P w = .ok o w := by
 simp only [getObj, Sem.run, ho]
 try (cases o <;> first | rfl | exact absurd rfl (hc _ _ _))
theorem run_setObj {r : Nat} {o o1 : Obj} (ho : w.heap[r]? = some o1) (hc : ∀ c e f, o1 ≠ .cells c e f) : (setObj r o).run P w = .ok () { w with heap := w.heap.setIfInBounds r o } := by
 simp only [setObj, Sem.run, ho]
 try (cases o1 <;> first | rfl | exact absurd rfl (hc _ _ _))
theorem d_lkp {t kt et : TypeId} {d : TypeDesc} {i : TypeInfo} {z' : Value} {m k z : AV} {m' k' : Value} {es : List (AV × AV)} {clk : Nat} {r : Option AV} (ok : Bool) (H : WR φ h nx w) (hu : P.underlying t = some (.map kt et)) (hkt : P.underlying kt = some d)
 (hi : P.info? et = some i) (hz : i.zero = some z') (hzz : VR φ z z') (hm : VR φ m m') (hk : VR φ k k') (hd : kOk d k) (hes : (m = .nilm ∧ es = []) ∨ ∃ b, m = .map b ∧ h.get b = some (.map es clk)) (hf : afind k es = some r) :
 Done P (do pure (.value (← Instr.lookup t m' k' ok))) φ h w
  (Bool.rec (motive := fun _ => AV) (Option.rec (motive := fun _ => AV) z (fun v => v) r) (.tup [Option.rec (motive := fun _ => AV) z (fun v => v) r, .bool (Option.rec (motive := fun _ => Bool) false (fun _ => true) r)]) ok) h nx := by
 have fin : ∀ (v : AV) (v' : Value) (b : Bool), VR φ v v' → VR φ (Bool.rec (motive := fun _ => AV) v (.tup [v, .bool b]) ok) (if ok then .tuple #[v', .bool b] else v') := by
  intro v v' b hv
  cases ok with
  | false => exact hv
  | true => exact .tup (.cons hv (.cons (.bool b) .nil))
 rcases hes with ⟨rfl, rfl⟩ | ⟨b, rfl, hb⟩
 · cases hm
   have hf : some none = some r := hf
   injection hf with hf; subst hf
   refine Done.pure ?_ (fin z z' false hzz) H
   simp only [Instr.lookup, Sem.run_bind, run_und hu, Result.andThen_ok, Sem.run_pure, checkKey_ok hkt hk hd, Instr.findKey, run_und hkt, Instr.findNow, run_zero hi hz]
 · cases hm with
   | @map _ ri hp =>
   obtain ⟨ri', hp', es', h1, l, h2, h3, h4, h5, h6⟩ := H.obj _ _ hb
   rw [hp] at hp'; injection hp' with hp'; subst hp'
   obtain ⟨f1, f2, f3⟩ := afind_ok hf
   have hget := run_getObj (P := P) h1 (fun _ _ _ => Obj.noConfusion)
   rcases findNow_ok hk hd l es'.toList 0 h3 (fun i x hx => let ⟨e, g1, _, g3, _⟩ := h4 i x hx; ⟨e, g1, g3⟩) (fun x hx => f1 x (h2.mem_iff.1 hx)) with ⟨g1, g2⟩ | ⟨j, x, e, g1, g2, g3, g4⟩
   · have hr : r = none := by
      cases r with
      | none => rfl
      | some v =>
        obtain ⟨e, he, h7, _⟩ := f3 v rfl
        rw [g1 e (h2.mem_iff.2 he)] at h7; cases h7
     subst hr
     refine Done.pure ?_ (fin z z' false hzz) H
     simp only [Instr.lookup, Sem.run_bind, run_und hu, Result.andThen_ok, Sem.run_pure, hget, checkKey_ok hkt hk hd, Instr.findKey, run_und hkt, g2, run_zero hi hz]
   · obtain ⟨e', q1, q2, q3, q4, q5⟩ := h4 j x g1
     rw [g2] at q1; injection q1 with q1; subst q1
     have hr : r = some x.2 := by
      cases r with
      | none =>
        have := f2 rfl x (h2.mem_iff.1 (List.mem_of_getElem? g1))
        rw [g3] at this; cases this
      | some v =>
        obtain ⟨e2, he2, h7, h8⟩ := f3 v rfl
        have hkey : e2.1 = x.1 := by rw [← aeq1_true h7, ← aeq1_true g3]
        obtain ⟨j2, hj2⟩ := List.getElem?_of_mem (h2.mem_iff.2 he2)
        have hjj : j2 = j := nodup_idx h5 (x := x.1) (by simp [hj2, hkey]) (by simp [g1])
        subst hjj
        rw [g1] at hj2; injection hj2 with hj2; subst hj2
        rw [h8]
     subst hr
     refine Done.pure ?_ (fin x.2 e.val true q4) H
     simp only [Instr.lookup, Sem.run_bind, run_und hu, Result.andThen_ok, Sem.run_pure, hget, checkKey_ok hkt hk hd, Instr.findKey, run_und hkt, g4]
end
end Go.Ev
end
section
namespace Go.Ev
open Go.RowKit
section
variable {P : Program} {φ : Phi} {h : Hp} {nx : Nat} {w : World}
theorem aeq1_refl {k : AV} (hk : k.key = true) : aeq1 k k = some true := by
 cases k <;> simp [AV.key] at hk
 case int k n =>
  have : IntKind.same k k = true := by cases k <;> rfl
  simp [aeq1, this, ieq_eq]
 case str l => simp [aeq1, leqb_eq]
 case bool b => simp [aeq1, bool_eq]
theorem sameBits_refl {k : AV} {a b : Value} (hk : k.key = true) (ha : VR φ k a) (hb : VR φ k b) (n : Nat) : Instr.sameBits n a b = true := by
 have hab : a = b := by
  cases k <;> simp [AV.key] at hk
  case int => cases ha; cases hb; rfl
  case bool => cases ha; cases hb; rfl
  case str l =>
   generalize hl : AV.str l = q at ha hb
   cases ha <;> cases hl
   rename_i s
   generalize hl2 : AV.str (s.data.toList.map UInt8.toNat) = q at hb
   cases hb <;> (try cases hl2)
   rename_i s'
   injection hl2 with hl2
   rw [str_inj hl2]
 subst hab
 cases k <;> simp [AV.key] at hk <;> cases ha <;> cases n <;> simp [Instr.sameBits, bytes_beq]
noncomputable def klt (a b : AV) : Bool :=
 match a, b with
 | .int _ x, .int _ y => !(ile y x)
 | .str x, .str y => llt x y
 | .bool x, .bool y => Bool.rec (motive := fun _ => Bool) y false x
 | _, _ => false
noncomputable def mins (k v : AV) (es : List (AV × AV)) : List (AV × AV) :=
 List.rec (motive := fun _ => List (AV × AV)) [(k, v)] (fun e es ih => Bool.rec (motive := fun _ => List (AV × AV)) (e :: ih) ((k, v) :: e :: es) (klt k e.1)) es
theorem mins_cons (k v : AV) (e : AV × AV) (es : List (AV × AV)) : mins k v (e :: es) = Bool.rec (motive := fun _ => List (AV × AV)) (e :: mins k v es) ((k, v) :: e :: es) (klt k e.1) := rfl
theorem mins_perm (k v : AV) : ∀ es : List (AV × AV), (mins k v es).Perm ((k, v) :: es) := by
 intro es
 induction es with
 | nil => exact .refl _
 | cons e es ih =>
   rw [mins_cons]
   cases klt k e.1 with
   | true => exact .refl _
   | false => exact (ih.cons e).trans (.swap _ _ _)
noncomputable def amup (h : Hp) (nx : Nat) (tag : Nat) (m k v : AV) : Option (AV × Hp × Nat) :=
 match m with
 | .map b => (h.get b).bind fun o => match o with
   | .map es clk => bif kind1 k tag then (afind k es).bind fun r => Option.rec (motive := fun _ => Option (AV × Hp × Nat)) (some (.tup [], h.put b (.map (mins k v es) (Nat.succ clk)), nx)) (fun _ => some (.tup [], h.put b (.map (aset k v es) clk), nx)) r else none
   | _ => none
 | _ => none
theorem d_mup {t kt et : TypeId} {d : TypeDesc} {b clk : Nat} {es : List (AV × AV)} {k v : AV} {m' k' v' : Value} {r : Option AV} (H : WR φ h nx w) (hu : P.underlying t = some (.map kt et)) (hkt : P.underlying kt = some d)
 (hm : VR φ (.map b) m') (hk : VR φ k k') (hv : VR φ v v') (hd : kOk d k) (hkey : k.key = true) (hb : h.get b = some (.map es clk)) (hf : afind k es = some r) :
 Done P (do Instr.mapUpdate t m' k' v'; pure .skip) φ h w (.tup [])
  (h.put b (Option.rec (motive := fun _ => AObj) (.map (mins k v es) (clk + 1)) (fun _ => .map (aset k v es) clk) r)) nx := by
 cases hm with
 | @map _ ri hp =>
 obtain ⟨ri', hp', es', h1, l, h2, h3, h4, h5, h6⟩ := H.obj _ _ hb
 rw [hp] at hp'; injection hp' with hp'; subst hp'
 obtain ⟨f1, f2, f3⟩ := afind_ok hf
 have hget := run_getObj (P := P) h1 (fun _ _ _ => Obj.noConfusion)
 rcases findNow_ok hk hd l es'.toList 0 h3 (fun i x hx => let ⟨e, g1, _, g3, _⟩ := h4 i x hx; ⟨e, g1, g3⟩) (fun x hx => f1 x (h2.mem_iff.1 hx)) with ⟨g1, g2⟩ | ⟨j, x, e, g1, g2, g3, g4⟩
 · have hr : r = none := by
    cases r with
    | none => rfl
    | some v =>
      obtain ⟨e, he, h7, _⟩ := f3 v rfl
      rw [g1 e (h2.mem_iff.2 he)] at h7; cases h7
   subst hr
   obtain ⟨a1, a2⟩ := H.setObj (o := .map (mins k v es) (clk + 1)) (o' := .map (es'.push { key := k', val := v', born := clk }) (clk + 1)) hp (by rw [hb]; rfl) (fun w' hw' => by
    refine ⟨es'.push { key := k', val := v', born := clk }, by rw [hw', Array.getElem?_setIfInBounds, if_pos rfl, if_pos (H.dom _ _ hp)], l ++ [(k, v)], ?_, ?_, ?_, ?_, ?_⟩
    · exact ((List.perm_append_singleton (k, v) l).trans (h2.cons (k, v))).trans (mins_perm k v es).symm
    · simp [h3]
    · intro i y hy
      simp only [Array.toList_push]
      rcases Nat.lt_or_ge i l.length with hi | hi
      · rw [List.getElem?_append_left hi] at hy
        obtain ⟨e, q1, q2, q3, q4, q5⟩ := h4 i y hy
        exact ⟨e, by rw [List.getElem?_append_left (by omega)]; exact q1, q2, q3, q4, by omega⟩
      · rw [List.getElem?_append_right hi] at hy
        have hi0 : i - l.length = 0 := by
         have := (List.getElem?_eq_some_iff.1 hy).1; simp at this; omega
        rw [hi0] at hy; simp at hy; subst hy
        exact ⟨_, by rw [List.getElem?_append_right (by omega), ← h3, hi0]; rfl, hkey, hk, hv, by simp⟩
    · rw [List.map_append, List.nodup_append]
      refine ⟨h5, by simp, ?_⟩
      intro a ha c hc e
      simp at hc; subst hc; subst e
      obtain ⟨y, hy, hy2⟩ := List.mem_map.1 ha
      have := g1 y hy
      rw [hy2, aeq1_refl hkey] at this; cases this
    · simp only [Array.toList_push, List.map_append, List.map_cons, List.map_nil]
      rw [List.nodup_append]
      refine ⟨h6, by simp, ?_⟩
      intro a ha c hc e
      simp at hc; subst hc; subst e
      obtain ⟨y, hy, hy2⟩ := List.mem_map.1 ha
      obtain ⟨q, hq⟩ := List.getElem?_of_mem hy
      have hql : q < l.length := by rw [h3]; exact (List.getElem?_eq_some_iff.1 hq).1
      obtain ⟨e2, q1, _, _, _, q5⟩ := h4 q l[q] (by simp [hql])
      rw [hq] at q1; injection q1 with q1; subst q1
      omega) (fun es2 c2 he => by
      injection he with he1 he2
      exact ⟨es', clk, h1, by omega, fun hcc => by omega⟩)
   refine ⟨φ, undef, _, .inr ⟨?_, rfl⟩, .tup .nil, a1, a2⟩
   simp only [Instr.mapUpdate, Sem.run_bind, run_und hu, Result.andThen_ok, hget, checkKey_ok hkt hk hd, Instr.findKey, run_und hkt, g2, Sem.run_pure, run_setObj h1 (fun _ _ _ => Obj.noConfusion)]
 · obtain ⟨e', q1, q2, q3, q4, q5⟩ := h4 j x g1
   rw [g2] at q1; injection q1 with q1; subst q1
   have hr : ∃ v0, r = some v0 := by
    cases r with
    | none =>
      have := f2 rfl x (h2.mem_iff.1 (List.mem_of_getElem? g1))
      rw [g3] at this; cases this
    | some v0 => exact ⟨v0, rfl⟩
   obtain ⟨v0, rfl⟩ := hr
   have hkx := aeq1_true g3
   have hjl : j < es'.size := by have := (List.getElem?_eq_some_iff.1 g2).1; simpa using this
   obtain ⟨a1, a2⟩ := H.setObj (o := .map (aset k v es) clk) (o' := .map (es'.modify j fun e => { e with key := k', val := v' }) clk) hp (by rw [hb]; rfl) (fun w' hw' => by
    refine ⟨es'.modify j fun e => { e with key := k', val := v' }, by rw [hw', Array.getElem?_setIfInBounds, if_pos rfl, if_pos (H.dom _ _ hp)], l.map (aset1 k v), ?_, ?_, ?_, ?_, ?_⟩
    · rw [aset_eq]; exact h2.map _
    · simp [h3]
    · intro i y hy
      simp only [List.getElem?_map, Option.map_eq_some_iff] at hy
      obtain ⟨y0, hy0, rfl⟩ := hy
      obtain ⟨e2, p1, p2, p3, p4, p5⟩ := h4 i y0 hy0
      simp only [Array.getElem?_toList, Array.getElem?_modify] at p1 ⊢
      by_cases hij : j = i
      · subst hij
        rw [g1] at hy0; injection hy0 with hy0; subst hy0
        rw [if_pos rfl, p1]
        have hs : aset1 k v x = (x.1, v) := by unfold aset1; rw [g3]
        rw [hs]
        exact ⟨_, rfl, p2, by rw [← hkx]; exact hk, hv, p5⟩
      · rw [if_neg hij, p1]
        have hs : aset1 k v y0 = y0 := by
         unfold aset1
         cases hq : aeq1 k y0.1 with
         | none => rfl
         | some b2 =>
           cases b2 with
           | false => rfl
           | true =>
             have hk2 := aeq1_true hq
             exact absurd (nodup_idx h5 (x := x.1) (by simp [g1]) (by simp [hy0, ← hk2, hkx])) hij
        rw [hs]
        exact ⟨e2, rfl, p2, p3, p4, p5⟩
    · rw [List.map_map]
      have : ((fun x : AV × AV => x.1) ∘ aset1 k v) = (fun x : AV × AV => x.1) := by funext y; exact aset1_fst k v y
      rw [this]; exact h5
    · have : (es'.modify j fun e => { e with key := k', val := v' }).toList.map (·.born) = es'.toList.map (·.born) := by
       apply List.ext_getElem?
       intro i
       simp only [List.getElem?_map, Array.getElem?_toList, Array.getElem?_modify]
       split
       · cases es'[i]? <;> rfl
       · rfl
      rw [this]; exact h6) (fun es2 c2 he => by
      injection he with he1 he2
      refine ⟨es', clk, h1, by omega, fun _ e2 he2 => ?_⟩
      subst he1
      obtain ⟨i, hi⟩ := Array.getElem?_of_mem he2
      rw [Array.getElem?_modify] at hi
      split at hi
      · rename_i hij
        cases h9 : es'[i]? with
        | none => rw [h9] at hi; cases hi
        | some e3 => rw [h9] at hi; simp at hi; subst hi; exact ⟨e3, Array.mem_of_getElem? h9, rfl⟩
      · exact ⟨e2, Array.mem_of_getElem? hi, rfl⟩)
   refine ⟨φ, undef, _, .inr ⟨?_, rfl⟩, .tup .nil, a1, a2⟩
   have hsame : Instr.sameBits 10000 e.key k' = true := sameBits_refl hkey (by rw [hkx]; exact q3) hk _
   have hej : es'[j]? = some e := by simpa using g2
   simp only [Instr.mapUpdate, Sem.run_bind, run_und hu, Result.andThen_ok, hget, checkKey_ok hkt hk hd, Instr.findKey, run_und hkt, g4, Sem.run_pure, Nat.zero_add, hej, Option.map_some, Option.getD_some, Instr.keyThatStays, hsame, if_true, run_setObj h1 (fun _ _ _ => Obj.noConfusion)]
end
end Go.Ev
end
