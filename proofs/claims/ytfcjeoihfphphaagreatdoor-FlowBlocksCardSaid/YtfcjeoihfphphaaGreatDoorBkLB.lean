/- A part of the proof, written by programs of this seat and by hand: LB. -/
import Derived.Test.YtfcjeoihfphphaaGreatDoorBkLA
import Derived.Test.YtfcjeoihfphphaaGreatDoorBkP9
import Derived.Test.YtfcjeoihfphphaaGreatDoorBkP0
import Derived.Test.YtfcjeoihfphphaaGreatDoorBkP1
import Derived.Test.YtfcjeoihfphphaaGreatDoorBkP2
import Derived.Test.YtfcjeoihfphphaaGreatDoorBkP4
import Derived.Test.YtfcjeoihfphphaaGreatDoorBkP5
import Derived.Test.YtfcjeoihfphphaaGreatDoorBkP6
import Derived.Test.YtfcjeoihfphphaaGreatDoorBkP7
import Derived.Test.YtfcjeoihfphphaaGreatDoorBkP11
section
namespace Go.Proofs.YtfcjeoihfphphaaGreatDoor.PFlow
open Go.RowKit Go.Proofs.YtfcjeoihfphphaaGreatDoorW.PrintWords
theorem pigeon : ∀ (n : Nat) (l : List Int), l.Nodup → (∀ w ∈ l, 0 ≤ w ∧ w < (n : Int)) → l.length ≤ n := by
 intro n
 induction n with
 | zero =>
   intro l _ h
   cases l with
   | nil => simp
   | cons a l => have := h a List.mem_cons_self; omega
 | succ n ih =>
   intro l hn h
   have hn2 : (l.erase (n : Int)).Nodup := hn.erase _
   have := ih (l.erase (n : Int)) hn2 (fun w hw => by
    have h1 := (hn.mem_erase_iff).1 hw
    have h2 := h w h1.2
    have := h1.1
    omega)
   have hl : l.length ≤ (l.erase (n : Int)).length + 1 := by rw [List.length_erase]; split <;> omega
   omega
section
variable {xs : List S58} {R : List Bool}
theorem cE_mono (b : Int) : ∀ {i k : Nat}, i ≤ k → cE xs R b i ≤ cE xs R b k := by
 intro i k h
 induction k with
 | zero => have : i = 0 := by omega
           subst this; exact Nat.le_refl _
 | succ k ih =>
   by_cases hk : i = k + 1
   · subst hk; exact Nat.le_refl _
   · have := ih (by omega)
     simp only [cE]; omega
theorem cE_one {b : Int} {a : Nat} (hr : R.getD a false = true) (hb : b ∈ nx xs a) : cE xs R b a + 1 ≤ cE xs R b (a + 1) := by
 have : 0 < (nx xs a).count b := List.count_pos_iff.2 hb
 simp only [cE, hr, if_true]; omega
theorem cE_two {b : Int} {a a' n : Nat} (hne : a ≠ a') (ha : a < n) (ha' : a' < n) (hr : R.getD a false = true) (hr' : R.getD a' false = true) (hb : b ∈ nx xs a) (hb' : b ∈ nx xs a') : 2 ≤ cE xs R b n := by
 have h1 := cE_one (xs := xs) hr hb
 have h2 := cE_one (xs := xs) hr' hb'
 rcases Nat.lt_or_gt_of_ne hne with h | h
 · have := cE_mono (xs := xs) (R := R) b (show a + 1 ≤ a' by omega)
   have := cE_mono (xs := xs) (R := R) b (show a' + 1 ≤ n by omega)
   omega
 · have := cE_mono (xs := xs) (R := R) b (show a' + 1 ≤ a by omega)
   have := cE_mono (xs := xs) (R := R) b (show a + 1 ≤ n by omega)
   omega
def lastI (l : List Int) : Int := l.getD (l.length - 1) 0
variable (xs R) in
structure Good (l : List Int) : Prop where
 pos : 0 < l.length
 mem : ∀ w ∈ l, ∃ v : Nat, v < xs.length ∧ w = (v : Int) ∧ R.getD v false = true
 nd : l.Nodup
 head : ∃ v : Nat, l.getD 0 0 = (v : Int) ∧ bg xs R v = true
 link : ∀ t, t + 1 < l.length → ∃ b : Nat, l.getD t 0 = (b : Int) ∧ l.getD (t + 1) 0 ∈ nx xs b
variable (xs R) in
def Clo : Prop := ∀ a b : Nat, a < xs.length → b < xs.length → R.getD a false = true → (b : Int) ∈ nx xs a → R.getD b false = true
theorem bg_false {c : Nat} (h : bg xs R c = false) : cE xs R (c : Int) xs.length = 1 := by
 unfold bg at h
 simp only [Bool.or_eq_false_iff, Bool.not_eq_false', decide_eq_true_eq] at h
 exact h.2.1
theorem Good.last {l : List Int} (G : Good xs R l) : ∃ a : Nat, a < xs.length ∧ lastI l = (a : Int) ∧ R.getD a false = true := G.mem _ (getD_in (by have := G.pos; omega))
theorem Good.next (hcl : Clo xs R) {l : List Int} (G : Good xs R l) {a c : Nat} (ha : lastI l = (a : Int)) (hc : c < xs.length) (hin : (c : Int) ∈ nx xs a) (hb : bg xs R c = false) : Good xs R (l ++ [(c : Int)]) := by
 have hpos := G.pos
 obtain ⟨a2, ha2, hl2, hra⟩ := G.last
 have : a2 = a := by omega
 subst this
 have hrc := hcl a2 c ha2 hc hra hin
 have hnot : (c : Int) ∉ l := by
  intro hm
  obtain ⟨s, hs⟩ := List.getElem?_of_mem hm
  have hsl : s < l.length := (List.getElem?_eq_some_iff.1 hs).1
  have hgs : l.getD s 0 = (c : Int) := by rw [List.getD_eq_getElem?_getD, hs]; rfl
  cases s with
  | zero =>
    obtain ⟨v, hv1, hv2⟩ := G.head
    have : v = c := by omega
    subst this
    rw [hb] at hv2; cases hv2
  | succ t =>
    obtain ⟨b, hb1, hb2⟩ := G.link t hsl
    rw [hgs] at hb2
    obtain ⟨b2, hb3, hb4, hb5⟩ := G.mem _ (getD_in (show t < l.length by omega))
    have : b2 = b := by omega
    subst this
    by_cases hba : b2 = a2
    · subst hba
      have h1 : l[t]? = some (b2 : Int) := by
       have : l.getD t 0 = l[t] := by simp [show t < l.length by omega]
       rw [List.getElem?_eq_getElem (by omega), ← this, hb1]
      have h2 : l[l.length - 1]? = some (b2 : Int) := by
       have : l.getD (l.length - 1) 0 = l[l.length - 1] := by simp [show l.length - 1 < l.length by omega]
       rw [List.getElem?_eq_getElem (by omega), ← this]; exact congrArg some ha
      have := (List.getElem?_inj (show t < l.length by omega) G.nd).1 (h1.trans h2.symm)
      omega
    · have := cE_two hba hb3 ha2 hb5 hra hb2 hin
      have := bg_false hb
      omega
 refine ⟨by simp, fun w hw => ?_, ?_, ?_, fun t ht => ?_⟩
 · rcases List.mem_append.1 hw with hw | hw
   · exact G.mem w hw
   · exact ⟨c, hc, by simpa using hw, hrc⟩
 · rw [List.nodup_append]
   refine ⟨G.nd, by simp, fun x hx y hy hxy => hnot ?_⟩
   have : y = (c : Int) := by simpa using hy
   rw [← this, ← hxy]; exact hx
 · obtain ⟨v, hv1, hv2⟩ := G.head
   exact ⟨v, by rw [← hv1]; simp [List.getElem?_append, hpos], hv2⟩
 · simp only [List.length_append, List.length_cons, List.length_nil] at ht
   by_cases hlt : t + 1 < l.length
   · obtain ⟨b, h1, h2⟩ := G.link t hlt
     refine ⟨b, ?_, ?_⟩
     · rw [← h1]; simp [List.getElem?_append, show t < l.length by omega]
     · have : (l ++ [(c : Int)]).getD (t + 1) 0 = l.getD (t + 1) 0 := by simp [List.getElem?_append, hlt]
       rw [this]; exact h2
   · have ht2 : t = l.length - 1 := by omega
     refine ⟨a2, ?_, ?_⟩
     · have : (l ++ [(c : Int)]).getD t 0 = l.getD t 0 := by simp [List.getElem?_append, show t < l.length by omega]
       rw [this, ht2]; exact ha
     · have : (l ++ [(c : Int)]).getD (t + 1) 0 = (c : Int) := by rw [show t + 1 = l.length by omega]; simp
       rw [this]; exact hin
theorem Good.len {l : List Int} (G : Good xs R l) : l.length ≤ xs.length := pigeon xs.length l G.nd fun w hw => by
 obtain ⟨v, h1, h2, _⟩ := G.mem w hw
 omega
variable (xs R) in
inductive Ch : List Int → List Int → Prop
 | stop {l : List Int} {a : Nat} (ha : lastI l = (a : Int)) (h : (nx xs a).length ≠ 1) : Ch l l
 | stopB {l : List Int} {a c : Nat} (ha : lastI l = (a : Int)) (h : (nx xs a).length = 1) (hc : (nx xs a).getD 0 0 = (c : Int)) (hb : bg xs R c = true) : Ch l l
 | go {l l' : List Int} {a c : Nat} (ha : lastI l = (a : Int)) (h : (nx xs a).length = 1) (hc : (nx xs a).getD 0 0 = (c : Int)) (hb : bg xs R c = false) (H : Ch (l ++ [(c : Int)]) l') : Ch l l'
theorem Ch.ex (hv : okV xs 0 = true) (hcl : Clo xs R) : ∀ (m : Nat) (l : List Int), Good xs R l → xs.length ≤ l.length + m → ∃ l', Ch xs R l l' := by
 intro m
 induction m with
 | zero =>
   intro l G hm
   obtain ⟨a, ha, hla, hra⟩ := G.last
   by_cases h1 : (nx xs a).length = 1
   · have hin := getD_in (l := nx xs a) (j := 0) (by omega)
     obtain ⟨k1, k2⟩ := okV_at hv ha _ hin
     obtain ⟨c, hc⟩ : ∃ c : Nat, (nx xs a).getD 0 0 = (c : Int) := ⟨((nx xs a).getD 0 0).toNat, by omega⟩
     cases hb : bg xs R c with
     | true => exact ⟨l, .stopB hla h1 hc hb⟩
     | false =>
       have := (G.next hcl hla (by omega) (by rw [← hc]; exact hin) hb).len
       simp at this
       omega
   · exact ⟨l, .stop hla h1⟩
 | succ m ih =>
   intro l G hm
   obtain ⟨a, ha, hla, hra⟩ := G.last
   by_cases h1 : (nx xs a).length = 1
   · have hin := getD_in (l := nx xs a) (j := 0) (by omega)
     obtain ⟨k1, k2⟩ := okV_at hv ha _ hin
     obtain ⟨c, hc⟩ : ∃ c : Nat, (nx xs a).getD 0 0 = (c : Int) := ⟨((nx xs a).getD 0 0).toNat, by omega⟩
     cases hb : bg xs R c with
     | true => exact ⟨l, .stopB hla h1 hc hb⟩
     | false =>
       obtain ⟨l', hl'⟩ := ih _ (G.next hcl hla (by omega) (by rw [← hc]; exact hin) hb) (by simp; omega)
       exact ⟨l', .go hla h1 hc hb hl'⟩
   · exact ⟨l, .stop hla h1⟩
theorem Good.one {i : Nat} (hi : i < xs.length) (hr : R.getD i false = true) (hb : bg xs R i = true) : Good xs R [(i : Int)] :=
 ⟨by simp, fun w hw => ⟨i, hi, by simpa using hw, hr⟩, by simp, ⟨i, by simp, hb⟩, fun t ht => by simp at ht⟩
end
end Go.Proofs.YtfcjeoihfphphaaGreatDoor.PFlow
end
section
namespace Go.Proofs.YtfcjeoihfphphaaGreatDoor.PFlow
open Go.RowKit Go.Proofs.YtfcjeoihfphphaaGreatDoorW.PrintWords
section
variable {xs : List S58}
open Classical in
variable (xs) in
noncomputable def chF (R : List Bool) (i : Nat) : List Int := if h : ∃ l', Ch xs R [(i : Int)] l' then Classical.choose h else []
theorem chF_ok {R : List Bool} {i : Nat} (h : ∃ l', Ch xs R [(i : Int)] l') : Ch xs R [(i : Int)] (chF xs R i) := by
 unfold chF; rw [dif_pos h]; exact Classical.choose_spec h
variable (xs) in
noncomputable def bkL (R : List Bool) : Nat → Nat → List (List Int) → List (List Int)
 | 0, _, acc => acc
 | d + 1, i, acc => if (R.getD i false && bg xs R i) = true then bkL R d (i + 1) (acc ++ [chF xs R i]) else bkL R d (i + 1) acc
theorem rdI0 (l : List Int) : rd l 0 = l.getD 0 0 := by simp [rd]
theorem bk_yes {R : List Bool} {d i : Nat} {acc : List (List Int)} (h : (R.getD i false && bg xs R i) = true) : bkL xs R (d + 1) i acc = bkL xs R d (i + 1) (acc ++ [chF xs R i]) := if_pos h
theorem bk_no {R : List Bool} {d i : Nat} {acc : List (List Int)} (h : (R.getD i false && bg xs R i) = false) : bkL xs R (d + 1) i acc = bkL xs R d (i + 1) acc := if_neg (by rw [h]; decide)
theorem fchain (H : Sm xs) (hv : okV xs 0 = true) {R : List Bool} (hR : R.length = xs.length) (hcl : Clo xs R) {x11 : List (List Int)} (hx : x11.length ≤ 30) (i : Nat) (hi : i < xs.length) {Z : List (List Int)} {l l' : List Int} (C : Ch xs R l l') (G : Good xs R l)
 (K : E (fun k => flow_Blocks.l2 k (x11 ++ [l']) (eL xs R) (wL xs R) R (xs.length : Int) ((i + 1 : Nat) : Int) xs) Z) : E (fun k => flow_Blocks.l3 k x11 l (eL xs R) (wL xs R) R (xs.length : Int) (i : Int) xs) Z := by
 have hn := H.n
 have hwi : wrap64 ((i : Int) + 1) = ((i + 1 : Nat) : Int) := by rw [w64 (by omega) (by omega)]; rfl
 have base : ∀ {l : List Int} {a : Nat}, Good xs R l → lastI l = (a : Int) → ∀ k, flow_Blocks.l3 (k + 1) x11 l (eL xs R) (wL xs R) R (xs.length : Int) (i : Int) xs =
  if ((nx xs a).length : Int) = 1 then ((flow_begins.f ((nx xs a).getD 0 0) (eL xs R) (wL xs R)).bind fun t => if t = true then flow_Blocks.l2 k (x11 ++ [l]) (eL xs R) (wL xs R) R (xs.length : Int) ((i + 1 : Nat) : Int) xs else flow_Blocks.l3 k x11 (l ++ [(nx xs a).getD 0 0]) (eL xs R) (wL xs R) R (xs.length : Int) (i : Int) xs)
  else flow_Blocks.l2 k (x11 ++ [l]) (eL xs R) (wL xs R) R (xs.length : Int) ((i + 1 : Nat) : Int) xs := by
  intro l a G ha k
  have hpos := G.pos
  have hlen := G.len
  obtain ⟨a2, ha2, hl2, _⟩ := G.last
  have : a2 = a := by omega
  subst this
  rw [flow_Blocks.l3.eq_2, w64 (x := (l.length : Int) - 1) (by omega) (by omega), if_pos (by omega), if_pos (by omega), show (l.length : Int) - 1 = ((l.length - 1 : Nat) : Int) by omega, rdI, show l.getD (l.length - 1) 0 = (a2 : Int) from ha, if_pos (by omega), if_pos (by omega), rd58]
  by_cases h1 : ((nx xs a2).length : Int) = 1
  · rw [if_pos h1, if_pos (show (((xs.getD a2 z58).f2).length : Int) = 1 from h1), if_pos (show 0 < (((xs.getD a2 z58).f2).length : Int) by have : (((xs.getD a2 z58).f2).length : Int) = 1 := h1; omega), rdI0, if_pos (show x11.length < 5864062014805 by omega), if_pos (show l.length < 17592186044416 by omega), hwi]
  · rw [if_neg h1, if_neg (show ¬ (((xs.getD a2 z58).f2).length : Int) = 1 from h1), if_pos (show x11.length < 5864062014805 by omega), hwi]
 induction C with
 | stop ha h => exact E.step (fun k => by rw [base G ha, if_neg (by omega)]) K
 | @stopB l a c ha h hc hb =>
   obtain ⟨a2, ha2, hl2, _⟩ := G.last
   have : a2 = a := by omega
   subst this
   obtain ⟨k1, k2⟩ := okV_at hv ha2 _ (getD_in (l := nx xs a2) (j := 0) (by omega))
   refine E.step (fun k => ?_) K
   rw [base G ha, if_pos (by omega), hc, fbegins c (by omega), Option.bind_some, hb, if_pos rfl]
 | @go l l' a c ha h hc hb _ ih =>
   obtain ⟨a2, ha2, hl2, _⟩ := G.last
   have : a2 = a := by omega
   subst this
   have hin := getD_in (l := nx xs a2) (j := 0) (by omega)
   obtain ⟨k1, k2⟩ := okV_at hv ha2 _ hin
   refine E.step (fun k => ?_) (ih (G.next hcl ha (by omega) (by rw [← hc]; exact hin) hb) K)
   rw [base G ha, if_pos (by omega), hc, fbegins c (by omega), Option.bind_some, hb, if_neg (by decide)]
theorem fblocks_l2 (H : Sm xs) (hv : okV xs 0 = true) {R : List Bool} (hR : R.length = xs.length) (hcl : Clo xs R) : ∀ (d i : Nat) (acc : List (List Int)), i + d = xs.length → acc.length ≤ i → E (fun k => flow_Blocks.l2 k acc (eL xs R) (wL xs R) R (xs.length : Int) (i : Int) xs) (bkL xs R d i acc) := by
 have hn := H.n
 intro d
 induction d with
 | zero =>
   intro i acc hi ha
   exact E.step (h := fun _ => some acc) (fun k => by rw [flow_Blocks.l2.eq_2, if_neg (by omega)]) (E.const _)
 | succ d ih =>
   intro i acc hi ha
   have hlt : i < xs.length := by omega
   have hj : ∀ acc', acc'.length ≤ i + 1 → E (fun k => flow_Blocks.l2 k acc' (eL xs R) (wL xs R) R (xs.length : Int) ((i + 1 : Nat) : Int) xs) (bkL xs R d (i + 1) acc') := fun acc' h => ih (i + 1) acc' (by omega) h
   have hjt : E (fun k => flow_Blocks.j3 k acc (i : Int) (eL xs R) (wL xs R) R (xs.length : Int) (i : Int) true xs) (bkL xs R d (i + 1) acc) := by
    refine E.step (fun k => ?_) (hj acc (by omega))
    rw [flow_Blocks.j3.eq_2, if_pos rfl, w64 (by omega) (by omega)]
    rfl
   cases hr : R.getD i false with
   | false =>
     have e : bkL xs R (d + 1) i acc = bkL xs R d (i + 1) acc := bk_no (by rw [hr]; rfl)
     rw [e]
     refine E.step (fun k => ?_) hjt
     rw [flow_Blocks.l2.eq_2, if_pos (by omega), if_pos (by omega), if_pos (by omega), rdB, hr, if_neg (by decide)]
   | true =>
     have est : ∀ k, flow_Blocks.l2 (k + 1) acc (eL xs R) (wL xs R) R (xs.length : Int) (i : Int) xs = flow_Blocks.j3 k acc (i : Int) (eL xs R) (wL xs R) R (xs.length : Int) (i : Int) (!(bg xs R i)) xs := by
      intro k
      rw [flow_Blocks.l2.eq_2, if_pos (by omega), if_pos (by omega), if_pos (by omega), rdB, hr, if_pos rfl, fbegins i hlt, Option.bind_some]
     cases hb : bg xs R i with
     | false =>
       have e : bkL xs R (d + 1) i acc = bkL xs R d (i + 1) acc := bk_no (by rw [hr, hb]; rfl)
       rw [e]
       exact E.step (fun k => by rw [est, hb]; rfl) hjt
     | true =>
       have e : bkL xs R (d + 1) i acc = bkL xs R d (i + 1) (acc ++ [chF xs R i]) := bk_yes (by rw [hr, hb]; rfl)
       rw [e]
       have G := Good.one hlt hr hb
       have C := chF_ok (Ch.ex hv hcl xs.length _ G (by omega))
       refine E.step (h := fun k => flow_Blocks.j3 k acc (i : Int) (eL xs R) (wL xs R) R (xs.length : Int) (i : Int) false xs) (fun k => by rw [est, hb]; rfl) ?_
       refine E.step (fun k => ?_) (fchain H hv hR hcl (by omega) i hlt C G (hj (acc ++ [chF xs R i]) (by simp; omega)))
       rw [flow_Blocks.j3.eq_2, if_neg (by decide)]
theorem rchain (H : Sm xs) (hvb : validB xs = true) (hcl : Clo xs (rchL xs)) {x3 : List (List Int)} (hx : x3.length ≤ 30) (i : Nat) (hi : i < xs.length) {Z : List (List Int)} {l l' : List Int} (C : Ch xs (rchL xs) l l') (G : Good xs (rchL xs) l)
 (K : E (fun k => q_Blocks.l0 k (x3 ++ [l']) ((i + 1 : Nat) : Int) xs) Z) : E (fun k => q_Blocks.l1 k x3 (i : Int) l (lastI l) xs) Z := by
 have hn := H.n
 have hv := (validB_ok hvb).2.2
 have hwi : wrap64 ((i : Int) + 1) = ((i + 1 : Nat) : Int) := by rw [w64 (by omega) (by omega)]; rfl
 have base : ∀ {l : List Int} {a : Nat}, Good xs (rchL xs) l → lastI l = (a : Int) → ∀ k, q_Blocks.l1 (k + 1) x3 (i : Int) l (lastI l) xs =
  if ((nx xs a).length : Int) = 1 then ((q_begins.f k xs ((nx xs a).getD 0 0)).bind fun t => if t = true then q_Blocks.l0 k (x3 ++ [l]) ((i + 1 : Nat) : Int) xs else q_Blocks.l1 k x3 (i : Int) (l ++ [(nx xs a).getD 0 0]) (lastI (l ++ [(nx xs a).getD 0 0])) xs)
  else q_Blocks.l0 k (x3 ++ [l]) ((i + 1 : Nat) : Int) xs := by
  intro l a G ha k
  have hpos := G.pos
  have hlen := G.len
  obtain ⟨a2, ha2, hl2, _⟩ := G.last
  have : a2 = a := by omega
  subst this
  rw [q_Blocks.l1.eq_2, ha, if_pos (by omega), if_pos (by omega), rd58]
  by_cases h1 : ((nx xs a2).length : Int) = 1
  · rw [if_pos h1, if_pos (show (((xs.getD a2 z58).f2).length : Int) = 1 from h1), if_pos (show 0 < (((xs.getD a2 z58).f2).length : Int) by have : (((xs.getD a2 z58).f2).length : Int) = 1 := h1; omega), rdI0, if_pos (show x3.length < 5864062014805 by omega), if_pos (show l.length < 17592186044416 by omega), hwi]
    simp only [Option.bind_some]
    have hl3 : (l ++ [(nx xs a2).getD 0 0]).length = l.length + 1 := by simp
    rw [w64 (x := ((l ++ [(xs.getD a2 z58).f2.getD 0 0]).length : Int) - 1) (by rw [show (l ++ [(xs.getD a2 z58).f2.getD 0 0]).length = l.length + 1 from hl3]; omega) (by rw [show (l ++ [(xs.getD a2 z58).f2.getD 0 0]).length = l.length + 1 from hl3]; omega), if_pos (by rw [show (l ++ [(xs.getD a2 z58).f2.getD 0 0]).length = l.length + 1 from hl3]; omega), if_pos (by omega), show ((l ++ [(xs.getD a2 z58).f2.getD 0 0]).length : Int) - 1 = (((l ++ [(xs.getD a2 z58).f2.getD 0 0]).length - 1 : Nat) : Int) by rw [show (l ++ [(xs.getD a2 z58).f2.getD 0 0]).length = l.length + 1 from hl3]; omega, rdI]
    rfl
  · rw [if_neg h1, if_neg (show ¬ (((xs.getD a2 z58).f2).length : Int) = 1 from h1), if_pos (show x3.length < 5864062014805 by omega), hwi]
 have hrb : ∀ {l : List Int} {a c : Nat}, Good xs (rchL xs) l → lastI l = (a : Int) → (nx xs a).length = 1 → (nx xs a).getD 0 0 = (c : Int) → c < xs.length ∧ (c : Int) ∈ nx xs a ∧ E (fun k => q_begins.f k xs (c : Int)) (bg xs (rchL xs) c) := by
  intro l a c G ha h hc
  obtain ⟨a2, ha2, hl2, hra⟩ := G.last
  have : a2 = a := by omega
  subst this
  have hin := getD_in (l := nx xs a2) (j := 0) (by omega)
  obtain ⟨k1, k2⟩ := okV_at hv ha2 _ hin
  have hcn : c < xs.length := by omega
  have hci : (c : Int) ∈ nx xs a2 := by rw [← hc]; exact hin
  have := rbegins H hvb c hcn
  rw [hcl a2 c ha2 hcn hra hci, Bool.true_and] at this
  exact ⟨hcn, hci, this⟩
 induction C with
 | stop ha h => exact E.step (fun k => by rw [base G ha, if_neg (by omega)]) K
 | @stopB l a c ha h hc hb =>
   obtain ⟨k1, k2, k3⟩ := hrb G ha h hc
   rw [hb] at k3
   refine E.step (fun k => by rw [base G ha, if_pos (by omega), hc]) (E.bind k3 ?_)
   exact E.eq (fun k => if_pos rfl) K
 | @go l l' a c ha h hc hb _ ih =>
   obtain ⟨k1, k2, k3⟩ := hrb G ha h hc
   rw [hb] at k3
   refine E.step (fun k => by rw [base G ha, if_pos (by omega), hc]) (E.bind k3 ?_)
   exact E.eq (fun k => if_neg (by decide)) (ih (G.next hcl ha k1 k2 hb) K)
theorem rblocks_l0 (H : Sm xs) (hvb : validB xs = true) (hcl : Clo xs (rchL xs)) : ∀ (d i : Nat) (acc : List (List Int)), i + d = xs.length → acc.length ≤ i → E (fun k => q_Blocks.l0 k acc (i : Int) xs) (bkL xs (rchL xs) d i acc) := by
 have hn := H.n
 have hv := (validB_ok hvb).2.2
 intro d
 induction d with
 | zero =>
   intro i acc hi ha
   exact E.step (h := fun _ => some acc) (fun k => by rw [q_Blocks.l0.eq_2, if_neg (by omega)]) (E.const _)
 | succ d ih =>
   intro i acc hi ha
   have hlt : i < xs.length := by omega
   refine E.step (h := fun k => (q_begins.f k xs (i : Int)).bind fun t => if t = true then q_Blocks.l1 k acc (i : Int) [(i : Int)] (i : Int) xs else q_Blocks.l0 k acc (wrap64 ((i : Int) + 1)) xs) (fun k => by rw [q_Blocks.l0.eq_2, if_pos (by omega)]) (E.bind (rbegins H hvb i hlt) ?_)
   cases hb : ((rchL xs).getD i false && bg xs (rchL xs) i) with
   | false =>
     have e : bkL xs (rchL xs) (d + 1) i acc = bkL xs (rchL xs) d (i + 1) acc := bk_no hb
     rw [e]
     refine E.eq (fun k => ?_) (ih (i + 1) acc (by omega) (by omega))
     rw [if_neg (by decide), w64 (by omega) (by omega)]; rfl
   | true =>
     have e : bkL xs (rchL xs) (d + 1) i acc = bkL xs (rchL xs) d (i + 1) (acc ++ [chF xs (rchL xs) i]) := bk_yes hb
     rw [e]
     rw [Bool.and_eq_true] at hb
     have G := Good.one hlt hb.1 hb.2
     have C := chF_ok (Ch.ex hv hcl xs.length _ G (by omega))
     exact E.eq (fun k => if_pos rfl) (rchain H hvb hcl (by omega) i hlt C G (ih (i + 1) (acc ++ [chF xs (rchL xs) i]) (by omega) (by simp; omega)))
theorem rchL_get {v : Nat} (hv : v < xs.length) : (rchL xs).getD v false = true ↔ Rch xs v := by
 classical
 have : (rchL xs).getD v false = decide (Rch xs v) := by
  unfold rchL
  rw [List.getD_eq_getElem?_getD, List.getElem?_map, List.getElem?_range hv]
  simp only [Option.map_some, Option.getD_some]
 rw [this, decide_eq_true_iff]
theorem clo : Clo xs (rchL xs) := fun a b ha hb hr he => (rchL_get hb).2 (.step ((rchL_get ha).1 hr) ha he)
variable (xs) in
noncomputable def bkV : List (List Int) := if validB xs = true then bkL xs (rchL xs) xs.length 0 [] else []
theorem rblocks (H : Sm xs) : E (fun k => q_Blocks.f k xs) (bkV xs) := by
 unfold q_Blocks.f
 simp only [Option.bind_some]
 refine E.bind (rvalid H) ?_
 unfold bkV
 cases hv : validB xs with
 | true =>
   rw [show (if true = true then bkL xs (rchL xs) xs.length 0 [] else []) = bkL xs (rchL xs) xs.length 0 [] from if_pos rfl]
   exact E.eq (fun k => if_pos rfl) (rblocks_l0 H hv clo xs.length 0 [] (by omega) (by simp))
 | false => exact E.eq (fun k => if_neg (by decide)) (E.const _)
theorem fblocks (H : Sm xs) : E (fun k => flow_Blocks.f k xs) (bkV xs) := by
 have hn := H.n
 unfold flow_Blocks.f
 refine E.bind (freach H) ?_
 unfold bkV rchV
 cases hv : validB xs with
 | true =>
   have hl := rchL_len (xs := xs)
   rw [show (if true = true then rchL xs else []) = rchL xs from if_pos rfl, show (if true = true then bkL xs (rchL xs) xs.length 0 [] else []) = bkL xs (rchL xs) xs.length 0 [] from if_pos rfl]
   have K := fblocks_l2 H (validB_ok hv).2.2 hl clo xs.length 0 [] (by omega) (by simp)
   refine E.eq (fun k => ?_) (fblocks_l0 H (validB_ok hv).2.2 hl K xs.length 0 (List.replicate xs.length 0) (List.replicate xs.length false) (by omega) ⟨by simp, by simp, fun b hb => by simp [cE, hb], fun b hb => by simp [cW, hb]⟩)
   rw [hl, if_pos (by omega), if_pos (by omega), if_pos (by omega)]
   rfl
 | false =>
   simp only [Bool.false_eq_true, if_false, List.length_nil]
   refine E.step (h := fun k => flow_Blocks.l2 k [] [] [] [] 0 0 xs) (fun k => ?_) (E.step (h := fun _ => some []) (fun k => ?_) (E.const _))
   · rw [if_pos (by decide), if_pos (by decide), if_pos (by decide), flow_Blocks.l0.eq_2, if_neg (by decide)]; rfl
   · rw [flow_Blocks.l2.eq_2, if_neg (by decide)]
end
end Go.Proofs.YtfcjeoihfphphaaGreatDoor.PFlow
end
section
namespace Go.Proofs.YtfcjeoihfphphaaGreatDoor.PFlow
open Go.RowKit Go.Proofs.YtfcjeoihfphphaaGreatDoorW.PrintWords
section
variable {xs : List S58} {R : List Bool}
variable (xs R) in
def Lk (l : List Int) : Prop := ∀ t, t + 1 < l.length → ∃ b c : Nat, l.getD t 0 = (b : Int) ∧ l.getD (t + 1) 0 = (c : Int) ∧ (nx xs b).length = 1 ∧ (nx xs b).getD 0 0 = (c : Int) ∧ bg xs R c = false
variable (xs R) in
structure Blk (l : List Int) : Prop where
 good : Good xs R l
 lk : Lk xs R l
 stop : ∀ a : Nat, lastI l = (a : Int) → (nx xs a).length = 1 → ∃ c : Nat, (nx xs a).getD 0 0 = (c : Int) ∧ bg xs R c = true
theorem getD_l {l m : List Int} {t : Nat} (h : t < l.length) : (l ++ m).getD t 0 = l.getD t 0 := by
 simp [List.getD_eq_getElem?_getD, List.getElem?_append, h]
theorem Lk.app {l : List Int} (K : Lk xs R l) {a c : Nat} (ha : lastI l = (a : Int)) (h1 : (nx xs a).length = 1) (hc : (nx xs a).getD 0 0 = (c : Int)) (hb : bg xs R c = false) : Lk xs R (l ++ [(c : Int)]) := by
 intro t ht
 have ht' : t + 1 < l.length + 1 := by simpa using ht
 by_cases h : t + 1 < l.length
 · rw [getD_l (by omega), getD_l h]; exact K t h
 · have e : t = l.length - 1 := by omega
   have e1 : t + 1 = l.length := by omega
   refine ⟨a, c, ?_, ?_, h1, hc, hb⟩
   · rw [getD_l (by omega), e]; exact ha
   · rw [e1]; simp
theorem Ch.blk (hv : okV xs 0 = true) (hcl : Clo xs R) {l l' : List Int} (C : Ch xs R l l') (G : Good xs R l) (K : Lk xs R l) : Blk xs R l' ∧ l'.getD 0 0 = l.getD 0 0 := by
 induction C with
 | @stop l a ha h =>
   refine ⟨⟨G, K, fun a' ha' h1 => ?_⟩, rfl⟩
   have : a' = a := by omega
   subst this
   exact absurd h1 h
 | @stopB l a c ha h hc hb =>
   refine ⟨⟨G, K, fun a' ha' h1 => ?_⟩, rfl⟩
   have : a' = a := by omega
   subst this
   exact ⟨c, hc, hb⟩
 | @go l l' a c ha h hc hb _ ih =>
   obtain ⟨a2, ha2, hl2, _⟩ := G.last
   have : a2 = a := by omega
   subst this
   have hin := getD_in (l := nx xs a2) (j := 0) (by omega)
   obtain ⟨k1, k2⟩ := okV_at hv ha2 _ hin
   obtain ⟨B, e⟩ := ih (G.next hcl ha (by omega) (by rw [← hc]; exact hin) hb) (K.app ha h hc hb)
   exact ⟨B, e.trans (getD_l G.pos)⟩
theorem same_head {l m : List Int} (B : Blk xs R l) (B' : Blk xs R m) : ∀ t s, t < l.length → s < m.length → l.getD t 0 = m.getD s 0 → l.getD 0 0 = m.getD 0 0 := by
 intro t
 induction t with
 | zero =>
   intro s ht hs e
   cases s with
   | zero => exact e
   | succ s =>
     obtain ⟨v, h1, h2⟩ := B.good.head
     obtain ⟨b, c, _, h4, _, _, h5⟩ := B'.lk s hs
     have : v = c := by omega
     subst this
     rw [h2] at h5
     cases h5
 | succ t ih =>
   intro s ht hs e
   cases s with
   | zero =>
     obtain ⟨v, h1, h2⟩ := B'.good.head
     obtain ⟨b, c, _, h4, _, _, h5⟩ := B.lk t ht
     have : v = c := by omega
     subst this
     rw [h2] at h5
     cases h5
   | succ s =>
     obtain ⟨b, c, h1, h2, h3, h4, h5⟩ := B.lk t ht
     obtain ⟨b', c', g1, g2, g3, g4, g5⟩ := B'.lk s hs
     have : c = c' := by omega
     subst this
     refine ih s (by omega) (by omega) ?_
     obtain ⟨v, hv, ev, rv⟩ := B.good.mem _ (getD_in (l := l) (j := t) (by omega))
     obtain ⟨v', hv', ev', rv'⟩ := B'.good.mem _ (getD_in (l := m) (j := s) (by omega))
     have : v = b := by omega
     subst this
     have : v' = b' := by omega
     subst this
     rw [h1, g1]
     refine Classical.byContradiction fun hne => ?_
     have i1 := getD_in (l := nx xs v) (j := 0) (by omega)
     have i2 := getD_in (l := nx xs v') (j := 0) (by omega)
     rw [h4] at i1
     rw [g4] at i2
     have := cE_two (xs := xs) (R := R) (b := (c : Int)) (a := v) (a' := v') (n := xs.length) (by omega) hv hv' rv rv' i1 i2
     have := bg_false h5
     omega
theorem before_one {l : List Int} (B : Blk xs R l) {t : Nat} (ht : t + 1 < l.length) {a : Nat} (ha : a < xs.length) (hr : R.getD a false = true) (he : l.getD (t + 1) 0 ∈ nx xs a) : l.getD t 0 = (a : Int) := by
 obtain ⟨b, c, h1, h2, h3, h4, h5⟩ := B.lk t ht
 obtain ⟨v, hv, ev, rv⟩ := B.good.mem _ (getD_in (l := l) (j := t) (by omega))
 have : v = b := by omega
 subst this
 rw [h1]
 refine Classical.byContradiction fun hne => ?_
 have i1 := getD_in (l := nx xs v) (j := 0) (by omega)
 rw [h4] at i1
 rw [h2] at he
 have := cE_two (xs := xs) (R := R) (b := (c : Int)) (a := v) (a' := a) (n := xs.length) (by omega) hv ha rv hr i1 he
 have := bg_false h5
 omega
variable (xs R) in
def beg : Nat → Bool := fun i => R.getD i false && bg xs R i
theorem bkL_eq : ∀ (d i : Nat) (acc : List (List Int)), bkL xs R d i acc = acc ++ ((List.range' i d).filter (beg xs R)).map (chF xs R) := by
 intro d
 induction d with
 | zero => intro i acc; simp [bkL]
 | succ d ih =>
   intro i acc
   cases h : beg xs R i with
   | true => rw [bk_yes h, ih]; simp [List.range'_succ, h]
   | false => rw [bk_no h, ih]; simp [List.range'_succ, h]
variable (xs R) in
def begs : List Nat := (List.range' 0 xs.length).filter (beg xs R)
variable (xs R) in
noncomputable def blks : List (List Int) := (begs xs R).map (chF xs R)
theorem begs_mem {i : Nat} (h : i ∈ begs xs R) : i < xs.length ∧ R.getD i false = true ∧ bg xs R i = true := by
 unfold begs at h
 obtain ⟨h1, h2⟩ := List.mem_filter.1 h
 have h3 := List.mem_range'.1 h1
 unfold beg at h2
 rw [Bool.and_eq_true] at h2
 exact ⟨by omega, h2.1, h2.2⟩
theorem mem_begs {i : Nat} (h1 : i < xs.length) (h2 : R.getD i false = true) (h3 : bg xs R i = true) : i ∈ begs xs R := by
 unfold begs
 refine List.mem_filter.2 ⟨List.mem_range'.2 ⟨i, h1, by omega⟩, ?_⟩
 unfold beg
 rw [h2, h3]; rfl
theorem chF_blk (hv : okV xs 0 = true) (hcl : Clo xs R) {i : Nat} (h : i ∈ begs xs R) : Blk xs R (chF xs R i) ∧ (chF xs R i).getD 0 0 = (i : Int) := by
 obtain ⟨h1, h2, h3⟩ := begs_mem h
 have G := Good.one (xs := xs) (R := R) h1 h2 h3
 have C := chF_ok (Ch.ex hv hcl xs.length _ G (by omega))
 obtain ⟨B, e⟩ := C.blk hv hcl G (fun t ht => by simp at ht)
 exact ⟨B, e⟩
theorem blks_len : (blks xs R).length = (begs xs R).length := by simp [blks]
theorem blks_get {b : Nat} (hb : b < (blks xs R).length) : ∃ i, ∃ h : b < (begs xs R).length, (begs xs R)[b] = i ∧ i ∈ begs xs R ∧ (blks xs R).getD b [] = chF xs R i := by
 have h : b < (begs xs R).length := by rw [← blks_len]; exact hb
 refine ⟨(begs xs R)[b], h, rfl, List.getElem_mem h, ?_⟩
 unfold blks
 simp [h]
theorem blks_apart (hv : okV xs 0 = true) (hcl : Clo xs R) {b1 b2 : Nat} (h12 : b1 < b2) (h2 : b2 < (blks xs R).length) {w : Int} (m1 : w ∈ (blks xs R).getD b1 []) (m2 : w ∈ (blks xs R).getD b2 []) : False := by
 obtain ⟨i1, k1, e1, g1, f1⟩ := blks_get (xs := xs) (R := R) (b := b1) (by omega)
 obtain ⟨i2, k2, e2, g2, f2⟩ := blks_get (xs := xs) (R := R) (b := b2) h2
 rw [f1] at m1
 rw [f2] at m2
 obtain ⟨B1, d1⟩ := chF_blk hv hcl g1
 obtain ⟨B2, d2⟩ := chF_blk hv hcl g2
 obtain ⟨t, ht, et⟩ := List.getElem_of_mem m1
 obtain ⟨s, hs, es⟩ := List.getElem_of_mem m2
 have := same_head B1 B2 t s ht hs (by simp [List.getD_eq_getElem?_getD, ht, hs, et, es])
 have hlt : (begs xs R)[b1] < (begs xs R)[b2] := by
  have P : (begs xs R).Pairwise (· < ·) := (List.pairwise_lt_range' (s := 0) (n := xs.length)).filter _
  exact (List.pairwise_iff_getElem.1 P) b1 b2 k1 k2 h12
 omega
theorem cW_step {b : Int} {a : Nat} (hr : R.getD a false = true) (he : b ∈ nx xs a) (h1 : 1 < (nx xs a).length) : ∀ {n : Nat}, a < n → cW xs R b n = true := by
 intro n
 induction n with
 | zero => intro h; omega
 | succ n ih =>
   intro h
   simp only [cW]
   by_cases ha : a = n
   · subst ha
     rw [hr, decide_eq_true he, decide_eq_true h1]; simp
   · rw [ih (by omega)]; rfl
theorem all_in (hv : okV xs 0 = true) (h2 : 2 ≤ xs.length) {v : Nat} (h : Rch xs v) : v < xs.length → ∃ b, b < (blks xs (rchL xs)).length ∧ (v : Int) ∈ (blks xs (rchL xs)).getD b [] := by
 have own : ∀ {i : Nat}, i ∈ begs xs (rchL xs) → ∃ b, b < (blks xs (rchL xs)).length ∧ (blks xs (rchL xs)).getD b [] = chF xs (rchL xs) i := by
  intro i hi
  obtain ⟨b, hb, e⟩ := List.getElem_of_mem hi
  refine ⟨b, by rw [blks_len]; exact hb, ?_⟩
  unfold blks
  simp [hb, e]
 have first : ∀ {i : Nat}, i ∈ begs xs (rchL xs) → (i : Int) ∈ chF xs (rchL xs) i := by
  intro i hi
  obtain ⟨B, e⟩ := chF_blk hv clo hi
  have := getD_in (l := chF xs (rchL xs) i) (j := 0) B.good.pos
  rw [e] at this
  exact this
 induction h with
 | zero =>
   intro hlt
   have hi : 0 ∈ begs xs (rchL xs) := mem_begs hlt ((rchL_get hlt).2 .zero) (by unfold bg; simp)
   obtain ⟨b, hb, e⟩ := own hi
   exact ⟨b, hb, by rw [e]; exact first hi⟩
 | @step a c h ha e ih =>
   intro hc
   cases hb : bg xs (rchL xs) c with
   | true =>
     have hi : c ∈ begs xs (rchL xs) := mem_begs hc ((rchL_get hc).2 (.step h ha e)) hb
     obtain ⟨b, hb, e⟩ := own hi
     exact ⟨b, hb, by rw [e]; exact first hi⟩
   | false =>
     obtain ⟨b, hbl, hm⟩ := ih ha
     refine ⟨b, hbl, ?_⟩
     obtain ⟨i, _, _, g, f⟩ := blks_get hbl
     rw [f] at hm ⊢
     obtain ⟨B, d⟩ := chF_blk hv clo g
     have hra := (rchL_get ha).2 h
     have h1 : (nx xs a).length = 1 := by
      have hpos : 0 < (nx xs a).length := List.length_pos_of_mem e
      refine Classical.byContradiction fun hne => ?_
      have := cW_step (xs := xs) (R := rchL xs) hra e (by omega) ha
      unfold bg at hb
      rw [this] at hb
      simp at hb
     have hx : (nx xs a).getD 0 0 = (c : Int) := by
      obtain ⟨z, hz⟩ := List.length_eq_one_iff.1 h1
      rw [hz] at e
      have : (c : Int) = z := by simpa using e
      rw [hz, this]; rfl
     obtain ⟨t, ht, et⟩ := List.getElem_of_mem hm
     have et' : (chF xs (rchL xs) i).getD t 0 = (a : Int) := by simp [List.getD_eq_getElem?_getD, ht, et]
     by_cases hl : t + 1 < (chF xs (rchL xs) i).length
     · obtain ⟨b', c', k1, k2, k3, k4, k5⟩ := B.lk t hl
       have : b' = a := by omega
       subst this
       have := getD_in (l := chF xs (rchL xs) i) hl
       rw [k2, ← k4, hx] at this
       exact this
     · have : lastI (chF xs (rchL xs) i) = (a : Int) := by
        unfold lastI
        rw [show (chF xs (rchL xs) i).length - 1 = t by omega]
        exact et'
       obtain ⟨c', k1, k2⟩ := B.stop a this h1
       have : c' = c := by omega
       subst this
       rw [hb] at k2
       cases k2
end
end Go.Proofs.YtfcjeoihfphphaaGreatDoor.PFlow
end
section
namespace Go.Proofs.YtfcjeoihfphphaaGreatDoor.PFlow
open Go.RowKit Go.Proofs.YtfcjeoihfphphaaGreatDoorW.PrintWords
section
variable {xs : List S58}
theorem ch_len {R : List Bool} (hv : okV xs 0 = true) (hcl : Clo xs R) {l l' : List Int} (C : Ch xs R l l') (G : Good xs R l) : l'.length ≤ xs.length := by
 induction C with
 | stop _ _ => exact G.len
 | stopB _ _ _ _ => exact G.len
 | @go l l' a c ha h hc hb _ ih =>
   obtain ⟨a2, ha2, hl2, _⟩ := G.last
   have : a2 = a := by omega
   subst this
   have hin := getD_in (l := nx xs a2) (j := 0) (by omega)
   obtain ⟨k1, k2⟩ := okV_at hv ha2 _ hin
   exact ih (G.next hcl ha (by omega) (by rw [← hc]; exact hin) hb)
theorem bkL_len (H : Sm xs) (hv : okV xs 0 = true) {R : List Bool} (hcl : Clo xs R) : ∀ (d i : Nat) (acc : List (List Int)), i + d = xs.length → acc.length ≤ i → (∀ l ∈ acc, l.length ≤ 30) → (bkL xs R d i acc).length ≤ xs.length ∧ ∀ l ∈ bkL xs R d i acc, l.length ≤ 30 := by
 have hn := H.n
 intro d
 induction d with
 | zero => intro i acc hi ha hl; exact ⟨by show acc.length ≤ _; omega, hl⟩
 | succ d ih =>
   intro i acc hi ha hl
   cases hb : (R.getD i false && bg xs R i) with
   | false => rw [bk_no hb]; exact ih (i + 1) acc (by omega) (by omega) hl
   | true =>
     rw [bk_yes hb]
     rw [Bool.and_eq_true] at hb
     have G := Good.one (show i < xs.length by omega) hb.1 hb.2
     have C := chF_ok (Ch.ex hv hcl xs.length _ G (by omega))
     have := ch_len hv hcl C G
     refine ih (i + 1) _ (by omega) (by simp; omega) fun l h => ?_
     rcases List.mem_append.1 h with h | h
     · exact hl l h
     · have : l = chF xs R i := by simpa using h
       rw [this]; omega
theorem bkV_len (H : Sm xs) : (bkV xs).length ≤ 30 ∧ ∀ l ∈ bkV xs, l.length ≤ 30 := by
 have hn := H.n
 unfold bkV
 cases hv : validB xs with
 | true =>
   obtain ⟨h1, h2⟩ := bkL_len H (validB_ok hv).2.2 clo xs.length 0 [] (by omega) (by simp) (fun l h => by cases h)
   rw [if_pos rfl]
   exact ⟨by omega, h2⟩
 | false => exact ⟨by simp, fun l h => by simp at h⟩
end
end Go.Proofs.YtfcjeoihfphphaaGreatDoor.PFlow
end
section
namespace Go.Proofs.YtfcjeoihfphphaaGreatDoor.PFlow
open Go.RowKit Go.Proofs.YtfcjeoihfphphaaGreatDoorW.PrintWords
section
variable {xs : List S58} {R : List Bool}
theorem rowP_spec {b : Int} {w : Int} : ∀ {i : Nat}, w ∈ rowP xs b i → ∃ a : Nat, a < i ∧ w = (a : Int) ∧ b ∈ nx xs a := by
 intro i
 induction i with
 | zero => intro h; simp [rowP] at h
 | succ i ih =>
   intro h
   simp only [rowP, List.mem_append] at h
   rcases h with h | h
   · obtain ⟨a, h1, h2, h3⟩ := ih h; exact ⟨a, by omega, h2, h3⟩
   · split at h
     · rename_i hc
       simp at h
       exact ⟨i, by omega, h, hc⟩
     · cases h
theorem befL_get {v : Nat} (hv : v < xs.length) : (befL xs xs.length).getD v [] = rowP xs (v : Int) xs.length := by
 unfold befL
 simp [hv]
structure Sn (xs : List S58) (Ls : List (List Int)) (b i : Nat) (x6 : List Bool) : Prop where
 len : x6.length = xs.length
 get : ∀ v : Nat, v < xs.length → (x6.getD v false = true ↔ ((∃ c, c < b ∧ (v : Int) ∈ Ls.getD c []) ∨ (v : Int) ∈ (Ls.getD b []).take i))
theorem Sn.push {Ls : List (List Int)} {b i v : Nat} {x6 : List Bool} (S : Sn xs Ls b i x6) (hv : v < xs.length) (hi : i < (Ls.getD b []).length) (e : (Ls.getD b []).getD i 0 = (v : Int)) : Sn xs Ls b (i + 1) (x6.set v true) := by
 refine ⟨by rw [List.length_set]; exact S.len, fun w hw => ?_⟩
 rw [set_get (by rw [S.len]; exact hv), take_mem hi, e]
 by_cases h : w = v
 · subst h
   simp
 · rw [if_neg h, S.get w hw]
   have : ¬ ((w : Int) = (v : Int)) := by omega
   simp [this]
theorem Sn.next {Ls : List (List Int)} {b : Nat} {x6 : List Bool} (S : Sn xs Ls b (Ls.getD b []).length x6) : Sn xs Ls (b + 1) 0 x6 := by
 refine ⟨S.len, fun w hw => ?_⟩
 rw [S.get w hw, List.take_length]
 simp only [List.take_zero, List.not_mem_nil, or_false]
 constructor
 · rintro (⟨c, h1, h2⟩ | h)
   · exact ⟨c, by omega, h2⟩
   · exact ⟨b, by omega, h⟩
 · rintro ⟨c, h1, h2⟩
   by_cases h : c = b
   · subst h; exact .inr h2
   · exact .inl ⟨c, by omega, h2⟩
theorem lb_l2 (R : List Bool) (hR : R.length = xs.length) (hn : xs.length ≤ 30) (B Ls : List (List Int)) (l : List Int) (hl : l.length ≤ 30) (t : Nat) (ht : t + 1 < l.length) (b : Nat) (x6 : List Bool)
 (row : List Int) (hrl : row.length ≤ 30) (hrow : ∀ w ∈ row, ∃ a : Nat, a < xs.length ∧ w = (a : Int) ∧ (R.getD a false = true → l.getD t 0 = (a : Int)))
 (K : E (fun k => assessorlaw17_FlowBlocks.l1 k R B x6 l Ls (Ls.length : Int) (b : Int) l (l.length : Int) ((t + 2 : Nat) : Int) xs) true) :
 ∀ (d j : Nat), j + d = row.length → E (fun k => assessorlaw17_FlowBlocks.l2 k R B x6 l ((t + 1 : Nat) : Int) Ls (Ls.length : Int) (b : Int) l (l.length : Int) ((t + 1 : Nat) : Int) row (row.length : Int) (j : Int) xs) true := by
 intro d
 induction d with
 | zero =>
   intro j hj
   refine E.step (fun k => ?_) K
   rw [assessorlaw17_FlowBlocks.l2.eq_2, if_neg (by omega), w64 (x := ((t + 1 : Nat) : Int) + 1) (by omega) (by omega)]
   rfl
 | succ d ih =>
   intro j hj
   obtain ⟨a, ha, ea, hra⟩ := hrow _ (getD_in (l := row) (j := j) (by omega))
   refine E.step (fun k => ?_) (ih (j + 1) (by omega))
   rw [assessorlaw17_FlowBlocks.l2.eq_2, if_pos (by omega), if_pos (by omega), if_pos (by omega), rdI, ea, if_pos (by omega), if_pos (by omega), rdB, w64 (x := (j : Int) + 1) (by omega) (by omega)]
   cases hr : R.getD a false with
   | false => rw [if_neg (by decide)]; rfl
   | true =>
     rw [if_pos rfl, w64 (x := ((t + 1 : Nat) : Int) - 1) (by omega) (by omega), if_pos (by omega), if_pos (by omega), show ((t + 1 : Nat) : Int) - 1 = (t : Int) by omega, rdI, hra hr, if_pos rfl]
     rfl
theorem lb_l1 (H : Sm xs) (hv : okV xs 0 = true) (hcl : Clo xs R) (hR : R.length = xs.length) (b : Nat) (hb : b < (blks xs R).length) (hbl : (blks xs R).length ≤ 30)
 (K : ∀ x6, Sn xs (blks xs R) (b + 1) 0 x6 → E (fun k => assessorlaw17_FlowBlocks.l0 k R (befL xs xs.length) x6 (blks xs R) ((blks xs R).length : Int) ((b + 1 : Nat) : Int) xs) true) :
 ∀ (d i : Nat) (x6 : List Bool), i + d = ((blks xs R).getD b []).length → Sn xs (blks xs R) b i x6 → E (fun k => assessorlaw17_FlowBlocks.l1 k R (befL xs xs.length) x6 ((blks xs R).getD b []) (blks xs R) ((blks xs R).length : Int) (b : Int) ((blks xs R).getD b []) (((blks xs R).getD b []).length : Int) (i : Int) xs) true := by
 have hn := H.n
 obtain ⟨i0, _, _, g, f⟩ := blks_get hb
 obtain ⟨Bk, hd⟩ := chF_blk hv hcl g
 rw [← f] at Bk hd
 have hll := Bk.good.len
 have hap := fun (c : Nat) (w : Int) (hc : c < b) (m1 : w ∈ (blks xs R).getD c []) (m2 : w ∈ (blks xs R).getD b []) => blks_apart hv hcl hc hb m1 m2
 generalize hLs : blks xs R = Ls at *
 generalize hl : Ls.getD b [] = l at *
 intro d
 induction d with
 | zero =>
   intro i x6 hi S
   have : i = l.length := by omega
   subst this
   have S' : Sn xs Ls (b + 1) 0 x6 := Sn.next (by rw [hl]; exact S)
   refine E.step (fun k => ?_) (K x6 S')
   rw [assessorlaw17_FlowBlocks.l1.eq_2, if_neg (by omega), w64 (x := (b : Int) + 1) (by omega) (by omega)]
   rfl
 | succ d ih =>
   intro i x6 hi S
   have hil : i < l.length := by omega
   obtain ⟨v, hvn, ev, rv⟩ := Bk.good.mem _ (getD_in (l := l) (j := i) hil)
   have hsl := S.len
   have hnot : x6.getD v false = false := by
    cases hx : x6.getD v false with
    | false => rfl
    | true =>
      rcases (S.get v hvn).1 hx with ⟨c, h1, h2⟩ | h
      · exact (hap c _ h1 h2 (by rw [← ev]; exact getD_in hil)).elim
      · rw [hl] at h
        exfalso
        have nd := Bk.good.nd
        obtain ⟨t, ht, et⟩ := List.getElem_of_mem h
        have ht' : t < i ∧ t < l.length := by have := ht; rw [List.length_take] at this; omega
        have e1 : l[t]'ht'.2 = (v : Int) := by rw [← et, List.getElem_take]
        have e2 : l[i]'hil = (v : Int) := by rw [← ev]; simp [List.getD_eq_getElem?_getD, hil]
        have := (List.nodup_iff_pairwise_ne.1 nd)
        have := (List.pairwise_iff_getElem.1 this) t i ht'.2 hil ht'.1
        exact this (e1.trans e2.symm)
   have S2 : Sn xs Ls b (i + 1) (x6.set v true) := S.push hvn (by rw [hl]; exact hil) (by rw [hl]; exact ev)
   have go := ih (i + 1) (x6.set v true) (by omega) S2
   refine E.step (h := fun k => assessorlaw17_FlowBlocks.j3 k R (befL xs xs.length) x6 l (i : Int) (v : Int) Ls (Ls.length : Int) (b : Int) l (l.length : Int) (i : Int) false xs) (fun k => ?_) ?_
   · rw [assessorlaw17_FlowBlocks.l1.eq_2, if_pos (by omega), if_pos (by omega), if_pos (by omega), rdI, ev, if_neg (by omega), if_neg (by omega), if_pos (by omega), if_pos (by omega), rdB, hnot, if_neg (by decide), if_pos (by omega), rdB, rv]
     rfl
   cases i with
   | zero =>
     refine E.step (fun k => ?_) go
     rw [assessorlaw17_FlowBlocks.j3.eq_2, if_neg (by decide), if_pos (by omega), if_pos (by omega), Option.bind_some, if_pos (by omega), w64 (by omega) (by omega), Int.toNat_natCast]
     rfl
   | succ t =>
     obtain ⟨p, c, k1, k2, k3, k4, k5⟩ := Bk.lk t (by omega)
     have : c = v := by omega
     subst this
     obtain ⟨p', hp', ep', rp'⟩ := Bk.good.mem _ (getD_in (l := l) (j := t) (by omega))
     have : p' = p := by omega
     subst this
     have hrl := rowP_len (xs := xs) (c : Int) xs.length
     have L2 := lb_l2 R hR hn (befL xs xs.length) Ls l (by omega) t (by omega) b (x6.set c true) (rowP xs (c : Int) xs.length) (by omega) (fun w hw => by
      obtain ⟨a, h1, h2, h3⟩ := rowP_spec hw
      exact ⟨a, h1, h2, fun hr => before_one Bk (by omega) h1 hr (by rw [ev]; exact h3)⟩) go (rowP xs (c : Int) xs.length).length 0 (by omega)
     refine E.step (h := fun k => assessorlaw17_FlowBlocks.j4 k R (befL xs xs.length) (x6.set c true) l ((t + 1 : Nat) : Int) (c : Int) Ls (Ls.length : Int) (b : Int) l (l.length : Int) ((t + 1 : Nat) : Int) false xs) (fun k => ?_) (E.step (fun k => ?_) L2)
     · have k3' : (((xs.getD p' z58).f2).length : Int) = 1 := by have : ((nx xs p').length : Int) = 1 := by omega
                                                                 exact this
       rw [assessorlaw17_FlowBlocks.j3.eq_2, if_neg (by decide), if_pos (by omega), if_pos (by omega), Option.bind_some, if_neg (by omega), w64 (x := ((t + 1 : Nat) : Int) - 1) (by omega) (by omega), show ((t + 1 : Nat) : Int) - 1 = (t : Int) by omega, if_pos (by omega), if_pos (by omega), rdI, k1, if_pos (by omega), if_pos (by omega), rd58, if_pos k3', if_pos (by omega), rdI0, show ((xs.getD p' z58).f2).getD 0 0 = (c : Int) from k4, Int.toNat_natCast]
       simp
     · rw [assessorlaw17_FlowBlocks.j4.eq_2, if_neg (by decide), if_pos (by omega), if_pos (by rw [befL_len]; omega), rdL, befL_get hvn]
       rfl
theorem lb_l0 (H : Sm xs) (hv : okV xs 0 = true) (h2 : 2 ≤ xs.length) (hbl : (blks xs (rchL xs)).length ≤ 30) :
 ∀ (d b : Nat) (x6 : List Bool), b + d = (blks xs (rchL xs)).length → Sn xs (blks xs (rchL xs)) b 0 x6 → E (fun k => assessorlaw17_FlowBlocks.l0 k (rchL xs) (befL xs xs.length) x6 (blks xs (rchL xs)) ((blks xs (rchL xs)).length : Int) (b : Int) xs) true := by
 have hn := H.n
 have hR := rchL_len (xs := xs)
 intro d
 induction d with
 | zero =>
   intro b x6 hb S
   have e : x6 = rchL xs := by
    apply List.ext_getElem (by rw [S.len, hR])
    intro v h1 h2'
    have hvn : v < xs.length := by rw [← S.len]; exact h1
    have a1 : x6[v] = x6.getD v false := by simp [List.getD_eq_getElem?_getD, h1]
    have a2 : (rchL xs)[v] = (rchL xs).getD v false := by simp [List.getD_eq_getElem?_getD, h2']
    rw [a1, a2, Bool.eq_iff_iff, S.get v hvn, rchL_get hvn]
    constructor
    · rintro (⟨c, hc, hm⟩ | h)
      · obtain ⟨i, _, _, g, f⟩ := blks_get (xs := xs) (R := rchL xs) (b := c) (by omega)
        rw [f] at hm
        obtain ⟨Bk, _⟩ := chF_blk hv clo g
        obtain ⟨v', g1, g2, g3⟩ := Bk.good.mem _ hm
        have : v' = v := by omega
        subst this
        exact (rchL_get hvn).1 g3
      · simp at h
    · intro h
      obtain ⟨c, hc, hm⟩ := all_in hv h2 h hvn
      exact .inl ⟨c, by omega, hm⟩
   subst e
   refine E.step (h := fun k => ((sEq.f k (rchL xs) (rchL xs)).bind fun t => some t)) (fun k => ?_) (E.bind (eqb _ (by omega)) (E.const _))
   rw [assessorlaw17_FlowBlocks.l0.eq_2, if_neg (by omega)]
 | succ d ih =>
   intro b x6 hb S
   refine E.step (fun k => ?_) (lb_l1 H hv clo hR b (by omega) hbl (fun x6 S => ih (b + 1) x6 (by omega) S) ((blks xs (rchL xs)).getD b []).length 0 x6 (by omega) S)
   rw [assessorlaw17_FlowBlocks.l0.eq_2, if_pos (by omega), if_pos (by omega), if_pos (by omega), rdL]
   rfl
theorem flowBlocks_pure (hl : xs.length < 4611686018427387904) : E (fun k => assessorlaw17_FlowBlocks.f k xs) true := by
 unfold assessorlaw17_FlowBlocks.f
 refine E.bind (f := fun _ => assessorlaw17_awake.f) (E.const true) ?_
 refine E.eq (fun k => if_pos rfl) ?_
 refine E.bind (small_f xs hl 30) ?_
 cases hs : smallB xs 30 0 with
 | false => exact E.eq (fun k => if_neg (by decide)) (E.const _)
 | true =>
 have H := Sm.of (by decide) hs
 have hn := H.n
 refine E.eq (fun k => if_pos rfl) ?_
 refine E.bind (fblocks H) (E.bind (freach H) (E.bind (fbefore H) (E.bind (rvalid H) ?_)))
 cases hv : validB xs with
 | false =>
   refine E.eq (h := fun _ => some true) (fun k => ?_) (E.const _)
   have e1 : bkV xs = [] := by unfold bkV; rw [hv]; rfl
   have e2 : rchV xs = [] := by unfold rchV; rw [hv]; rfl
   have e3 : befV xs = [] := by unfold befV; rw [hv]; rfl
   rw [if_neg (by decide), e1, e2, e3]
   rfl
 | true =>
   obtain ⟨v1, v2, v3⟩ := validB_ok hv
   have hR := rchL_len (xs := xs)
   have e1 : bkV xs = blks xs (rchL xs) := by unfold bkV; rw [hv, if_pos rfl, bkL_eq]; rfl
   have e2 : rchV xs = rchL xs := by unfold rchV; rw [hv]; rfl
   have e3 : befV xs = befL xs xs.length := by unfold befV; rw [hv]; rfl
   have hb := (bkV_len H).1
   rw [e1] at hb
   rw [e1, e2, e3]
   refine E.eq (h := fun k => assessorlaw17_FlowBlocks.j0 k (blks xs (rchL xs)) (rchL xs) (befL xs xs.length) false xs) (fun k => ?_) ?_
   · rw [if_pos rfl, if_pos (by omega), befL_len]
     simp
   · refine E.step (fun k => ?_) (lb_l0 H v3 v1 hb (blks xs (rchL xs)).length 0 (List.replicate xs.length false) (by omega) ⟨by simp, fun v hv => by simp [hv]⟩)
     rw [assessorlaw17_FlowBlocks.j0.eq_2, if_neg (by decide), if_pos (by omega), if_pos (by omega), Int.toNat_natCast]
     rfl
end
end Go.Proofs.YtfcjeoihfphphaaGreatDoor.PFlow
end
