/- A part of the proof, written by programs of this seat and by hand: LB. -/
import Derived.Test.YtfcjeoihfphphaaGreatDoorPtLA
import Derived.Test.YtfcjeoihfphphaaGreatDoorPtP9
import Derived.Test.YtfcjeoihfphphaaGreatDoorPtP10
set_option linter.unusedVariables false
set_option linter.unusedSimpArgs false
section
namespace Go.Proofs.YtfcjeoihfphphaaGreatDoor.PFlow
open Go.RowKit Go.Proofs.YtfcjeoihfphphaaGreatDoorW.PrintWords
theorem pigeon : ∀ (n : Nat) (l : List Int), l.Nodup → (∀ w ∈ l, 0 ≤ w ∧ w < (n : Int)) → l.length ≤ n := by
 intro n
 induction n with
 | zero =>
   intro l _ h
   cases l with
   | nil => simp
   | cons a l => have := h a List.mem_cons_self; omega
 | succ n ih =>
   intro l hn h
   have hn2 : (l.erase (n : Int)).Nodup := hn.erase _
   have := ih (l.erase (n : Int)) hn2 (fun w hw => by
    have h1 := (hn.mem_erase_iff).1 hw
    have h2 := h w h1.2
    have := h1.1
    omega)
   have hl : l.length ≤ (l.erase (n : Int)).length + 1 := by rw [List.length_erase]; split <;> omega
   omega
section
variable {xs : List S58} {R : List Bool}
theorem cE_mono (b : Int) : ∀ {i k : Nat}, i ≤ k → cE xs R b i ≤ cE xs R b k := by
 intro i k h
 induction k with
 | zero => have : i = 0 := by omega
           subst this; exact Nat.le_refl _
 | succ k ih =>
   by_cases hk : i = k + 1
   · subst hk; exact Nat.le_refl _
   · have := ih (by omega)
     simp only [cE]; omega
theorem cE_one {b : Int} {a : Nat} (hr : R.getD a false = true) (hb : b ∈ nx xs a) : cE xs R b a + 1 ≤ cE xs R b (a + 1) := by
 have : 0 < (nx xs a).count b := List.count_pos_iff.2 hb
 simp only [cE, hr, if_true]; omega
theorem cE_two {b : Int} {a a' n : Nat} (hne : a ≠ a') (ha : a < n) (ha' : a' < n) (hr : R.getD a false = true) (hr' : R.getD a' false = true) (hb : b ∈ nx xs a) (hb' : b ∈ nx xs a') : 2 ≤ cE xs R b n := by
 have h1 := cE_one (xs := xs) hr hb
 have h2 := cE_one (xs := xs) hr' hb'
 rcases Nat.lt_or_gt_of_ne hne with h | h
 · have := cE_mono (xs := xs) (R := R) b (show a + 1 ≤ a' by omega)
   have := cE_mono (xs := xs) (R := R) b (show a' + 1 ≤ n by omega)
   omega
 · have := cE_mono (xs := xs) (R := R) b (show a' + 1 ≤ a by omega)
   have := cE_mono (xs := xs) (R := R) b (show a + 1 ≤ n by omega)
   omega
def lastI (l : List Int) : Int := l.getD (l.length - 1) 0
variable (xs R) in
structure Good (l : List Int) : Prop where
 pos : 0 < l.length
 mem : ∀ w ∈ l, ∃ v : Nat, v < xs.length ∧ w = (v : Int) ∧ R.getD v false = true
 nd : l.Nodup
 head : ∃ v : Nat, l.getD 0 0 = (v : Int) ∧ bg xs R v = true
 link : ∀ t, t + 1 < l.length → ∃ b : Nat, l.getD t 0 = (b : Int) ∧ l.getD (t + 1) 0 ∈ nx xs b
variable (xs R) in
def Clo : Prop := ∀ a b : Nat, a < xs.length → b < xs.length → R.getD a false = true → (b : Int) ∈ nx xs a → R.getD b false = true
theorem bg_false {c : Nat} (h : bg xs R c = false) : cE xs R (c : Int) xs.length = 1 := by
 unfold bg at h
 simp only [Bool.or_eq_false_iff, Bool.not_eq_false', decide_eq_true_eq] at h
 exact h.2.1
theorem Good.last {l : List Int} (G : Good xs R l) : ∃ a : Nat, a < xs.length ∧ lastI l = (a : Int) ∧ R.getD a false = true := G.mem _ (getD_in (by have := G.pos; omega))
theorem Good.next (hcl : Clo xs R) {l : List Int} (G : Good xs R l) {a c : Nat} (ha : lastI l = (a : Int)) (hc : c < xs.length) (hin : (c : Int) ∈ nx xs a) (hb : bg xs R c = false) : Good xs R (l ++ [(c : Int)]) := by
 have hpos := G.pos
 obtain ⟨a2, ha2, hl2, hra⟩ := G.last
 have : a2 = a := by omega
 subst this
 have hrc := hcl a2 c ha2 hc hra hin
 have hnot : (c : Int) ∉ l := by
  intro hm
  obtain ⟨s, hs⟩ := List.getElem?_of_mem hm
  have hsl : s < l.length := (List.getElem?_eq_some_iff.1 hs).1
  have hgs : l.getD s 0 = (c : Int) := by rw [List.getD_eq_getElem?_getD, hs]; rfl
  cases s with
  | zero =>
    obtain ⟨v, hv1, hv2⟩ := G.head
    have : v = c := by omega
    subst this
    rw [hb] at hv2; cases hv2
  | succ t =>
    obtain ⟨b, hb1, hb2⟩ := G.link t hsl
    rw [hgs] at hb2
    obtain ⟨b2, hb3, hb4, hb5⟩ := G.mem _ (getD_in (show t < l.length by omega))
    have : b2 = b := by omega
    subst this
    by_cases hba : b2 = a2
    · subst hba
      have h1 : l[t]? = some (b2 : Int) := by
       have : l.getD t 0 = l[t] := by simp [show t < l.length by omega]
       rw [List.getElem?_eq_getElem (by omega), ← this, hb1]
      have h2 : l[l.length - 1]? = some (b2 : Int) := by
       have : l.getD (l.length - 1) 0 = l[l.length - 1] := by simp [show l.length - 1 < l.length by omega]
       rw [List.getElem?_eq_getElem (by omega), ← this]; exact congrArg some ha
      have := (List.getElem?_inj (show t < l.length by omega) G.nd).1 (h1.trans h2.symm)
      omega
    · have := cE_two hba hb3 ha2 hb5 hra hb2 hin
      have := bg_false hb
      omega
 refine ⟨by simp, fun w hw => ?_, ?_, ?_, fun t ht => ?_⟩
 · rcases List.mem_append.1 hw with hw | hw
   · exact G.mem w hw
   · exact ⟨c, hc, by simpa using hw, hrc⟩
 · rw [List.nodup_append]
   refine ⟨G.nd, by simp, fun x hx y hy hxy => hnot ?_⟩
   have : y = (c : Int) := by simpa using hy
   rw [← this, ← hxy]; exact hx
 · obtain ⟨v, hv1, hv2⟩ := G.head
   exact ⟨v, by rw [← hv1]; simp [List.getElem?_append, hpos], hv2⟩
 · simp only [List.length_append, List.length_cons, List.length_nil] at ht
   by_cases hlt : t + 1 < l.length
   · obtain ⟨b, h1, h2⟩ := G.link t hlt
     refine ⟨b, ?_, ?_⟩
     · rw [← h1]; simp [List.getElem?_append, show t < l.length by omega]
     · have : (l ++ [(c : Int)]).getD (t + 1) 0 = l.getD (t + 1) 0 := by simp [List.getElem?_append, hlt]
       rw [this]; exact h2
   · have ht2 : t = l.length - 1 := by omega
     refine ⟨a2, ?_, ?_⟩
     · have : (l ++ [(c : Int)]).getD t 0 = l.getD t 0 := by simp [List.getElem?_append, show t < l.length by omega]
       rw [this, ht2]; exact ha
     · have : (l ++ [(c : Int)]).getD (t + 1) 0 = (c : Int) := by rw [show t + 1 = l.length by omega]; simp
       rw [this]; exact hin
theorem Good.len {l : List Int} (G : Good xs R l) : l.length ≤ xs.length := pigeon xs.length l G.nd fun w hw => by
 obtain ⟨v, h1, h2, _⟩ := G.mem w hw
 omega
variable (xs R) in
inductive Ch : List Int → List Int → Prop
 | stop {l : List Int} {a : Nat} (ha : lastI l = (a : Int)) (h : (nx xs a).length ≠ 1) : Ch l l
 | stopB {l : List Int} {a c : Nat} (ha : lastI l = (a : Int)) (h : (nx xs a).length = 1) (hc : (nx xs a).getD 0 0 = (c : Int)) (hb : bg xs R c = true) : Ch l l
 | go {l l' : List Int} {a c : Nat} (ha : lastI l = (a : Int)) (h : (nx xs a).length = 1) (hc : (nx xs a).getD 0 0 = (c : Int)) (hb : bg xs R c = false) (H : Ch (l ++ [(c : Int)]) l') : Ch l l'
theorem Ch.ex (hv : okV xs 0 = true) (hcl : Clo xs R) : ∀ (m : Nat) (l : List Int), Good xs R l → xs.length ≤ l.length + m → ∃ l', Ch xs R l l' := by
 intro m
 induction m with
 | zero =>
   intro l G hm
   obtain ⟨a, ha, hla, hra⟩ := G.last
   by_cases h1 : (nx xs a).length = 1
   · have hin := getD_in (l := nx xs a) (j := 0) (by omega)
     obtain ⟨k1, k2⟩ := okV_at hv ha _ hin
     obtain ⟨c, hc⟩ : ∃ c : Nat, (nx xs a).getD 0 0 = (c : Int) := ⟨((nx xs a).getD 0 0).toNat, by omega⟩
     cases hb : bg xs R c with
     | true => exact ⟨l, .stopB hla h1 hc hb⟩
     | false =>
       have := (G.next hcl hla (by omega) (by rw [← hc]; exact hin) hb).len
       simp at this
       omega
   · exact ⟨l, .stop hla h1⟩
 | succ m ih =>
   intro l G hm
   obtain ⟨a, ha, hla, hra⟩ := G.last
   by_cases h1 : (nx xs a).length = 1
   · have hin := getD_in (l := nx xs a) (j := 0) (by omega)
     obtain ⟨k1, k2⟩ := okV_at hv ha _ hin
     obtain ⟨c, hc⟩ : ∃ c : Nat, (nx xs a).getD 0 0 = (c : Int) := ⟨((nx xs a).getD 0 0).toNat, by omega⟩
     cases hb : bg xs R c with
     | true => exact ⟨l, .stopB hla h1 hc hb⟩
     | false =>
       obtain ⟨l', hl'⟩ := ih _ (G.next hcl hla (by omega) (by rw [← hc]; exact hin) hb) (by simp; omega)
       exact ⟨l', .go hla h1 hc hb hl'⟩
   · exact ⟨l, .stop hla h1⟩
theorem Good.one {i : Nat} (hi : i < xs.length) (hr : R.getD i false = true) (hb : bg xs R i = true) : Good xs R [(i : Int)] :=
 ⟨by simp, fun w hw => ⟨i, hi, by simpa using hw, hr⟩, by simp, ⟨i, by simp, hb⟩, fun t ht => by simp at ht⟩
end
end Go.Proofs.YtfcjeoihfphphaaGreatDoor.PFlow
end
section
namespace Go.Proofs.YtfcjeoihfphphaaGreatDoor.PFlow
open Go.RowKit Go.Proofs.YtfcjeoihfphphaaGreatDoorW.PrintWords
section
variable {xs : List S58}
open Classical in
variable (xs) in
noncomputable def chF (R : List Bool) (i : Nat) : List Int := if h : ∃ l', Ch xs R [(i : Int)] l' then Classical.choose h else []
theorem chF_ok {R : List Bool} {i : Nat} (h : ∃ l', Ch xs R [(i : Int)] l') : Ch xs R [(i : Int)] (chF xs R i) := by
 unfold chF; rw [dif_pos h]; exact Classical.choose_spec h
variable (xs) in
noncomputable def bkL (R : List Bool) : Nat → Nat → List (List Int) → List (List Int)
 | 0, _, acc => acc
 | d + 1, i, acc => if (R.getD i false && bg xs R i) = true then bkL R d (i + 1) (acc ++ [chF xs R i]) else bkL R d (i + 1) acc
theorem rdI0 (l : List Int) : rd l 0 = l.getD 0 0 := by simp [rd]
theorem bk_yes {R : List Bool} {d i : Nat} {acc : List (List Int)} (h : (R.getD i false && bg xs R i) = true) : bkL xs R (d + 1) i acc = bkL xs R d (i + 1) (acc ++ [chF xs R i]) := if_pos h
theorem bk_no {R : List Bool} {d i : Nat} {acc : List (List Int)} (h : (R.getD i false && bg xs R i) = false) : bkL xs R (d + 1) i acc = bkL xs R d (i + 1) acc := if_neg (by rw [h]; decide)
theorem fchain (H : Sm xs) (hv : okV xs 0 = true) {R : List Bool} (hR : R.length = xs.length) (hcl : Clo xs R) {x11 : List (List Int)} (hx : x11.length ≤ 30) (i : Nat) (hi : i < xs.length) {Z : List (List Int)} {l l' : List Int} (C : Ch xs R l l') (G : Good xs R l)
 (K : E (fun k => flow_Blocks.l2 k (x11 ++ [l']) (eL xs R) (wL xs R) R (xs.length : Int) ((i + 1 : Nat) : Int) xs) Z) : E (fun k => flow_Blocks.l3 k x11 l (eL xs R) (wL xs R) R (xs.length : Int) (i : Int) xs) Z := by
 have hn := H.n
 have hwi : wrap64 ((i : Int) + 1) = ((i + 1 : Nat) : Int) := by rw [w64 (by omega) (by omega)]; rfl
 have base : ∀ {l : List Int} {a : Nat}, Good xs R l → lastI l = (a : Int) → ∀ k, flow_Blocks.l3 (k + 1) x11 l (eL xs R) (wL xs R) R (xs.length : Int) (i : Int) xs =
  if ((nx xs a).length : Int) = 1 then ((flow_begins.f ((nx xs a).getD 0 0) (eL xs R) (wL xs R)).bind fun t => if t = true then flow_Blocks.l2 k (x11 ++ [l]) (eL xs R) (wL xs R) R (xs.length : Int) ((i + 1 : Nat) : Int) xs else flow_Blocks.l3 k x11 (l ++ [(nx xs a).getD 0 0]) (eL xs R) (wL xs R) R (xs.length : Int) (i : Int) xs)
  else flow_Blocks.l2 k (x11 ++ [l]) (eL xs R) (wL xs R) R (xs.length : Int) ((i + 1 : Nat) : Int) xs := by
  intro l a G ha k
  have hpos := G.pos
  have hlen := G.len
  obtain ⟨a2, ha2, hl2, _⟩ := G.last
  have : a2 = a := by omega
  subst this
  rw [flow_Blocks.l3.eq_2, w64 (x := (l.length : Int) - 1) (by omega) (by omega), if_pos (by omega), if_pos (by omega), show (l.length : Int) - 1 = ((l.length - 1 : Nat) : Int) by omega, rdI, show l.getD (l.length - 1) 0 = (a2 : Int) from ha, if_pos (by omega), if_pos (by omega), rd58]
  by_cases h1 : ((nx xs a2).length : Int) = 1
  · rw [if_pos h1, if_pos (show (((xs.getD a2 z58).f2).length : Int) = 1 from h1), if_pos (show 0 < (((xs.getD a2 z58).f2).length : Int) by have : (((xs.getD a2 z58).f2).length : Int) = 1 := h1; omega), rdI0, if_pos (show x11.length < 5864062014805 by omega), if_pos (show l.length < 17592186044416 by omega), hwi]
  · rw [if_neg h1, if_neg (show ¬ (((xs.getD a2 z58).f2).length : Int) = 1 from h1), if_pos (show x11.length < 5864062014805 by omega), hwi]
 induction C with
 | stop ha h => exact E.step (fun k => by rw [base G ha, if_neg (by omega)]) K
 | @stopB l a c ha h hc hb =>
   obtain ⟨a2, ha2, hl2, _⟩ := G.last
   have : a2 = a := by omega
   subst this
   obtain ⟨k1, k2⟩ := okV_at hv ha2 _ (getD_in (l := nx xs a2) (j := 0) (by omega))
   refine E.step (fun k => ?_) K
   rw [base G ha, if_pos (by omega), hc, fbegins c (by omega), Option.bind_some, hb, if_pos rfl]
 | @go l l' a c ha h hc hb _ ih =>
   obtain ⟨a2, ha2, hl2, _⟩ := G.last
   have : a2 = a := by omega
   subst this
   have hin := getD_in (l := nx xs a2) (j := 0) (by omega)
   obtain ⟨k1, k2⟩ := okV_at hv ha2 _ hin
   refine E.step (fun k => ?_) (ih (G.next hcl ha (by omega) (by rw [← hc]; exact hin) hb) K)
   rw [base G ha, if_pos (by omega), hc, fbegins c (by omega), Option.bind_some, hb, if_neg (by decide)]
theorem fblocks_l2 (H : Sm xs) (hv : okV xs 0 = true) {R : List Bool} (hR : R.length = xs.length) (hcl : Clo xs R) : ∀ (d i : Nat) (acc : List (List Int)), i + d = xs.length → acc.length ≤ i → E (fun k => flow_Blocks.l2 k acc (eL xs R) (wL xs R) R (xs.length : Int) (i : Int) xs) (bkL xs R d i acc) := by
 have hn := H.n
 intro d
 induction d with
 | zero =>
   intro i acc hi ha
   exact E.step (h := fun _ => some acc) (fun k => by rw [flow_Blocks.l2.eq_2, if_neg (by omega)]) (E.const _)
 | succ d ih =>
   intro i acc hi ha
   have hlt : i < xs.length := by omega
   have hj : ∀ acc', acc'.length ≤ i + 1 → E (fun k => flow_Blocks.l2 k acc' (eL xs R) (wL xs R) R (xs.length : Int) ((i + 1 : Nat) : Int) xs) (bkL xs R d (i + 1) acc') := fun acc' h => ih (i + 1) acc' (by omega) h
   have hjt : E (fun k => flow_Blocks.j3 k acc (i : Int) (eL xs R) (wL xs R) R (xs.length : Int) (i : Int) true xs) (bkL xs R d (i + 1) acc) := by
    refine E.step (fun k => ?_) (hj acc (by omega))
    rw [flow_Blocks.j3.eq_2, if_pos rfl, w64 (by omega) (by omega)]
    rfl
   cases hr : R.getD i false with
   | false =>
     have e : bkL xs R (d + 1) i acc = bkL xs R d (i + 1) acc := bk_no (by rw [hr]; rfl)
     rw [e]
     refine E.step (fun k => ?_) hjt
     rw [flow_Blocks.l2.eq_2, if_pos (by omega), if_pos (by omega), if_pos (by omega), rdB, hr, if_neg (by decide)]
   | true =>
     have est : ∀ k, flow_Blocks.l2 (k + 1) acc (eL xs R) (wL xs R) R (xs.length : Int) (i : Int) xs = flow_Blocks.j3 k acc (i : Int) (eL xs R) (wL xs R) R (xs.length : Int) (i : Int) (!(bg xs R i)) xs := by
      intro k
      rw [flow_Blocks.l2.eq_2, if_pos (by omega), if_pos (by omega), if_pos (by omega), rdB, hr, if_pos rfl, fbegins i hlt, Option.bind_some]
     cases hb : bg xs R i with
     | false =>
       have e : bkL xs R (d + 1) i acc = bkL xs R d (i + 1) acc := bk_no (by rw [hr, hb]; rfl)
       rw [e]
       exact E.step (fun k => by rw [est, hb]; rfl) hjt
     | true =>
       have e : bkL xs R (d + 1) i acc = bkL xs R d (i + 1) (acc ++ [chF xs R i]) := bk_yes (by rw [hr, hb]; rfl)
       rw [e]
       have G := Good.one hlt hr hb
       have C := chF_ok (Ch.ex hv hcl xs.length _ G (by omega))
       refine E.step (h := fun k => flow_Blocks.j3 k acc (i : Int) (eL xs R) (wL xs R) R (xs.length : Int) (i : Int) false xs) (fun k => by rw [est, hb]; rfl) ?_
       refine E.step (fun k => ?_) (fchain H hv hR hcl (by omega) i hlt C G (hj (acc ++ [chF xs R i]) (by simp; omega)))
       rw [flow_Blocks.j3.eq_2, if_neg (by decide)]
theorem rchain (H : Sm xs) (hvb : validB xs = true) (hcl : Clo xs (rchL xs)) {x3 : List (List Int)} (hx : x3.length ≤ 30) (i : Nat) (hi : i < xs.length) {Z : List (List Int)} {l l' : List Int} (C : Ch xs (rchL xs) l l') (G : Good xs (rchL xs) l)
 (K : E (fun k => q_Blocks.l0 k (x3 ++ [l']) ((i + 1 : Nat) : Int) xs) Z) : E (fun k => q_Blocks.l1 k x3 (i : Int) l (lastI l) xs) Z := by
 have hn := H.n
 have hv := (validB_ok hvb).2.2
 have hwi : wrap64 ((i : Int) + 1) = ((i + 1 : Nat) : Int) := by rw [w64 (by omega) (by omega)]; rfl
 have base : ∀ {l : List Int} {a : Nat}, Good xs (rchL xs) l → lastI l = (a : Int) → ∀ k, q_Blocks.l1 (k + 1) x3 (i : Int) l (lastI l) xs =
  if ((nx xs a).length : Int) = 1 then ((q_begins.f k xs ((nx xs a).getD 0 0)).bind fun t => if t = true then q_Blocks.l0 k (x3 ++ [l]) ((i + 1 : Nat) : Int) xs else q_Blocks.l1 k x3 (i : Int) (l ++ [(nx xs a).getD 0 0]) (lastI (l ++ [(nx xs a).getD 0 0])) xs)
  else q_Blocks.l0 k (x3 ++ [l]) ((i + 1 : Nat) : Int) xs := by
  intro l a G ha k
  have hpos := G.pos
  have hlen := G.len
  obtain ⟨a2, ha2, hl2, _⟩ := G.last
  have : a2 = a := by omega
  subst this
  rw [q_Blocks.l1.eq_2, ha, if_pos (by omega), if_pos (by omega), rd58]
  by_cases h1 : ((nx xs a2).length : Int) = 1
  · rw [if_pos h1, if_pos (show (((xs.getD a2 z58).f2).length : Int) = 1 from h1), if_pos (show 0 < (((xs.getD a2 z58).f2).length : Int) by have : (((xs.getD a2 z58).f2).length : Int) = 1 := h1; omega), rdI0, if_pos (show x3.length < 5864062014805 by omega), if_pos (show l.length < 17592186044416 by omega), hwi]
    simp only [Option.bind_some]
    have hl3 : (l ++ [(nx xs a2).getD 0 0]).length = l.length + 1 := by simp
    rw [w64 (x := ((l ++ [(xs.getD a2 z58).f2.getD 0 0]).length : Int) - 1) (by rw [show (l ++ [(xs.getD a2 z58).f2.getD 0 0]).length = l.length + 1 from hl3]; omega) (by rw [show (l ++ [(xs.getD a2 z58).f2.getD 0 0]).length = l.length + 1 from hl3]; omega), if_pos (by rw [show (l ++ [(xs.getD a2 z58).f2.getD 0 0]).length = l.length + 1 from hl3]; omega), if_pos (by omega), show ((l ++ [(xs.getD a2 z58).f2.getD 0 0]).length : Int) - 1 = (((l ++ [(xs.getD a2 z58).f2.getD 0 0]).length - 1 : Nat) : Int) by rw [show (l ++ [(xs.getD a2 z58).f2.getD 0 0]).length = l.length + 1 from hl3]; omega, rdI]
    rfl
  · rw [if_neg h1, if_neg (show ¬ (((xs.getD a2 z58).f2).length : Int) = 1 from h1), if_pos (show x3.length < 5864062014805 by omega), hwi]
 have hrb : ∀ {l : List Int} {a c : Nat}, Good xs (rchL xs) l → lastI l = (a : Int) → (nx xs a).length = 1 → (nx xs a).getD 0 0 = (c : Int) → c < xs.length ∧ (c : Int) ∈ nx xs a ∧ E (fun k => q_begins.f k xs (c : Int)) (bg xs (rchL xs) c) := by
  intro l a c G ha h hc
  obtain ⟨a2, ha2, hl2, hra⟩ := G.last
  have : a2 = a := by omega
  subst this
  have hin := getD_in (l := nx xs a2) (j := 0) (by omega)
  obtain ⟨k1, k2⟩ := okV_at hv ha2 _ hin
  have hcn : c < xs.length := by omega
  have hci : (c : Int) ∈ nx xs a2 := by rw [← hc]; exact hin
  have := rbegins H hvb c hcn
  rw [hcl a2 c ha2 hcn hra hci, Bool.true_and] at this
  exact ⟨hcn, hci, this⟩
 induction C with
 | stop ha h => exact E.step (fun k => by rw [base G ha, if_neg (by omega)]) K
 | @stopB l a c ha h hc hb =>
   obtain ⟨k1, k2, k3⟩ := hrb G ha h hc
   rw [hb] at k3
   refine E.step (fun k => by rw [base G ha, if_pos (by omega), hc]) (E.bind k3 ?_)
   exact E.eq (fun k => if_pos rfl) K
 | @go l l' a c ha h hc hb _ ih =>
   obtain ⟨k1, k2, k3⟩ := hrb G ha h hc
   rw [hb] at k3
   refine E.step (fun k => by rw [base G ha, if_pos (by omega), hc]) (E.bind k3 ?_)
   exact E.eq (fun k => if_neg (by decide)) (ih (G.next hcl ha k1 k2 hb) K)
theorem rblocks_l0 (H : Sm xs) (hvb : validB xs = true) (hcl : Clo xs (rchL xs)) : ∀ (d i : Nat) (acc : List (List Int)), i + d = xs.length → acc.length ≤ i → E (fun k => q_Blocks.l0 k acc (i : Int) xs) (bkL xs (rchL xs) d i acc) := by
 have hn := H.n
 have hv := (validB_ok hvb).2.2
 intro d
 induction d with
 | zero =>
   intro i acc hi ha
   exact E.step (h := fun _ => some acc) (fun k => by rw [q_Blocks.l0.eq_2, if_neg (by omega)]) (E.const _)
 | succ d ih =>
   intro i acc hi ha
   have hlt : i < xs.length := by omega
   refine E.step (h := fun k => (q_begins.f k xs (i : Int)).bind fun t => if t = true then q_Blocks.l1 k acc (i : Int) [(i : Int)] (i : Int) xs else q_Blocks.l0 k acc (wrap64 ((i : Int) + 1)) xs) (fun k => by rw [q_Blocks.l0.eq_2, if_pos (by omega)]) (E.bind (rbegins H hvb i hlt) ?_)
   cases hb : ((rchL xs).getD i false && bg xs (rchL xs) i) with
   | false =>
     have e : bkL xs (rchL xs) (d + 1) i acc = bkL xs (rchL xs) d (i + 1) acc := bk_no hb
     rw [e]
     refine E.eq (fun k => ?_) (ih (i + 1) acc (by omega) (by omega))
     rw [if_neg (by decide), w64 (by omega) (by omega)]; rfl
   | true =>
     have e : bkL xs (rchL xs) (d + 1) i acc = bkL xs (rchL xs) d (i + 1) (acc ++ [chF xs (rchL xs) i]) := bk_yes hb
     rw [e]
     rw [Bool.and_eq_true] at hb
     have G := Good.one hlt hb.1 hb.2
     have C := chF_ok (Ch.ex hv hcl xs.length _ G (by omega))
     exact E.eq (fun k => if_pos rfl) (rchain H hvb hcl (by omega) i hlt C G (ih (i + 1) (acc ++ [chF xs (rchL xs) i]) (by omega) (by simp; omega)))
theorem rchL_get {v : Nat} (hv : v < xs.length) : (rchL xs).getD v false = true ↔ Rch xs v := by
 classical
 have : (rchL xs).getD v false = decide (Rch xs v) := by
  unfold rchL
  rw [List.getD_eq_getElem?_getD, List.getElem?_map, List.getElem?_range hv]
  simp only [Option.map_some, Option.getD_some]
 rw [this, decide_eq_true_iff]
theorem clo : Clo xs (rchL xs) := fun a b ha hb hr he => (rchL_get hb).2 (.step ((rchL_get ha).1 hr) ha he)
variable (xs) in
noncomputable def bkV : List (List Int) := if validB xs = true then bkL xs (rchL xs) xs.length 0 [] else []
theorem rblocks (H : Sm xs) : E (fun k => q_Blocks.f k xs) (bkV xs) := by
 unfold q_Blocks.f
 simp only [Option.bind_some]
 refine E.bind (rvalid H) ?_
 unfold bkV
 cases hv : validB xs with
 | true =>
   rw [show (if true = true then bkL xs (rchL xs) xs.length 0 [] else []) = bkL xs (rchL xs) xs.length 0 [] from if_pos rfl]
   exact E.eq (fun k => if_pos rfl) (rblocks_l0 H hv clo xs.length 0 [] (by omega) (by simp))
 | false => exact E.eq (fun k => if_neg (by decide)) (E.const _)
theorem fblocks (H : Sm xs) : E (fun k => flow_Blocks.f k xs) (bkV xs) := by
 have hn := H.n
 unfold flow_Blocks.f
 refine E.bind (freach H) ?_
 unfold bkV rchV
 cases hv : validB xs with
 | true =>
   have hl := rchL_len (xs := xs)
   rw [show (if true = true then rchL xs else []) = rchL xs from if_pos rfl, show (if true = true then bkL xs (rchL xs) xs.length 0 [] else []) = bkL xs (rchL xs) xs.length 0 [] from if_pos rfl]
   have K := fblocks_l2 H (validB_ok hv).2.2 hl clo xs.length 0 [] (by omega) (by simp)
   refine E.eq (fun k => ?_) (fblocks_l0 H (validB_ok hv).2.2 hl K xs.length 0 (List.replicate xs.length 0) (List.replicate xs.length false) (by omega) ⟨by simp, by simp, fun b hb => by simp [cE, hb], fun b hb => by simp [cW, hb]⟩)
   rw [hl, if_pos (by omega), if_pos (by omega), if_pos (by omega)]
   rfl
 | false =>
   simp only [Bool.false_eq_true, if_false, List.length_nil]
   refine E.step (h := fun k => flow_Blocks.l2 k [] [] [] [] 0 0 xs) (fun k => ?_) (E.step (h := fun _ => some []) (fun k => ?_) (E.const _))
   · rw [if_pos (by decide), if_pos (by decide), if_pos (by decide), flow_Blocks.l0.eq_2, if_neg (by decide)]; rfl
   · rw [flow_Blocks.l2.eq_2, if_neg (by decide)]
end
end Go.Proofs.YtfcjeoihfphphaaGreatDoor.PFlow
end
section
namespace Go.Proofs.YtfcjeoihfphphaaGreatDoor.PFlow
open Go.RowKit Go.Proofs.YtfcjeoihfphphaaGreatDoorW.PrintWords
section
variable {xs : List S58}
theorem pts_len (a : Int) : ∀ (d i : Nat), (pts xs a d i).length ≤ d := by
 intro d
 induction d with
 | zero => intro i; simp [pts]
 | succ d ih => intro i; have := ih (i + 1); simp only [pts]; split <;> simp <;> omega
theorem ptsV_len (H : Sm xs) (a : Int) : (ptsV xs a).length ≤ 30 := by
 have := pts_len (xs := xs) a xs.length 0
 have := H.n
 unfold ptsV
 split
 · split
   · omega
   · simp
 · simp
theorem getD_len {L : List (List Int)} {m : Nat} (h : ∀ l ∈ L, l.length ≤ m) (i : Nat) : (L.getD i []).length ≤ m := by
 by_cases hi : i < L.length
 · have : L.getD i [] = L[i] := by simp [hi]
   rw [this]; exact h _ (List.getElem_mem hi)
 · have : L.getD i [] = [] := by simp [show L.length ≤ i by omega]
   rw [this]; simp
theorem befV_len (H : Sm xs) : (befV xs).length ≤ 30 ∧ ∀ l ∈ befV xs, l.length ≤ 30 := by
 have hn := H.n
 unfold befV
 split
 · refine ⟨by rw [befL_len]; exact hn, fun l hl => ?_⟩
   obtain ⟨c, _, rfl⟩ := List.mem_map.1 hl
   exact Nat.le_trans (rowP_len _ _) hn
 · exact ⟨by simp, fun l hl => by cases hl⟩
theorem ch_len {R : List Bool} (hv : okV xs 0 = true) (hcl : Clo xs R) {l l' : List Int} (C : Ch xs R l l') (G : Good xs R l) : l'.length ≤ xs.length := by
 induction C with
 | stop _ _ => exact G.len
 | stopB _ _ _ _ => exact G.len
 | @go l l' a c ha h hc hb _ ih =>
   obtain ⟨a2, ha2, hl2, _⟩ := G.last
   have : a2 = a := by omega
   subst this
   have hin := getD_in (l := nx xs a2) (j := 0) (by omega)
   obtain ⟨k1, k2⟩ := okV_at hv ha2 _ hin
   exact ih (G.next hcl ha (by omega) (by rw [← hc]; exact hin) hb)
theorem bkL_len (H : Sm xs) (hv : okV xs 0 = true) {R : List Bool} (hcl : Clo xs R) : ∀ (d i : Nat) (acc : List (List Int)), i + d = xs.length → acc.length ≤ i → (∀ l ∈ acc, l.length ≤ 30) → (bkL xs R d i acc).length ≤ xs.length ∧ ∀ l ∈ bkL xs R d i acc, l.length ≤ 30 := by
 have hn := H.n
 intro d
 induction d with
 | zero => intro i acc hi ha hl; exact ⟨by show acc.length ≤ _; omega, hl⟩
 | succ d ih =>
   intro i acc hi ha hl
   cases hb : (R.getD i false && bg xs R i) with
   | false => rw [bk_no hb]; exact ih (i + 1) acc (by omega) (by omega) hl
   | true =>
     rw [bk_yes hb]
     rw [Bool.and_eq_true] at hb
     have G := Good.one (show i < xs.length by omega) hb.1 hb.2
     have C := chF_ok (Ch.ex hv hcl xs.length _ G (by omega))
     have := ch_len hv hcl C G
     refine ih (i + 1) _ (by omega) (by simp; omega) fun l h => ?_
     rcases List.mem_append.1 h with h | h
     · exact hl l h
     · have : l = chF xs R i := by simpa using h
       rw [this]; omega
theorem bkV_len (H : Sm xs) : (bkV xs).length ≤ 30 ∧ ∀ l ∈ bkV xs, l.length ≤ 30 := by
 have hn := H.n
 unfold bkV
 cases hv : validB xs with
 | true =>
   obtain ⟨h1, h2⟩ := bkL_len H (validB_ok hv).2.2 clo xs.length 0 [] (by omega) (by simp) (fun l h => by cases h)
   rw [if_pos rfl]
   exact ⟨by omega, h2⟩
 | false => exact ⟨by simp, fun l h => by simp at h⟩
theorem rchV_len (H : Sm xs) : (rchV xs).length ≤ 30 := by
 have hn := H.n
 unfold rchV
 split
 · rw [rchL_len]; exact hn
 · simp
theorem flowParts_pure (hl : xs.length < 4611686018427387904) (a : Int) : E (fun k => assessorlaw17_FlowParts.f k xs a) true := by
 unfold assessorlaw17_FlowParts.f
 refine E.bind (f := fun _ => assessorlaw17_awake.f) (E.const true) ?_
 refine E.eq (fun k => if_pos rfl) ?_
 refine E.bind (small_f xs hl 20) ?_
 cases hs : smallB xs 20 0 with
 | false => exact E.eq (fun k => if_neg (by decide)) (E.const _)
 | true =>
 have H := Sm.of (by decide) hs
 refine E.eq (fun k => if_pos rfl) ?_
 refine E.bind (fpoints H a) (E.bind (rpoints H a) (E.bind (ints_eq _ (Nat.lt_of_le_of_lt (ptsV_len H a) (by decide))) ?_))
 refine E.eq (fun k => if_pos rfl) ?_
 obtain ⟨b1, b2⟩ := befV_len H
 refine E.bind (fbefore H) (E.bind (rbefore H) (E.bind (lists_eq _ (fun i => Nat.lt_of_le_of_lt (getD_len b2 i) (by decide)) (Nat.lt_of_le_of_lt b1 (by decide))) ?_))
 refine E.eq (fun k => if_pos rfl) ?_
 refine E.bind (freach H) (E.bind (rreachable H) (E.bind (eqb _ (Nat.lt_of_le_of_lt (rchV_len H) (by decide))) ?_))
 refine E.eq (fun k => if_pos rfl) ?_
 obtain ⟨c1, c2⟩ := bkV_len H
 refine E.bind (fblocks H) (E.bind (rblocks H) (E.bind (lists_eq _ (fun i => Nat.lt_of_le_of_lt (getD_len c2 i) (by decide)) (Nat.lt_of_le_of_lt c1 (by decide))) ?_))
 exact E.const _
end
end Go.Proofs.YtfcjeoihfphphaaGreatDoor.PFlow
end
