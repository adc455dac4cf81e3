/- A part of the proof, written by programs of this seat and by hand: LA. -/
import Derived.Test.YtfcjeoihfphphaaGreatDoorPtP1
import Derived.Test.YtfcjeoihfphphaaGreatDoorPtP2
import Derived.Test.YtfcjeoihfphphaaGreatDoorPtP3
import Derived.Test.YtfcjeoihfphphaaGreatDoorPtP4
import Derived.Test.YtfcjeoihfphphaaGreatDoorPtP5
import Derived.Test.YtfcjeoihfphphaaGreatDoorPtP6
import Derived.Test.YtfcjeoihfphphaaGreatDoorPtP7
import Derived.Test.YtfcjeoihfphphaaGreatDoorPtP8
set_option linter.unusedVariables false
set_option linter.unusedSimpArgs false
section
namespace Go.Proofs.YtfcjeoihfphphaaGreatDoor.PFlow
open Go.RowKit Go.Proofs.YtfcjeoihfphphaaGreatDoorW.PrintWords
def E {α : Type} (g : Nat → Option α) (r : α) : Prop := ∃ k0, ∀ k, k0 ≤ k → g k = some r
theorem E.const {α : Type} (r : α) : E (fun _ => some r) r := ⟨0, fun _ _ => rfl⟩
theorem E.step {α : Type} {g h : Nat → Option α} {r : α} (e : ∀ k, g (k + 1) = h k) (H : E h r) : E g r := by
 obtain ⟨k0, H⟩ := H
 exact ⟨k0 + 1, fun k hk => by obtain ⟨m, rfl⟩ : ∃ m, k = m + 1 := ⟨k - 1, by omega⟩; rw [e]; exact H m (by omega)⟩
theorem E.eq {α : Type} {g h : Nat → Option α} {r : α} (e : ∀ k, g k = h k) (H : E h r) : E g r := by
 obtain ⟨k0, H⟩ := H
 exact ⟨k0, fun k hk => by rw [e]; exact H k hk⟩
theorem E.bind {α β : Type} {f : Nat → Option α} {h : Nat → α → Option β} {a : α} {r : β} (F : E f a) (H : E (fun k => h k a) r) : E (fun k => (f k).bind (h k)) r := by
 obtain ⟨k0, F⟩ := F
 obtain ⟨k1, H⟩ := H
 exact ⟨k0 + k1, fun k hk => by show (f k).bind (h k) = _; rw [F k (by omega)]; exact H k (by omega)⟩
theorem w64 {x : Int} (h0 : -9223372036854775808 ≤ x) (h1 : x < 9223372036854775808) : wrap64 x = x := by unfold wrap64; omega
section
variable (xs : List S58)
abbrev nx (i : Nat) : List Int := ((xs.getD i z58).f2)
theorem rd58 (i : Nat) : rd_T58 xs (i : Int) = xs.getD i z58 := by simp [rd_T58]
def smallB (a : Int) (i : Nat) : Bool := !((xs.drop i).any fun p => decide ((p.f2.length : Int) > 8)) && decide ((xs.length : Int) ≤ a)
theorem small_l0 (hl : xs.length < 4611686018427387904) (a : Int) : ∀ (d i : Nat), i + d = xs.length → E (fun k => q_Small.l0 k a (i : Int) xs) (smallB xs a i) := by
 intro d
 induction d with
 | zero =>
   intro i hi
   refine E.step (h := fun _ => some (smallB xs a i)) (fun k => ?_) (E.const _)
   rw [q_Small.l0.eq_2, if_neg (by omega)]
   simp [smallB, List.drop_of_length_le (show xs.length ≤ i by omega)]
 | succ d ih =>
   intro i hi
   have hlt : i < xs.length := by omega
   have hdrop : xs.drop i = xs.getD i z58 :: xs.drop (i + 1) := by
    rw [List.drop_eq_getElem_cons hlt]; simp [hlt]
   by_cases hb : ((xs.getD i z58).f2.length : Int) > 8
   · refine E.step (h := fun _ => some (smallB xs a i)) (fun k => ?_) (E.const _)
     rw [q_Small.l0.eq_2, if_pos (by omega), if_pos (by omega), rd58, if_pos hb]
     simp only [smallB, hdrop, List.any_cons, decide_eq_true hb, Bool.true_or, Bool.not_true, Bool.false_and]
   · refine E.step (h := fun k => q_Small.l0 k a ((i + 1 : Nat) : Int) xs) (fun k => ?_) ?_
     · rw [q_Small.l0.eq_2, if_pos (by omega), if_pos (by omega), rd58, if_neg hb, w64 (by omega) (by omega)]; rfl
     · have := ih (i + 1) (by omega)
       have e : smallB xs a i = smallB xs a (i + 1) := by simp only [smallB, hdrop, List.any_cons, decide_eq_false hb, Bool.false_or]
       rw [e]; exact this
theorem small_f (hl : xs.length < 4611686018427387904) (a : Int) : E (fun k => q_Small.f k xs a) (smallB xs a 0) := by
 have := small_l0 xs hl a xs.length 0 (by omega)
 exact this
def okE (n : Int) (x : Int) : Bool := decide (1 ≤ x) && decide (x < n)
def okP (n : Int) (p : S58) : Bool := p.f2.all (okE n)
def okV (i : Nat) : Bool := (xs.drop i).all (okP (xs.length : Int))
def validB : Bool := decide (2 ≤ xs.length) && (decide (xs.length ≤ 1024) && ((nx xs 1).isEmpty && okV xs 0))
theorem any_not_all (n : Int) (l : List Int) : (l.any fun x => decide (x < 1) || decide (x ≥ n)) = !(l.all (okE n)) := by
 induction l with
 | nil => rfl
 | cons a l ih =>
   rw [List.any_cons, List.all_cons, ih]
   by_cases h1 : 1 ≤ a <;> by_cases h2 : a < n <;> simp [okE, h1, h2] <;> omega
theorem drop58 {i : Nat} (hlt : i < xs.length) : xs.drop i = xs.getD i z58 :: xs.drop (i + 1) := by
 rw [List.drop_eq_getElem_cons hlt]; simp [hlt]
end
end Go.Proofs.YtfcjeoihfphphaaGreatDoor.PFlow
end
section
namespace Go.Proofs.YtfcjeoihfphphaaGreatDoor.PFlow
open Go.RowKit Go.Proofs.YtfcjeoihfphphaaGreatDoorW.PrintWords
structure Sm (xs : List S58) : Prop where
 n : xs.length ≤ 30
 m : ∀ p ∈ xs, p.f2.length ≤ 8
section
variable {xs : List S58}
theorem Sm.at (H : Sm xs) {i : Nat} (hi : i < xs.length) : (nx xs i).length ≤ 8 := by
 have : xs.getD i z58 = xs[i] := by simp [hi]
 show (xs.getD i z58).f2.length ≤ 8
 rw [this]
 exact H.m _ (List.getElem_mem hi)
theorem Sm.of {a : Int} (ha : a ≤ 30) (h : smallB xs a 0 = true) : Sm xs := by
 simp only [smallB, Bool.and_eq_true, List.drop_zero, Bool.not_eq_true', decide_eq_true_eq] at h
 refine ⟨by omega, fun p hp => ?_⟩
 have := List.any_eq_false.1 h.1 p hp
 simp at this
 omega
theorem okV_end {i : Nat} (h : xs.length ≤ i) : okV xs i = true := by unfold okV; rw [List.drop_of_length_le h]; rfl
theorem okV_step {i : Nat} (h : i < xs.length) : okV xs i = ((nx xs i).all (okE (xs.length : Int)) && okV xs (i + 1)) := by
 unfold okV; rw [drop58 xs h, List.all_cons]; rfl
theorem fvalid_l0 (H : Sm xs) : ∀ (d i : Nat), i + d = xs.length → E (fun k => flow_valid.l0 k xs (xs.length : Int) (i : Int) xs) (okV xs i) := by
 have hn := H.n
 intro d
 induction d with
 | zero =>
   intro i hi
   refine E.step (h := fun _ => some (okV xs i)) (fun k => ?_) (E.const _)
   rw [flow_valid.l0.eq_2, if_neg (by omega), okV_end (by omega)]
 | succ d ih =>
   intro i hi
   have hlt : i < xs.length := by omega
   have hm := H.at hlt
   have hc : slices_ContainsFunc_int_int.f (nx xs i) xs = some (!((nx xs i).all (okE (xs.length : Int)))) := by
    unfold slices_ContainsFunc_int_int.f
    rw [if_pos (by omega), any_not_all]
   have e : ∀ k, flow_valid.l0 (k + 1) xs (xs.length : Int) (i : Int) xs = if (!((nx xs i).all (okE (xs.length : Int)))) = true then some false else flow_valid.l0 k xs (xs.length : Int) ((i + 1 : Nat) : Int) xs := by
    intro k
    rw [flow_valid.l0.eq_2, if_pos (by omega), if_pos (by omega), if_pos (by omega), rd58, hc, Option.bind_some, w64 (by omega) (by omega)]
    rfl
   rw [okV_step hlt]
   cases hb : (nx xs i).all (okE (xs.length : Int)) with
   | false => exact E.step (h := fun _ => some false) (fun k => by rw [e, hb]; rfl) (E.const _)
   | true => exact E.step (h := fun k => flow_valid.l0 k xs (xs.length : Int) ((i + 1 : Nat) : Int) xs) (fun k => by rw [e, hb]; rfl) (by rw [Bool.true_and]; exact ih (i + 1) (by omega))
theorem isEmpty_len (l : List Int) : decide ((l.length : Int) > 0) = !l.isEmpty := by cases l <;> simp
theorem fvalid (H : Sm xs) : E (fun k => flow_valid.f k xs) (validB xs) := by
 have hn := H.n
 by_cases h2 : (xs.length : Int) < 2
 · have hv : validB xs = false := by unfold validB; rw [decide_eq_false (by omega), Bool.false_and]
   rw [hv]
   refine E.step (h := fun _ => some false) (fun k => ?_) (E.const _)
   unfold flow_valid.f
   rw [if_pos h2, flow_valid.j0.eq_2, if_pos rfl]
 · have hf : ∀ k, flow_valid.f k xs = flow_valid.j0 k (!(nx xs 1).isEmpty) xs := by
    intro k
    unfold flow_valid.f
    rw [if_neg h2, if_neg (by omega), if_pos (by omega), show (1 : Int) = ((1 : Nat) : Int) from rfl, rd58, isEmpty_len]
   have hv : validB xs = ((nx xs 1).isEmpty && okV xs 0) := by unfold validB; rw [decide_eq_true (by omega), decide_eq_true (by omega), Bool.true_and, Bool.true_and]
   rw [hv]
   refine E.eq hf ?_
   cases hb : (nx xs 1).isEmpty with
   | false => exact E.step (h := fun _ => some false) (fun k => by rw [flow_valid.j0.eq_2]; rfl) (E.const _)
   | true => exact E.step (h := fun k => flow_valid.l0 k xs (xs.length : Int) ((0 : Nat) : Int) xs) (fun k => by rw [flow_valid.j0.eq_2]; rfl) (by rw [Bool.true_and]; exact fvalid_l0 H xs.length 0 (by omega))
theorem rdI (l : List Int) (j : Nat) : rd l (j : Int) = l.getD j 0 := by simp [rd]
theorem dropI {l : List Int} {j : Nat} (h : j < l.length) : l.drop j = l.getD j 0 :: l.drop (j + 1) := by rw [List.drop_eq_getElem_cons h]; simp [h]
theorem rvalid_l1 (H : Sm xs) (i : Nat) (hi : i < xs.length) (K : E (fun k => q_Valid.l0 k (xs.length : Int) ((i + 1 : Nat) : Int) xs) (okV xs (i + 1))) :
 ∀ (d j : Nat), j + d = (nx xs i).length → E (fun k => q_Valid.l1 k (xs.length : Int) (i : Int) (j : Int) xs) (((nx xs i).drop j).all (okE (xs.length : Int)) && okV xs (i + 1)) := by
 have hn := H.n
 have hm := H.at hi
 intro d
 induction d with
 | zero =>
   intro j hj
   rw [List.drop_of_length_le (by omega)]
   refine E.step (fun k => ?_) K
   rw [q_Valid.l1.eq_2, if_pos (by omega), if_pos (by omega), rd58, if_neg (by show ¬ ((j : Int) < ((nx xs i).length : Int)); omega), w64 (by omega) (by omega)]
   rfl
 | succ d ih =>
   intro j hj
   have hjl : j < (nx xs i).length := by omega
   have e : ∀ k, q_Valid.l1 (k + 1) (xs.length : Int) (i : Int) (j : Int) xs = if (nx xs i).getD j 0 < 1 then some false else if (nx xs i).getD j 0 ≥ (xs.length : Int) then some false else q_Valid.l1 k (xs.length : Int) (i : Int) ((j + 1 : Nat) : Int) xs := by
    intro k
    rw [q_Valid.l1.eq_2, if_pos (by omega), if_pos (by omega), rd58, if_pos (by show (j : Int) < ((nx xs i).length : Int); omega), if_pos (by omega), rdI, w64 (by omega) (by omega)]
    rfl
   rw [dropI hjl, List.all_cons]
   by_cases h1 : (nx xs i).getD j 0 < 1
   · have : okE (xs.length : Int) ((nx xs i).getD j 0) = false := by unfold okE; rw [decide_eq_false (by omega), Bool.false_and]
     rw [this, Bool.false_and, Bool.false_and]
     exact E.step (h := fun _ => some false) (fun k => by rw [e, if_pos h1]) (E.const _)
   · by_cases h2 : (nx xs i).getD j 0 ≥ (xs.length : Int)
     · have : okE (xs.length : Int) ((nx xs i).getD j 0) = false := by unfold okE; rw [decide_eq_false (show ¬ (nx xs i).getD j 0 < (xs.length : Int) by omega), Bool.and_false]
       rw [this, Bool.false_and, Bool.false_and]
       exact E.step (h := fun _ => some false) (fun k => by rw [e, if_neg h1, if_pos h2]) (E.const _)
     · have : okE (xs.length : Int) ((nx xs i).getD j 0) = true := by unfold okE; rw [decide_eq_true (by omega), decide_eq_true (by omega)]; rfl
       rw [this, Bool.true_and]
       exact E.step (fun k => by rw [e, if_neg h1, if_neg h2]) (ih (j + 1) (by omega))
theorem rvalid_l0 (H : Sm xs) : ∀ (d i : Nat), i + d = xs.length → E (fun k => q_Valid.l0 k (xs.length : Int) (i : Int) xs) (okV xs i) := by
 have hn := H.n
 intro d
 induction d with
 | zero =>
   intro i hi
   refine E.step (h := fun _ => some (okV xs i)) (fun k => ?_) (E.const _)
   rw [q_Valid.l0.eq_2, if_neg (by omega), okV_end (by omega)]
 | succ d ih =>
   intro i hi
   have hlt : i < xs.length := by omega
   rw [okV_step hlt]
   refine E.step (fun k => ?_) (rvalid_l1 H i hlt (ih (i + 1) (by omega)) (nx xs i).length 0 (by omega))
   rw [q_Valid.l0.eq_2, if_pos (by omega)]
   rfl
theorem rvalid (H : Sm xs) : E (fun k => q_Valid.f k xs) (validB xs) := by
 have hn := H.n
 by_cases h2 : (xs.length : Int) < 2
 · have hv : validB xs = false := by unfold validB; rw [decide_eq_false (by omega), Bool.false_and]
   rw [hv]
   refine E.step (h := fun _ => some false) (fun k => ?_) (E.const _)
   unfold q_Valid.f
   rw [if_pos h2, q_Valid.j0.eq_2, if_pos rfl]
 · have hf : ∀ k, q_Valid.f k xs = q_Valid.j0 k (xs.length : Int) (!(nx xs 1).isEmpty) xs := by
    intro k
    unfold q_Valid.f
    rw [if_neg h2, if_neg (by omega), if_pos (by omega), show (1 : Int) = ((1 : Nat) : Int) from rfl, rd58, isEmpty_len]
   have hv : validB xs = ((nx xs 1).isEmpty && okV xs 0) := by unfold validB; rw [decide_eq_true (by omega), decide_eq_true (by omega), Bool.true_and, Bool.true_and]
   rw [hv]
   refine E.eq hf ?_
   cases hb : (nx xs 1).isEmpty with
   | false => exact E.step (h := fun _ => some false) (fun k => by rw [q_Valid.j0.eq_2]; rfl) (E.const _)
   | true => exact E.step (h := fun k => q_Valid.l0 k (xs.length : Int) ((0 : Nat) : Int) xs) (fun k => by rw [q_Valid.j0.eq_2]; rfl) (by rw [Bool.true_and]; exact rvalid_l0 H xs.length 0 (by omega))
end
end Go.Proofs.YtfcjeoihfphphaaGreatDoor.PFlow
end
section
namespace Go.Proofs.YtfcjeoihfphphaaGreatDoor.PFlow
open Go.RowKit Go.Proofs.YtfcjeoihfphphaaGreatDoorW.PrintWords
section
variable {xs : List S58}
variable (xs) in
def pts (a : Int) : Nat → Nat → List Int
 | 0, _ => []
 | d + 1, i => if (xs.getD i z58).f1 = a then (i : Int) :: pts a d (i + 1) else pts a d (i + 1)
variable (xs) in
def ptsV (a : Int) : List Int := if validB xs = true then (if 0 ≤ a then pts xs a xs.length 0 else []) else []
theorem fpoints_l0 (H : Sm xs) (a : Int) : ∀ (d i : Nat) (acc : List Int), i + d = xs.length → acc.length ≤ i → E (fun k => flow_Points.l0 k a acc xs (xs.length : Int) (i : Int)) (acc ++ pts xs a d i) := by
 have hn := H.n
 intro d
 induction d with
 | zero =>
   intro i acc hi ha
   refine E.step (h := fun _ => some (acc ++ pts xs a 0 i)) (fun k => ?_) (E.const _)
   rw [flow_Points.l0.eq_2, if_neg (by omega)]
   simp [pts]
 | succ d ih =>
   intro i acc hi ha
   by_cases hb : (xs.getD i z58).f1 = a
   · have e : pts xs a (d + 1) i = (i : Int) :: pts xs a d (i + 1) := by simp only [pts]; rw [if_pos hb]
     rw [e, show acc ++ (i : Int) :: pts xs a d (i + 1) = (acc ++ [(i : Int)]) ++ pts xs a d (i + 1) by simp]
     refine E.step (fun k => ?_) (ih (i + 1) (acc ++ [(i : Int)]) (by omega) (by simp; omega))
     rw [flow_Points.l0.eq_2, if_pos (by omega), if_pos (by omega), if_pos (by omega), rd58, if_pos hb, if_pos (by omega), w64 (by omega) (by omega)]
     rfl
   · have e : pts xs a (d + 1) i = pts xs a d (i + 1) := by simp only [pts]; rw [if_neg hb]
     rw [e]
     refine E.step (fun k => ?_) (ih (i + 1) acc (by omega) (by omega))
     rw [flow_Points.l0.eq_2, if_pos (by omega), if_pos (by omega), if_pos (by omega), rd58, if_neg hb, w64 (by omega) (by omega)]
     rfl
theorem fpoints (H : Sm xs) (a : Int) : E (fun k => flow_Points.f k xs a) (ptsV xs a) := by
 unfold flow_Points.f
 refine E.bind (fvalid H) ?_
 have hj : ∀ b : Bool, E (fun k => flow_Points.j0 k a b xs) (if b = true then [] else pts xs a xs.length 0) := by
  intro b
  cases b with
  | true => exact E.step (h := fun _ => some []) (fun k => by rw [flow_Points.j0.eq_2]; rfl) (E.const _)
  | false => exact E.step (fun k => by rw [flow_Points.j0.eq_2]; rfl) (fpoints_l0 H a xs.length 0 [] (by omega) (by simp))
 cases hv : validB xs with
 | true =>
   have := hj (decide (a < 0))
   refine E.eq (fun k => if_pos rfl) ?_
   by_cases h0 : 0 ≤ a
   · have e : ptsV xs a = pts xs a xs.length 0 := by unfold ptsV; rw [if_pos hv, if_pos h0]
     rw [e]; rw [decide_eq_false (by omega)] at this ⊢; exact this
   · have e : ptsV xs a = [] := by unfold ptsV; rw [if_pos hv, if_neg h0]
     rw [e]; rw [decide_eq_true (by omega)] at this ⊢; exact this
 | false =>
   have e : ptsV xs a = [] := by unfold ptsV; rw [hv]; rfl
   rw [e]
   exact E.eq (fun k => if_neg (by decide)) (hj true)
theorem rpoints_j1f (a : Int) (acc : List Int) (i : Nat) : E (fun k => q_Points.j1 k a acc (i : Int) false xs) acc :=
 E.step (h := fun _ => some acc) (fun k => by rw [q_Points.j1.eq_2]; rfl) (E.const _)
theorem rpoints_l0 (H : Sm xs) (a : Int) (hv : validB xs = true) (h0 : 0 ≤ a) : ∀ (d i : Nat) (acc : List Int), i + d = xs.length → acc.length ≤ i → E (fun k => q_Points.l0 k a acc (i : Int) xs) (acc ++ pts xs a d i) := by
 have hn := H.n
 intro d
 induction d with
 | zero =>
   intro i acc hi ha
   refine E.step (h := fun k => q_Points.j1 k a acc (i : Int) false xs) (fun k => ?_) ?_
   · rw [q_Points.l0.eq_2, if_neg (by omega)]
   · have := rpoints_j1f (xs := xs) a acc i
     simpa [pts] using this
 | succ d ih =>
   intro i acc hi ha
   refine E.step (h := fun k => (q_Valid.f k xs).bind fun t => if t = true then q_Points.j1 k a acc (i : Int) (decide (a ≥ 0)) xs else q_Points.j1 k a acc (i : Int) false xs) (fun k => ?_) ?_
   · rw [q_Points.l0.eq_2, if_pos (by omega)]
   · refine E.bind (rvalid H) ?_
     rw [hv]
     refine E.eq (fun k => if_pos rfl) ?_
     rw [decide_eq_true (show a ≥ 0 from h0)]
     by_cases hb : (xs.getD i z58).f1 = a
     · have e : pts xs a (d + 1) i = (i : Int) :: pts xs a d (i + 1) := by simp only [pts]; rw [if_pos hb]
       rw [e, show acc ++ (i : Int) :: pts xs a d (i + 1) = (acc ++ [(i : Int)]) ++ pts xs a d (i + 1) by simp]
       refine E.step (fun k => ?_) (ih (i + 1) (acc ++ [(i : Int)]) (by omega) (by simp; omega))
       rw [q_Points.j1.eq_2, if_pos rfl, if_pos (by omega), if_pos (by omega), rd58, if_pos hb, if_pos (by omega), w64 (by omega) (by omega)]
       rfl
     · have e : pts xs a (d + 1) i = pts xs a d (i + 1) := by simp only [pts]; rw [if_neg hb]
       rw [e]
       refine E.step (fun k => ?_) (ih (i + 1) acc (by omega) (by omega))
       rw [q_Points.j1.eq_2, if_pos rfl, if_pos (by omega), if_pos (by omega), rd58, if_neg hb, w64 (by omega) (by omega)]
       rfl
theorem rpoints (H : Sm xs) (a : Int) : E (fun k => q_Points.f k xs a) (ptsV xs a) := by
 have hn := H.n
 by_cases hg : validB xs = true ∧ 0 ≤ a
 · have e : ptsV xs a = [] ++ pts xs a xs.length 0 := by unfold ptsV; rw [if_pos hg.1, if_pos hg.2]; rfl
   rw [e]
   exact rpoints_l0 H a hg.1 hg.2 xs.length 0 [] (by omega) (by simp)
 · have e : ptsV xs a = [] := by
    unfold ptsV
    by_cases hv : validB xs = true
    · rw [if_pos hv, if_neg (fun h => hg ⟨hv, h⟩)]
    · rw [if_neg hv]
   rw [e]
   by_cases h0 : (0 : Int) < (xs.length : Int)
   · refine E.step (h := fun k => (q_Valid.f k xs).bind fun t => if t = true then q_Points.j1 k a [] 0 (decide (a ≥ 0)) xs else q_Points.j1 k a [] 0 false xs) (fun k => ?_) ?_
     · unfold q_Points.f
       rw [q_Points.l0.eq_2, if_pos h0]
     · refine E.bind (rvalid H) ?_
       have hj := rpoints_j1f (xs := xs) a [] 0
       cases hv : validB xs with
       | true =>
         refine E.eq (fun k => if_pos rfl) ?_
         rw [decide_eq_false (fun h => hg ⟨hv, h⟩)]
         exact hj
       | false => exact E.eq (fun k => if_neg (by decide)) hj
   · refine E.step (h := fun k => q_Points.j1 k a [] 0 false xs) (fun k => ?_) (rpoints_j1f (xs := xs) a [] 0)
     unfold q_Points.f
     rw [q_Points.l0.eq_2, if_neg h0]
theorem ints_l0 (l : List Int) (hl : l.length < 4611686018427387904) : ∀ (d i : Nat), i + d = l.length → E (fun k => q_Ints.l0 k l l (i : Int)) true := by
 intro d
 induction d with
 | zero =>
   intro i hi
   exact E.step (h := fun _ => some true) (fun k => by rw [q_Ints.l0.eq_2, if_neg (by omega)]) (E.const _)
 | succ d ih =>
   intro i hi
   refine E.step (fun k => ?_) (ih (i + 1) (by omega))
   rw [q_Ints.l0.eq_2, if_pos (by omega), if_pos (by omega), if_pos (by omega), if_pos rfl, w64 (by omega) (by omega)]
   rfl
theorem ints_eq (l : List Int) (hl : l.length < 4611686018427387904) : E (fun k => q_Ints.f k l l) true := by
 refine E.eq (fun k => ?_) (ints_l0 l hl l.length 0 (by omega))
 unfold q_Ints.f
 rw [if_pos rfl]; rfl
theorem rdL (l : List (List Int)) (i : Nat) : rd_L1 l (i : Int) = l.getD i [] := by simp [rd_L1]
theorem lists_l1 (l : List (List Int)) (i : Nat) (hi : i < l.length) (hr : (l.getD i []).length < 4611686018427387904) (hl : l.length < 4611686018427387904) (K : E (fun k => q_Lists.l0 k l l ((i + 1 : Nat) : Int)) true) :
 ∀ (d j : Nat), j + d = (l.getD i []).length → E (fun k => q_Lists.l1 k l l (i : Int) (j : Int)) true := by
 intro d
 induction d with
 | zero =>
   intro j hj
   refine E.step (fun k => ?_) K
   rw [q_Lists.l1.eq_2, if_pos (by omega), if_pos (by omega), rdL, if_neg (by omega), w64 (by omega) (by omega)]
   rfl
 | succ d ih =>
   intro j hj
   refine E.step (fun k => ?_) (ih (j + 1) (by omega))
   rw [q_Lists.l1.eq_2, if_pos (by omega), if_pos (by omega), rdL, if_pos (by omega), if_pos (by omega), if_pos (by omega), if_pos (by omega), if_pos rfl, w64 (by omega) (by omega)]
   rfl
theorem lists_l0 (l : List (List Int)) (hr : ∀ i, (l.getD i []).length < 4611686018427387904) (hl : l.length < 4611686018427387904) : ∀ (d i : Nat), i + d = l.length → E (fun k => q_Lists.l0 k l l (i : Int)) true := by
 intro d
 induction d with
 | zero =>
   intro i hi
   exact E.step (h := fun _ => some true) (fun k => by rw [q_Lists.l0.eq_2, if_neg (by omega)]) (E.const _)
 | succ d ih =>
   intro i hi
   refine E.step (fun k => ?_) (lists_l1 l i (by omega) (hr i) hl (ih (i + 1) (by omega)) (l.getD i []).length 0 (by omega))
   rw [q_Lists.l0.eq_2, if_pos (by omega), if_pos (by omega), if_pos (by omega), if_pos rfl]
   rfl
theorem lists_eq (l : List (List Int)) (hr : ∀ i, (l.getD i []).length < 4611686018427387904) (hl : l.length < 4611686018427387904) : E (fun k => q_Lists.f k l l) true := by
 refine E.eq (fun k => ?_) (lists_l0 l hr hl l.length 0 (by omega))
 unfold q_Lists.f
 rw [if_pos rfl]; rfl
end
end Go.Proofs.YtfcjeoihfphphaaGreatDoor.PFlow
end
section
namespace Go.Proofs.YtfcjeoihfphphaaGreatDoor.PFlow
open Go.RowKit Go.Proofs.YtfcjeoihfphphaaGreatDoorW.PrintWords
section
variable {xs : List S58}
theorem to_l0 (H : Sm xs) (i : Nat) (hi : i < xs.length) (b : Int) : ∀ (d j : Nat) (c : Int), j + d = (nx xs i).length → 0 ≤ c → c ≤ (j : Int) → E (fun k => q_to.l0 k (i : Int) b c (j : Int) xs) (c + (((nx xs i).drop j).count b : Int)) := by
 have hn := H.n
 have hm := H.at hi
 intro d
 induction d with
 | zero =>
   intro j c hj h0 h1
   refine E.step (h := fun _ => some (c + (((nx xs i).drop j).count b : Int))) (fun k => ?_) (E.const _)
   rw [q_to.l0.eq_2, if_pos (by omega), if_pos (by omega), rd58, if_neg (by show ¬ ((j : Int) < ((nx xs i).length : Int)); omega), List.drop_of_length_le (by omega)]
   simp
 | succ d ih =>
   intro j c hj h0 h1
   have hjl : j < (nx xs i).length := by omega
   have e : ∀ k, q_to.l0 (k + 1) (i : Int) b c (j : Int) xs = if (nx xs i).getD j 0 = b then q_to.l0 k (i : Int) b (c + 1) ((j + 1 : Nat) : Int) xs else q_to.l0 k (i : Int) b c ((j + 1 : Nat) : Int) xs := by
    intro k
    rw [q_to.l0.eq_2, if_pos (by omega), if_pos (by omega), rd58, if_pos (by show (j : Int) < ((nx xs i).length : Int); omega), if_pos (by omega), rdI, w64 (x := (j : Int) + 1) (by omega) (by omega), w64 (x := c + 1) (by omega) (by omega)]
    rfl
   rw [dropI hjl, List.count_cons]
   by_cases hb : (nx xs i).getD j 0 = b
   · refine E.step (fun k => by rw [e, if_pos hb]) ?_
     have := ih (j + 1) (c + 1) (by omega) (by omega) (by omega)
     rw [hb, if_pos (by simp)]
     rw [show c + ((((nx xs i).drop (j + 1)).count b + 1 : Nat) : Int) = c + 1 + (((nx xs i).drop (j + 1)).count b : Int) by push_cast; omega]
     exact this
   · refine E.step (fun k => by rw [e, if_neg hb]) ?_
     have := ih (j + 1) c (by omega) (by omega) (by omega)
     rw [if_neg (by simpa using hb)]
     exact this
theorem to_f (H : Sm xs) (i : Nat) (hi : i < xs.length) (b : Int) : E (fun k => q_to.f k xs (i : Int) b) ((nx xs i).count b : Int) := by
 have := to_l0 H i hi b (nx xs i).length 0 0 (by omega) (by omega) (by omega)
 rw [List.drop_zero, Int.zero_add] at this
 exact this
variable (xs) in
def rowP (b : Int) : Nat → List Int
 | 0 => []
 | i + 1 => rowP b i ++ (if b ∈ nx xs i then [(i : Int)] else [])
theorem rowP_len (b : Int) : ∀ i, (rowP xs b i).length ≤ i := by
 intro i
 induction i with
 | zero => simp [rowP]
 | succ i ih => simp only [rowP, List.length_append]; split <;> simp <;> omega
theorem rowP_mem {b : Int} {x : Int} : ∀ {i : Nat}, x ∈ rowP xs b i → x < (i : Int) := by
 intro i
 induction i with
 | zero => intro h; simp [rowP] at h
 | succ i ih =>
   intro h
   simp only [rowP, List.mem_append] at h
   rcases h with h | h
   · have := ih h; omega
   · split at h
     · simp at h; omega
     · cases h
variable (xs) in
def befL (b : Nat) : List (List Int) := (List.range b).map fun c : Nat => rowP xs (c : Int) xs.length
theorem befL_succ (b : Nat) : befL xs (b + 1) = befL xs b ++ [rowP xs (b : Int) xs.length] := by simp [befL, List.range_succ]
theorem befL_len (b : Nat) : (befL xs b).length = b := by simp [befL]
variable (xs) in
def befV : List (List Int) := if validB xs = true then befL xs xs.length else []
theorem rbefore_l1 (H : Sm xs) (x3 : List (List Int)) (hx : x3.length ≤ 30) (b : Nat) (hb : b ≤ 30) {R : List (List Int)} (K : E (fun k => q_Before.l0 k (x3 ++ [rowP xs (b : Int) xs.length]) ((b + 1 : Nat) : Int) xs) R) :
 ∀ (d i : Nat), i + d = xs.length → E (fun k => q_Before.l1 k x3 (b : Int) (rowP xs (b : Int) i) (i : Int) xs) R := by
 have hn := H.n
 intro d
 induction d with
 | zero =>
   intro i hi
   have : i = xs.length := by omega
   subst this
   refine E.step (fun k => ?_) K
   rw [q_Before.l1.eq_2, if_neg (by omega), if_pos (by omega), w64 (by omega) (by omega)]
   rfl
 | succ d ih =>
   intro i hi
   have hlt : i < xs.length := by omega
   refine E.step (h := fun k => (q_to.f k xs (i : Int) (b : Int)).bind fun t => if t > 0 then (if (rowP xs (b : Int) i).length < 17592186044416 then q_Before.l1 k x3 (b : Int) (rowP xs (b : Int) i ++ [(i : Int)]) (wrap64 ((i : Int) + 1)) xs else none) else q_Before.l1 k x3 (b : Int) (rowP xs (b : Int) i) (wrap64 ((i : Int) + 1)) xs) (fun k => ?_) ?_
   · rw [q_Before.l1.eq_2, if_pos (by omega)]
   · refine E.bind (to_f H i hlt (b : Int)) ?_
     have := ih (i + 1) (by omega)
     have hl := rowP_len (xs := xs) (b : Int) i
     by_cases hm : (b : Int) ∈ nx xs i
     · have hc : 0 < (nx xs i).count (b : Int) := List.count_pos_iff.2 hm
       refine E.eq (fun k => ?_) this
       rw [if_pos (by omega), if_pos (by omega), w64 (by omega) (by omega)]
       simp only [rowP]; rw [if_pos hm]; rfl
     · have hc : (nx xs i).count (b : Int) = 0 := List.count_eq_zero.2 hm
       refine E.eq (fun k => ?_) this
       rw [if_neg (by omega), w64 (by omega) (by omega)]
       simp only [rowP]; rw [if_neg hm, List.append_nil]; rfl
theorem rbefore_l0 (H : Sm xs) : ∀ (d b : Nat), b + d = xs.length → E (fun k => q_Before.l0 k (befL xs b) (b : Int) xs) (befL xs xs.length) := by
 have hn := H.n
 intro d
 induction d with
 | zero =>
   intro b hb
   have : b = xs.length := by omega
   subst this
   exact E.step (h := fun _ => some (befL xs xs.length)) (fun k => by rw [q_Before.l0.eq_2, if_neg (by omega)]) (E.const _)
 | succ d ih =>
   intro b hb
   have K := ih (b + 1) (by omega)
   rw [befL_succ] at K
   refine E.step (fun k => ?_) (rbefore_l1 H (befL xs b) (by rw [befL_len]; omega) b (by omega) K xs.length 0 (by omega))
   rw [q_Before.l0.eq_2, if_pos (by omega)]
   rfl
theorem rbefore (H : Sm xs) : E (fun k => q_Before.f k xs) (befV xs) := by
 unfold q_Before.f
 simp only [Option.bind_some]
 refine E.bind (rvalid H) ?_
 unfold befV
 cases hv : validB xs with
 | true =>
   rw [show (if true = true then befL xs xs.length else []) = befL xs xs.length from if_pos rfl]
   exact E.eq (fun k => if_pos rfl) (rbefore_l0 H xs.length 0 (by omega))
 | false => exact E.eq (fun k => if_neg (by decide)) (E.const _)
theorem okV_at (h : okV xs 0 = true) {i : Nat} (hi : i < xs.length) : ∀ x ∈ nx xs i, 1 ≤ x ∧ x < (xs.length : Int) := by
 unfold okV at h
 rw [List.drop_zero, List.all_eq_true] at h
 have hm : xs.getD i z58 ∈ xs := by
  have : xs.getD i z58 = xs[i] := by simp [hi]
  rw [this]; exact List.getElem_mem hi
 have := h _ hm
 unfold okP at this
 rw [List.all_eq_true] at this
 intro x hx
 have := this x hx
 simp only [okE, Bool.and_eq_true, decide_eq_true_eq] at this
 exact this
theorem getD_in {l : List Int} {j : Nat} (h : j < l.length) : l.getD j 0 ∈ l := by
 have : l.getD j 0 = l[j] := by simp [h]
 rw [this]; exact List.getElem_mem h
theorem take_mem {l : List Int} {j : Nat} (h : j < l.length) {c : Int} : c ∈ l.take (j + 1) ↔ c ∈ l.take j ∨ c = l.getD j 0 := by
 have hg : l.getD j 0 = l[j] := by simp [h]
 rw [List.take_add_one, List.mem_append, List.getElem?_eq_getElem h, hg]
 simp only [Option.toList_some, List.mem_singleton]
variable (xs) in
def Iv (i j : Nat) (x3 : List (List Int)) : Prop := x3.length = xs.length ∧ ∀ b : Nat, b < xs.length → x3.getD b [] = rowP xs (b : Int) i ++ (if (b : Int) ∈ (nx xs i).take j then [(i : Int)] else [])
theorem Iv.next {i : Nat} {x3 : List (List Int)} (h : Iv xs i (nx xs i).length x3) : Iv xs (i + 1) 0 x3 := by
 refine ⟨h.1, fun b hb => ?_⟩
 rw [h.2 b hb, List.take_length]
 simp [rowP]
theorem Iv.eq {x3 : List (List Int)} (h : Iv xs xs.length 0 x3) : x3 = befL xs xs.length := by
 apply List.ext_getElem?
 intro b
 by_cases hb : b < xs.length
 · have h1 : x3[b]? = some (x3.getD b []) := by
    have : b < x3.length := by rw [h.1]; exact hb
    simp [this]
   rw [h1, h.2 b hb]
   simp [befL, hb]
 · rw [List.getElem?_eq_none (by rw [h.1]; omega), List.getElem?_eq_none (by rw [befL_len]; omega)]
theorem fbefore_l1 (H : Sm xs) (hv : okV xs 0 = true) (i : Nat) (hi : i < xs.length) {R : List (List Int)} (K : ∀ x3, Iv xs (i + 1) 0 x3 → E (fun k => flow_Before.l0 k x3 xs (xs.length : Int) ((i + 1 : Nat) : Int)) R) :
 ∀ (d j : Nat) (x3 : List (List Int)), j + d = (nx xs i).length → Iv xs i j x3 → E (fun k => flow_Before.l1 k x3 (i : Int) xs (xs.length : Int) (i : Int) (nx xs i) ((nx xs i).length : Int) (j : Int)) R := by
 have hn := H.n
 have hm := H.at hi
 intro d
 induction d with
 | zero =>
   intro j x3 hj hI
   have : j = (nx xs i).length := by omega
   subst this
   refine E.step (fun k => ?_) (K x3 hI.next)
   rw [flow_Before.l1.eq_2, if_neg (by omega), w64 (by omega) (by omega)]
   rfl
 | succ d ih =>
   intro j x3 hj hI
   have hjl : j < (nx xs i).length := by omega
   have hin : (nx xs i).getD j 0 ∈ nx xs i := by
    have : (nx xs i).getD j 0 = (nx xs i)[j] := by simp [hjl]
    rw [this]; exact List.getElem_mem hjl
   obtain ⟨h1, h2⟩ := okV_at hv hi _ hin
   obtain ⟨b, hb⟩ : ∃ b : Nat, (nx xs i).getD j 0 = (b : Int) := ⟨((nx xs i).getD j 0).toNat, by omega⟩
   have hbn : b < xs.length := by omega
   have hcur := hI.2 b hbn
   have hrl := rowP_len (xs := xs) (b : Int) i
   have hset : ∀ x3' : List (List Int), x3' = x3.set b (x3.getD b [] ++ [(i : Int)]) → (b : Int) ∉ (nx xs i).take j → Iv xs i (j + 1) x3' := by
    rintro x3' rfl hm2
    refine ⟨by rw [List.length_set]; exact hI.1, fun c hc => ?_⟩
    have hbl : b < x3.length := by rw [hI.1]; exact hbn
    by_cases hcb : c = b
    · subst hcb
      have : (x3.set c (x3.getD c [] ++ [(i : Int)])).getD c [] = x3.getD c [] ++ [(i : Int)] := by simp [hbl]
      rw [this, hcur, if_neg hm2, List.append_nil, if_pos ((take_mem hjl).2 (.inr hb.symm))]
    · have : (x3.set b (x3.getD b [] ++ [(i : Int)])).getD c [] = x3.getD c [] := by simp [List.getElem?_set, Ne.symm hcb]
      rw [this, hI.2 c hc]
      have hiff : (c : Int) ∈ (nx xs i).take (j + 1) ↔ (c : Int) ∈ (nx xs i).take j := by
       rw [take_mem hjl, hb]
       constructor
       · rintro (h | h)
         · exact h
         · exact absurd (by omega) hcb
       · exact .inl
      simp only [hiff]
   have e : ∀ k, flow_Before.l1 (k + 1) x3 (i : Int) xs (xs.length : Int) (i : Int) (nx xs i) ((nx xs i).length : Int) (j : Int) =
    if ((x3.getD b []).length : Int) = 0 then flow_Before.l1 k (x3.set b (x3.getD b [] ++ [(i : Int)])) (i : Int) xs (xs.length : Int) (i : Int) (nx xs i) ((nx xs i).length : Int) ((j + 1 : Nat) : Int)
    else if (x3.getD b []).getD ((x3.getD b []).length - 1) 0 = (i : Int) then flow_Before.l1 k x3 (i : Int) xs (xs.length : Int) (i : Int) (nx xs i) ((nx xs i).length : Int) ((j + 1 : Nat) : Int)
    else flow_Before.l1 k (x3.set b (x3.getD b [] ++ [(i : Int)])) (i : Int) xs (xs.length : Int) (i : Int) (nx xs i) ((nx xs i).length : Int) ((j + 1 : Nat) : Int) := by
    intro k
    have hcl : (x3.getD b []).length ≤ 31 := by
     rw [hcur, List.length_append]; split <;> simp <;> omega
    rw [flow_Before.l1.eq_2, if_pos (by omega), if_pos (by omega), if_pos (by omega), rdI, hb, if_pos (by omega), if_pos (by rw [hI.1]; omega), rdL, show ((b : Int)).toNat = b from by omega, w64 (x := (j : Int) + 1) (by omega) (by omega)]
    by_cases h0 : ((x3.getD b []).length : Int) = 0
    · rw [if_pos h0, if_pos h0, if_pos (by omega)]; rfl
    · rw [if_neg h0, if_neg h0, w64 (by omega) (by omega), if_pos (by omega), if_pos (by omega), show ((x3.getD b []).length : Int) - 1 = (((x3.getD b []).length - 1 : Nat) : Int) by omega, rdI]
      by_cases h3 : (x3.getD b []).getD ((x3.getD b []).length - 1) 0 = (i : Int)
      · rw [if_pos h3, if_pos h3]; rfl
      · rw [if_neg h3, if_neg h3, if_pos (by omega)]; rfl
   by_cases hm2 : (b : Int) ∈ (nx xs i).take j
   · have hc2 : x3.getD b [] = rowP xs (b : Int) i ++ [(i : Int)] := by rw [hcur, if_pos hm2]
     refine E.step (fun k => ?_) (ih (j + 1) x3 (by omega) ⟨hI.1, fun c hc => ?_⟩)
     · rw [e, hc2, if_neg (by simp; omega), if_pos (by simp)]
     · rw [hI.2 c hc]
       have hiff : (c : Int) ∈ (nx xs i).take (j + 1) ↔ (c : Int) ∈ (nx xs i).take j := by
        rw [take_mem hjl, hb]
        constructor
        · rintro (h | h)
          · exact h
          · rw [h]; exact hm2
        · exact .inl
       simp only [hiff]
   · have hc2 : x3.getD b [] = rowP xs (b : Int) i := by rw [hcur, if_neg hm2, List.append_nil]
     refine E.step (fun k => ?_) (ih (j + 1) (x3.set b (x3.getD b [] ++ [(i : Int)])) (by omega) (hset _ rfl hm2))
     rw [e]
     by_cases h0 : ((x3.getD b []).length : Int) = 0
     · rw [if_pos h0]
     · rw [if_neg h0, if_neg]
       intro h3
       have hlt : (x3.getD b []).length - 1 < (x3.getD b []).length := by omega
       have : (x3.getD b []).getD ((x3.getD b []).length - 1) 0 ∈ x3.getD b [] := getD_in hlt
       rw [h3, hc2] at this
       have := rowP_mem this
       omega
theorem fbefore_l0 (H : Sm xs) (hv : okV xs 0 = true) : ∀ (d i : Nat) (x3 : List (List Int)), i + d = xs.length → Iv xs i 0 x3 → E (fun k => flow_Before.l0 k x3 xs (xs.length : Int) (i : Int)) (befL xs xs.length) := by
 have hn := H.n
 intro d
 induction d with
 | zero =>
   intro i x3 hi hI
   have : i = xs.length := by omega
   subst this
   rw [← hI.eq]
   exact E.step (h := fun _ => some x3) (fun k => by rw [flow_Before.l0.eq_2, if_neg (by omega)]) (E.const _)
 | succ d ih =>
   intro i x3 hi hI
   refine E.step (fun k => ?_) (fbefore_l1 H hv i (by omega) (fun y hy => ih (i + 1) y (by omega) hy) (nx xs i).length 0 x3 (by omega) hI)
   rw [flow_Before.l0.eq_2, if_pos (by omega), if_pos (by omega), if_pos (by omega), rd58]
   rfl
theorem validB_ok (h : validB xs = true) : 2 ≤ xs.length ∧ (nx xs 1) = [] ∧ okV xs 0 = true := by
 simp only [validB, Bool.and_eq_true, decide_eq_true_eq, List.isEmpty_iff] at h
 exact ⟨h.1, h.2.2.1, h.2.2.2⟩
theorem fbefore (H : Sm xs) : E (fun k => flow_Before.f k xs) (befV xs) := by
 have hn := H.n
 unfold flow_Before.f
 refine E.bind (fvalid H) ?_
 unfold befV
 cases hv : validB xs with
 | true =>
   rw [show (if true = true then befL xs xs.length else []) = befL xs xs.length from if_pos rfl]
   refine E.eq (fun k => ?_) (fbefore_l0 H (validB_ok hv).2.2 xs.length 0 (List.replicate xs.length []) (by omega) ⟨by simp, fun b hb => ?_⟩)
   · rw [if_pos rfl, if_pos (by omega), if_pos (by omega)]; rfl
   · simp [rowP, hb]
 | false => exact E.eq (fun k => if_neg (by decide)) (E.const _)
end
end Go.Proofs.YtfcjeoihfphphaaGreatDoor.PFlow
end
section
namespace Go.Proofs.YtfcjeoihfphphaaGreatDoor.PFlow
open Go.RowKit Go.Proofs.YtfcjeoihfphphaaGreatDoorW.PrintWords
section
variable {xs : List S58}
variable (xs) in
inductive Rch : Nat → Prop
 | zero : Rch 0
 | step {a b : Nat} (h : Rch a) (ha : a < xs.length) (e : (b : Int) ∈ nx xs a) : Rch b
structure Rw (xs : List S58) (x3 : List Bool) (x4 : List Int) : Prop where
 len : x3.length = xs.length
 sound : ∀ v, v < xs.length → x3.getD v false = true → Rch xs v
 work : ∀ w ∈ x4, ∃ v : Nat, v < xs.length ∧ w = (v : Int) ∧ x3.getD v false = true
 zero : x3.getD 0 false = true
 closed : ∀ v : Nat, v < xs.length → x3.getD v false = true → (v : Int) ∈ x4 ∨ ∀ c ∈ nx xs v, x3.getD c.toNat false = true
structure Rv (xs : List S58) (x3 : List Bool) (x4 : List Int) (i j : Nat) : Prop where
 len : x3.length = xs.length
 sound : ∀ v, v < xs.length → x3.getD v false = true → Rch xs v
 work : ∀ w ∈ x4, ∃ v : Nat, v < xs.length ∧ w = (v : Int) ∧ x3.getD v false = true
 zero : x3.getD 0 false = true
 cur : i < xs.length ∧ x3.getD i false = true
 closed : ∀ v : Nat, v < xs.length → x3.getD v false = true → (v : Int) ∈ x4 ∨ (∀ c ∈ nx xs v, x3.getD c.toNat false = true) ∨ (v = i ∧ ∀ c ∈ (nx xs i).take j, x3.getD c.toNat false = true)
theorem set_get {x3 : List Bool} {c v : Nat} (hc : c < x3.length) : (x3.set c true).getD v false = if v = c then true else x3.getD v false := by
 by_cases h : v = c
 · subst h; simp [hc]
 · simp [h, Ne.symm h]
theorem Rv.skip {x3 : List Bool} {x4 : List Int} {i j : Nat} (R : Rv xs x3 x4 i j) (hj : j < (nx xs i).length) (h : x3.getD ((nx xs i).getD j 0).toNat false = true) : Rv xs x3 x4 i (j + 1) := by
 refine ⟨R.len, R.sound, R.work, R.zero, R.cur, fun v hv hm => ?_⟩
 rcases R.closed v hv hm with h1 | h1 | ⟨h1, h2⟩
 · exact .inl h1
 · exact .inr (.inl h1)
 · refine .inr (.inr ⟨h1, fun c hc => ?_⟩)
   rcases (take_mem hj).1 hc with hc | hc
   · exact h2 c hc
   · rw [hc]; exact h
theorem Rv.push {x3 : List Bool} {x4 : List Int} {i j b : Nat} (R : Rv xs x3 x4 i j) (hj : j < (nx xs i).length) (hb : (nx xs i).getD j 0 = (b : Int)) (hbn : b < xs.length) : Rv xs (x3.set b true) (x4 ++ [(b : Int)]) i (j + 1) := by
 have hbl : b < x3.length := by rw [R.len]; exact hbn
 have mono : ∀ v, x3.getD v false = true → (x3.set b true).getD v false = true := fun v h => by
  rw [set_get hbl]
  by_cases hvb : v = b
  · rw [if_pos hvb]
  · rw [if_neg hvb]; exact h
 refine ⟨by rw [List.length_set]; exact R.len, fun v hv hm => ?_, fun w hw => ?_, mono _ R.zero, ⟨R.cur.1, mono _ R.cur.2⟩, fun v hv hm => ?_⟩
 · rw [set_get hbl] at hm
   by_cases h : v = b
   · subst h
     refine Rch.step (R.sound i R.cur.1 R.cur.2) R.cur.1 ?_
     rw [← hb]; exact getD_in hj
   · rw [if_neg h] at hm; exact R.sound v hv hm
 · rcases List.mem_append.1 hw with hw | hw
   · obtain ⟨v, h1, h2, h3⟩ := R.work w hw
     exact ⟨v, h1, h2, mono _ h3⟩
   · exact ⟨b, hbn, by simpa using hw, by rw [set_get hbl, if_pos rfl]⟩
 · rw [set_get hbl] at hm
   by_cases h : v = b
   · subst h; exact .inl (by simp)
   · rw [if_neg h] at hm
     rcases R.closed v hv hm with h1 | h1 | ⟨h1, h2⟩
     · exact .inl (List.mem_append_left _ h1)
     · exact .inr (.inl fun c hc => mono _ (h1 c hc))
     · refine .inr (.inr ⟨h1, fun c hc => ?_⟩)
       rcases (take_mem hj).1 hc with hc | hc
       · exact mono _ (h2 c hc)
       · rw [hc, hb, show ((b : Int)).toNat = b by omega, set_get hbl, if_pos rfl]
theorem Rv.done {x3 : List Bool} {x4 : List Int} {i : Nat} (R : Rv xs x3 x4 i (nx xs i).length) : Rw xs x3 x4 := by
 refine ⟨R.len, R.sound, R.work, R.zero, fun v hv hm => ?_⟩
 rcases R.closed v hv hm with h1 | h1 | ⟨h1, h2⟩
 · exact .inl h1
 · exact .inr h1
 · subst h1; rw [List.take_length] at h2; exact .inr h2
theorem Rw.pop {x3 : List Bool} {x4 x4' : List Int} {i : Nat} (R : Rw xs x3 x4) (hi : (i : Int) ∈ x4) (hs : ∀ w, w ∈ x4 → w = (i : Int) ∨ w ∈ x4') (hs' : ∀ w ∈ x4', w ∈ x4) : Rv xs x3 x4' i 0 := by
 obtain ⟨v, h1, h2, h3⟩ := R.work _ hi
 have : v = i := by omega
 subst this
 refine ⟨R.len, R.sound, fun w hw => R.work w (hs' w hw), R.zero, ⟨h1, h3⟩, fun u hu hm => ?_⟩
 rcases R.closed u hu hm with h4 | h4
 · rcases hs _ h4 with h5 | h5
   · exact .inr (.inr ⟨by omega, fun c hc => by simp at hc⟩)
   · exact .inl h5
 · exact .inr (.inl h4)
open Classical in
variable (xs) in
noncomputable def rchL : List Bool := (List.range xs.length).map fun v => decide (Rch xs v)
open Classical in
theorem Rw.eq (hv : okV xs 0 = true) {x3 : List Bool} (R : Rw xs x3 []) : x3 = rchL xs := by
 have hall : ∀ v, Rch xs v → v < xs.length → x3.getD v false = true := by
  intro v h
  induction h with
  | zero => intro _; exact R.zero
  | step h ha e ih =>
    intro hb
    rcases R.closed _ ha (ih ha) with h1 | h1
    · cases h1
    · have := h1 _ e
      rwa [Int.toNat_natCast] at this
 apply List.ext_getElem?
 intro v
 by_cases hv : v < xs.length
 · have h1 : x3[v]? = some (x3.getD v false) := by
    have : v < x3.length := by rw [R.len]; exact hv
    simp [this]
   rw [h1]
   have h2 : x3.getD v false = decide (Rch xs v) := by
    cases hb : x3.getD v false with
    | true => exact (decide_eq_true (R.sound v hv hb)).symm
    | false => exact (decide_eq_false fun h => by rw [hall v h hv] at hb; cases hb).symm
   rw [h2]
   simp only [rchL, List.getElem?_map, List.getElem?_range hv, Option.map_some]
 · rw [List.getElem?_eq_none (by rw [R.len]; omega), List.getElem?_eq_none (by simp [rchL]; omega)]
def unm (x3 : List Bool) : Nat := x3.countP fun b => !b
theorem unm_set {x3 : List Bool} {b : Nat} (hb : b < x3.length) (h : x3.getD b false = false) : unm (x3.set b true) + 1 = unm x3 := by
 unfold unm
 have hx : x3[b] = false := by simpa [hb] using h
 rw [List.countP_set hb, hx]
 have : 0 < x3.countP fun b => !b := List.countP_pos_iff.2 ⟨x3[b], List.getElem_mem hb, by rw [hx]; rfl⟩
 simp
 omega
theorem rdB (l : List Bool) (v : Nat) : rdOf false l (v : Int) = l.getD v false := by simp [rdOf]
theorem freach_l1 (H : Sm xs) (hv : okV xs 0 = true) (m : Nat) (hm : m ≤ 100) (i : Nat) (hi : i < xs.length) (IH : ∀ x3 x4, Rw xs x3 x4 → 2 * unm x3 + x4.length ≤ m → E (fun k => flow_Reachable.l0 k x3 x4 xs) (rchL xs)) :
 ∀ (d j : Nat) (x3 : List Bool) (x4 : List Int), j + d = (nx xs i).length → Rv xs x3 x4 i j → 2 * unm x3 + x4.length ≤ m → E (fun k => flow_Reachable.l1 k x3 x4 (nx xs i) ((nx xs i).length : Int) (j : Int) xs) (rchL xs) := by
 have hn := H.n
 have hm8 := H.at hi
 intro d
 induction d with
 | zero =>
   intro j x3 x4 hj R hμ
   have : j = (nx xs i).length := by omega
   subst this
   exact E.step (fun k => by rw [flow_Reachable.l1.eq_2, if_neg (by omega)]) (IH x3 x4 R.done hμ)
 | succ d ih =>
   intro j x3 x4 hj R hμ
   have hjl : j < (nx xs i).length := by omega
   obtain ⟨h1, h2⟩ := okV_at hv hi _ (getD_in hjl)
   obtain ⟨b, hb⟩ : ∃ b : Nat, (nx xs i).getD j 0 = (b : Int) := ⟨((nx xs i).getD j 0).toNat, by omega⟩
   have hbn : b < xs.length := by omega
   have hlen := R.len
   have e : ∀ k, flow_Reachable.l1 (k + 1) x3 x4 (nx xs i) ((nx xs i).length : Int) (j : Int) xs = if x3.getD b false = true then flow_Reachable.l1 k x3 x4 (nx xs i) ((nx xs i).length : Int) ((j + 1 : Nat) : Int) xs else flow_Reachable.l1 k (x3.set b true) (x4 ++ [(b : Int)]) (nx xs i) ((nx xs i).length : Int) ((j + 1 : Nat) : Int) xs := by
    intro k
    rw [flow_Reachable.l1.eq_2, if_pos (by omega), if_pos (by omega), if_pos (by omega), rdI, hb, if_pos (by omega), if_pos (by omega), rdB, show ((b : Int)).toNat = b by omega, w64 (by omega) (by omega), if_pos (show x4.length < 17592186044416 by omega)]
    rfl
   cases hc : x3.getD b false with
   | true => exact E.step (fun k => by rw [e, hc, if_pos rfl]) (ih (j + 1) x3 x4 (by omega) (R.skip hjl (by rw [hb, show ((b : Int)).toNat = b by omega]; exact hc)) hμ)
   | false =>
     have hu := unm_set (x3 := x3) (b := b) (by omega) hc
     exact E.step (fun k => by rw [e, hc, if_neg (by decide)]) (ih (j + 1) _ _ (by omega) (R.push hjl hb hbn) (by simp; omega))
theorem freach_l0 (H : Sm xs) (hv : okV xs 0 = true) : ∀ (m : Nat), m ≤ 100 → ∀ x3 x4, Rw xs x3 x4 → 2 * unm x3 + x4.length ≤ m → E (fun k => flow_Reachable.l0 k x3 x4 xs) (rchL xs) := by
 have hn := H.n
 intro m
 induction m with
 | zero =>
   intro hm x3 x4 R hμ
   have : x4 = [] := List.length_eq_zero_iff.1 (by omega)
   subst this
   rw [← R.eq hv]
   exact E.step (h := fun _ => some x3) (fun k => by rw [flow_Reachable.l0.eq_2, if_neg (by simp)]) (E.const _)
 | succ m ihm =>
   intro hm x3 x4 R hμ
   by_cases h0 : x4 = []
   · subst h0
     rw [← R.eq hv]
     exact E.step (h := fun _ => some x3) (fun k => by rw [flow_Reachable.l0.eq_2, if_neg (by simp)]) (E.const _)
   · have hpos : 0 < x4.length := List.length_pos_iff.2 h0
     have hin : x4.getD (x4.length - 1) 0 ∈ x4 := getD_in (by omega)
     obtain ⟨i, hi, hw, _⟩ := R.work _ hin
     have hsp : x4 = x4.take (x4.length - 1) ++ [(i : Int)] := by
      have h1 := (List.take_append_drop (x4.length - 1) x4).symm
      rw [dropI (show x4.length - 1 < x4.length by omega), hw, List.drop_of_length_le (by omega)] at h1
      exact h1
     have R2 : Rv xs x3 (x4.take (x4.length - 1)) i 0 := R.pop (by rw [hw] at hin; exact hin) (fun w h => by
      rw [hsp] at h
      rcases List.mem_append.1 h with h | h
      · exact .inr h
      · exact .inl (by simpa using h)) (fun w h => List.mem_of_mem_take h)
     refine E.step (fun k => ?_) (freach_l1 H hv m (by omega) i hi (fun a b hR hl => ihm (by omega) a b hR hl) (nx xs i).length 0 x3 _ (by omega) R2 (by rw [List.length_take]; omega))
     rw [flow_Reachable.l0.eq_2, if_pos (by omega), w64 (by omega) (by omega), if_pos (by omega), if_pos (by omega), if_pos (by omega), show (x4.length : Int) - 1 = ((x4.length - 1 : Nat) : Int) by omega, rdI, hw, if_pos (by omega), if_pos (by omega), rd58, show (((x4.length - 1 : Nat) : Int)).toNat = x4.length - 1 by omega]
     rfl
theorem Rw.start (h0 : 0 < xs.length) : Rw xs ((List.replicate xs.length false).set 0 true) [0] := by
 have hl : 0 < (List.replicate xs.length false).length := by simpa using h0
 have hg : ∀ v, ((List.replicate xs.length false).set 0 true).getD v false = true → v = 0 := fun v h => by
  rw [set_get hl] at h
  by_cases hv : v = 0
  · exact hv
  · rw [if_neg hv] at h
    by_cases h2 : v < xs.length <;> simp [h2] at h
 refine ⟨by simp, fun v _ h => by rw [hg v h]; exact .zero, fun w hw => ⟨0, h0, by simpa using hw, by rw [set_get hl, if_pos rfl]⟩, by rw [set_get hl, if_pos rfl], fun v _ h => .inl (by rw [hg v h]; simp)⟩
variable (xs) in
noncomputable def rchV : List Bool := if validB xs = true then rchL xs else []
theorem unm_le (x3 : List Bool) : unm x3 ≤ x3.length := List.countP_le_length
theorem freach (H : Sm xs) : E (fun k => flow_Reachable.f k xs) (rchV xs) := by
 have hn := H.n
 unfold flow_Reachable.f
 refine E.bind (fvalid H) ?_
 unfold rchV
 cases hv : validB xs with
 | true =>
   have h2 := (validB_ok hv).1
   rw [show (if true = true then rchL xs else []) = rchL xs from if_pos rfl]
   have hs := Rw.start (xs := xs) (by omega)
   have hu := unm_le ((List.replicate xs.length false).set 0 true)
   simp only [List.length_set, List.length_replicate] at hu
   refine E.eq (fun k => ?_) (freach_l0 H (validB_ok hv).2.2 100 (Nat.le_refl _) _ _ hs (by simp; omega))
   rw [if_pos rfl, if_pos (by omega), if_pos (by omega), show ((xs.length : Int)).toNat = xs.length by omega]
   simp only [Option.bind_some]
   rw [if_pos (by simp; omega)]
   rfl
 | false => exact E.eq (fun k => if_neg (by decide)) (E.const _)
end
end Go.Proofs.YtfcjeoihfphphaaGreatDoor.PFlow
end
section
namespace Go.Proofs.YtfcjeoihfphphaaGreatDoor.PFlow
open Go.RowKit Go.Proofs.YtfcjeoihfphphaaGreatDoorW.PrintWords
section
variable {xs : List S58}
theorem rreach_l1 (H : Sm xs) (hv : okV xs 0 = true) (m : Nat) (hm : m ≤ 100) (i : Nat) (hi : i < xs.length) (IH : ∀ x3 x4, Rw xs x3 x4 → 2 * unm x3 + x4.length ≤ m → E (fun k => q_Reach.l0 k (-1) x3 x4 xs) (rchL xs)) :
 ∀ (d j : Nat) (x3 : List Bool) (x4 : List Int), j + d = (nx xs i).length → Rv xs x3 x4 i j → 2 * unm x3 + x4.length ≤ m → E (fun k => q_Reach.l1 k (-1) x3 x4 (nx xs i) (j : Int) xs) (rchL xs) := by
 have hn := H.n
 have hm8 := H.at hi
 intro d
 induction d with
 | zero =>
   intro j x3 x4 hj R hμ
   have : j = (nx xs i).length := by omega
   subst this
   exact E.step (fun k => by rw [q_Reach.l1.eq_2, if_neg (by omega)]) (IH x3 x4 R.done hμ)
 | succ d ih =>
   intro j x3 x4 hj R hμ
   have hjl : j < (nx xs i).length := by omega
   obtain ⟨h1, h2⟩ := okV_at hv hi _ (getD_in hjl)
   obtain ⟨b, hb⟩ : ∃ b : Nat, (nx xs i).getD j 0 = (b : Int) := ⟨((nx xs i).getD j 0).toNat, by omega⟩
   have hbn : b < xs.length := by omega
   have hlen := R.len
   have e : ∀ k, q_Reach.l1 (k + 1) (-1) x3 x4 (nx xs i) (j : Int) xs = if x3.getD b false = true then q_Reach.l1 k (-1) x3 x4 (nx xs i) ((j + 1 : Nat) : Int) xs else q_Reach.l1 k (-1) (x3.set b true) (x4 ++ [(b : Int)]) (nx xs i) ((j + 1 : Nat) : Int) xs := by
    intro k
    rw [q_Reach.l1.eq_2, if_pos (by omega), if_pos (by omega), rdI, hb, if_neg (by omega), if_pos (by omega), if_pos (by omega), rdB, show ((b : Int)).toNat = b by omega, w64 (by omega) (by omega), if_pos (show x4.length < 17592186044416 by omega)]
    rfl
   cases hc : x3.getD b false with
   | true => exact E.step (fun k => by rw [e, hc, if_pos rfl]) (ih (j + 1) x3 x4 (by omega) (R.skip hjl (by rw [hb, show ((b : Int)).toNat = b by omega]; exact hc)) hμ)
   | false =>
     have hu := unm_set (x3 := x3) (b := b) (by omega) hc
     exact E.step (fun k => by rw [e, hc, if_neg (by decide)]) (ih (j + 1) _ _ (by omega) (R.push hjl hb hbn) (by simp; omega))
theorem rreach_l0 (H : Sm xs) (hv : okV xs 0 = true) : ∀ (m : Nat), m ≤ 100 → ∀ x3 x4, Rw xs x3 x4 → 2 * unm x3 + x4.length ≤ m → E (fun k => q_Reach.l0 k (-1) x3 x4 xs) (rchL xs) := by
 have hn := H.n
 intro m
 induction m with
 | zero =>
   intro hm x3 x4 R hμ
   have : x4 = [] := List.length_eq_zero_iff.1 (by omega)
   subst this
   rw [← R.eq hv]
   exact E.step (h := fun _ => some x3) (fun k => by rw [q_Reach.l0.eq_2, if_neg (by simp)]) (E.const _)
 | succ m ihm =>
   intro hm x3 x4 R hμ
   cases x4 with
   | nil =>
     rw [← R.eq hv]
     exact E.step (h := fun _ => some x3) (fun k => by rw [q_Reach.l0.eq_2, if_neg (by simp)]) (E.const _)
   | cons w t =>
     obtain ⟨i, hi, hw, _⟩ := R.work w List.mem_cons_self
     subst hw
     have R2 : Rv xs x3 t i 0 := R.pop List.mem_cons_self (fun w h => by
      rcases List.mem_cons.1 h with h | h
      · exact .inl h
      · exact .inr h) (fun w h => List.mem_cons_of_mem _ h)
     simp only [List.length_cons] at hμ
     refine E.step (fun k => ?_) (rreach_l1 H hv m (by omega) i hi (fun a b hR hl => ihm (by omega) a b hR hl) (nx xs i).length 0 x3 t (by omega) R2 (by omega))
     have hr : rd ((i : Int) :: t) 0 = (i : Int) := by simp [rd]
     rw [q_Reach.l0.eq_2, if_pos (by simp), if_pos (by simp), hr, if_pos (by omega), if_pos (by omega), if_pos (by simp; omega), rd58]
     rfl
theorem rreach (H : Sm xs) (hv : validB xs = true) : E (fun k => q_Reach.f k xs 0 (-1)) (rchL xs) := by
 have hn := H.n
 have h2 := (validB_ok hv).1
 have hs := Rw.start (xs := xs) (by omega)
 have hu := unm_le ((List.replicate xs.length false).set 0 true)
 simp only [List.length_set, List.length_replicate] at hu
 refine E.eq (fun k => ?_) (rreach_l0 H (validB_ok hv).2.2 100 (Nat.le_refl _) _ _ hs (by simp; omega))
 unfold q_Reach.f
 rw [if_pos (by omega), if_pos (by omega), show ((xs.length : Int)).toNat = xs.length by omega]
 simp only [Option.bind_some]
 rw [if_neg (by decide), if_pos (by decide), if_pos (by simp; omega)]
 rfl
theorem rreachable (H : Sm xs) : E (fun k => q_Reachable.f k xs) (rchV xs) := by
 unfold q_Reachable.f
 refine E.bind (rvalid H) ?_
 unfold rchV
 cases hv : validB xs with
 | true =>
   rw [show (if true = true then rchL xs else []) = rchL xs from if_pos rfl]
   exact E.eq (fun k => if_pos rfl) (E.bind (rreach H hv) (E.const _))
 | false => exact E.eq (fun k => if_neg (by decide)) (E.const _)
end
end Go.Proofs.YtfcjeoihfphphaaGreatDoor.PFlow
end
section
namespace Go.Proofs.YtfcjeoihfphphaaGreatDoor.PFlow
open Go.RowKit Go.Proofs.YtfcjeoihfphphaaGreatDoorW.PrintWords
section
variable {xs : List S58}
theorem eqb_l0 (l : List Bool) (hl : l.length < 4611686018427387904) : ∀ (d i : Nat), i + d = l.length → E (fun k => sEq.l0 k l l (l.length : Int) (i : Int)) true := by
 intro d
 induction d with
 | zero =>
   intro i hi
   exact E.step (h := fun _ => some true) (fun k => by rw [sEq.l0.eq_2, if_neg (by omega)]) (E.const _)
 | succ d ih =>
   intro i hi
   refine E.step (fun k => ?_) (ih (i + 1) (by omega))
   rw [sEq.l0.eq_2, if_pos (by omega), if_pos (by omega), if_pos (by omega), if_pos (by omega), if_neg (by simp), w64 (by omega) (by omega)]
   rfl
theorem eqb (l : List Bool) (hl : l.length < 4611686018427387904) : E (fun k => sEq.f k l l) true := by
 refine E.eq (fun k => ?_) (eqb_l0 l hl l.length 0 (by omega))
 unfold sEq.f
 rw [if_pos rfl]; rfl
def cE (xs : List S58) (R : List Bool) (b : Int) : Nat → Nat
 | 0 => 0
 | i + 1 => cE xs R b i + (if R.getD i false = true then (nx xs i).count b else 0)
def cW (xs : List S58) (R : List Bool) (b : Int) : Nat → Bool
 | 0 => false
 | i + 1 => cW xs R b i || (R.getD i false && (decide (b ∈ nx xs i) && decide (1 < (nx xs i).length)))
theorem cE_le (H : Sm xs) (R : List Bool) (b : Int) : ∀ i, i ≤ xs.length → cE xs R b i ≤ 8 * i := by
 intro i
 induction i with
 | zero => intro _; simp [cE]
 | succ i ih =>
   intro hi
   have := ih (by omega)
   have hm := H.at (show i < xs.length by omega)
   have hc : (nx xs i).count b ≤ (nx xs i).length := List.count_le_length
   simp only [cE]; split <;> omega
def bg (xs : List S58) (R : List Bool) (b : Nat) : Bool := decide (b < 2) || (!decide (cE xs R (b : Int) xs.length = 1) || cW xs R (b : Int) xs.length)
theorem rbegins_l0 (H : Sm xs) (R : List Bool) (hR : R.length = xs.length) (b : Nat) (hb : b < xs.length) : ∀ (d i : Nat), i + d = xs.length → E (fun k => q_begins.l0 k (b : Int) R (cE xs R (b : Int) i : Int) (cW xs R (b : Int) i) (i : Int) xs) (bg xs R b) := by
 have hn := H.n
 intro d
 induction d with
 | zero =>
   intro i hi
   have : i = xs.length := by omega
   subst this
   refine E.step (h := fun _ => some (bg xs R b)) (fun k => ?_) (E.const _)
   rw [q_begins.l0.eq_2, if_neg (by omega)]
   unfold bg
   by_cases h2 : (b : Int) < 2
   · rw [if_pos h2, decide_eq_true (by omega), Bool.true_or]
   · rw [if_neg h2, decide_eq_false (by omega), Bool.false_or]
     by_cases h3 : cE xs R (b : Int) xs.length = 1
     · rw [if_pos (by omega), decide_eq_true h3]; rfl
     · rw [if_neg (by omega), decide_eq_false h3]; rfl
 | succ d ih =>
   intro i hi
   have hlt : i < xs.length := by omega
   have hle := cE_le H R (b : Int) i (by omega)
   have hm := H.at hlt
   have hcl : (nx xs i).count (b : Int) ≤ (nx xs i).length := List.count_le_length
   have K := ih (i + 1) (by omega)
   cases hr : R.getD i false with
   | false =>
     refine E.step (fun k => ?_) K
     rw [q_begins.l0.eq_2, if_pos (by omega), if_pos (by omega), if_pos (by omega), rdB, hr, if_neg (by decide), w64 (by omega) (by omega)]
     simp only [cE, cW, hr, Bool.false_and, Bool.or_false]
     rfl
   | true =>
     have hto := to_f H i hlt (b : Int)
     have hE : (cE xs R (b : Int) (i + 1) : Int) = (cE xs R (b : Int) i : Int) + ((nx xs i).count (b : Int) : Int) := by simp only [cE, hr, if_true]; push_cast; rfl
     have hstep : ∀ k, q_begins.l0 (k + 1) (b : Int) R (cE xs R (b : Int) i : Int) (cW xs R (b : Int) i) (i : Int) xs =
      (q_to.f k xs (i : Int) (b : Int)).bind fun t => if cW xs R (b : Int) i = true then q_begins.l0 k (b : Int) R (wrap64 ((cE xs R (b : Int) i : Int) + t)) true ((i + 1 : Nat) : Int) xs else (q_to.f k xs (i : Int) (b : Int)).bind fun t' => if t' > 0 then q_begins.l0 k (b : Int) R (wrap64 ((cE xs R (b : Int) i : Int) + t)) (decide (((nx xs i).length : Int) > 1)) ((i + 1 : Nat) : Int) xs else q_begins.l0 k (b : Int) R (wrap64 ((cE xs R (b : Int) i : Int) + t)) false ((i + 1 : Nat) : Int) xs := by
      intro k
      rw [q_begins.l0.eq_2, if_pos (by omega), if_pos (by omega), if_pos (by omega), rdB, hr, if_pos rfl, rd58, w64 (x := (i : Int) + 1) (by omega) (by omega)]
      rfl
     refine E.step hstep (E.bind hto ?_)
     rw [show wrap64 ((cE xs R (b : Int) i : Int) + ((nx xs i).count (b : Int) : Int)) = (cE xs R (b : Int) (i + 1) : Int) by rw [w64 (by omega) (by omega), hE]]
     cases hw : cW xs R (b : Int) i with
     | true =>
       have e : cW xs R (b : Int) (i + 1) = true := by simp only [cW, hw, Bool.true_or]
       rw [e] at K
       exact E.eq (fun k => if_pos rfl) K
     | false =>
       refine E.eq (fun k => if_neg (by decide)) (E.bind hto ?_)
       by_cases hm2 : (b : Int) ∈ nx xs i
       · have hc : 0 < (nx xs i).count (b : Int) := List.count_pos_iff.2 hm2
         have e : cW xs R (b : Int) (i + 1) = decide (((nx xs i).length : Int) > 1) := by
          simp only [cW, hw, hr, Bool.false_or, Bool.true_and, decide_eq_true hm2]
          by_cases hg : 1 < (nx xs i).length
          · rw [decide_eq_true hg, decide_eq_true (by omega)]
          · rw [decide_eq_false hg, decide_eq_false (by omega)]
         rw [e] at K
         exact E.eq (fun k => if_pos (by omega)) K
       · have hc : (nx xs i).count (b : Int) = 0 := List.count_eq_zero.2 hm2
         have e : cW xs R (b : Int) (i + 1) = false := by simp only [cW, hw, hr, Bool.false_or, Bool.true_and, decide_eq_false hm2, Bool.false_and]
         rw [e] at K
         exact E.eq (fun k => if_neg (by omega)) K
theorem rchL_len : (rchL xs).length = xs.length := by simp [rchL]
theorem rbegins (H : Sm xs) (hv : validB xs = true) (b : Nat) (hb : b < xs.length) : E (fun k => q_begins.f k xs (b : Int)) ((rchL xs).getD b false && bg xs (rchL xs) b) := by
 have hn := H.n
 have hR : rchV xs = rchL xs := by unfold rchV; rw [if_pos hv]
 have hl : (rchL xs).length = xs.length := rchL_len
 unfold q_begins.f
 refine E.bind (rreachable H) ?_
 rw [hR]
 refine E.eq (h := fun k => if (rchL xs).getD b false = true then q_begins.l0 k (b : Int) (rchL xs) 0 false 0 xs else some false) (fun k => by rw [if_pos (by omega), if_pos (by omega), rdB]) ?_
 cases hr : (rchL xs).getD b false with
 | true => exact E.eq (fun k => if_pos rfl) (by rw [Bool.true_and]; exact rbegins_l0 H (rchL xs) hl b hb xs.length 0 (by omega))
 | false => exact E.eq (fun k => if_neg (by decide)) (E.const _)
end
end Go.Proofs.YtfcjeoihfphphaaGreatDoor.PFlow
end
section
namespace Go.Proofs.YtfcjeoihfphphaaGreatDoor.PFlow
open Go.RowKit Go.Proofs.YtfcjeoihfphphaaGreatDoorW.PrintWords
section
variable {xs : List S58}
structure Ct (xs : List S58) (R : List Bool) (i j : Nat) (x20 : List Int) (x23 : List Bool) : Prop where
 l20 : x20.length = xs.length
 l23 : x23.length = xs.length
 e : ∀ b : Nat, b < xs.length → x20.getD b 0 = (cE xs R (b : Int) i : Int) + (((nx xs i).take j).count (b : Int) : Int)
 w : ∀ b : Nat, b < xs.length → x23.getD b false = (cW xs R (b : Int) i || (decide ((b : Int) ∈ (nx xs i).take j) && decide (1 < (nx xs i).length)))
def eL (xs : List S58) (R : List Bool) : List Int := (List.range xs.length).map fun b : Nat => (cE xs R (b : Int) xs.length : Int)
def wL (xs : List S58) (R : List Bool) : List Bool := (List.range xs.length).map fun b : Nat => cW xs R (b : Int) xs.length
theorem Ct.next {R : List Bool} {i : Nat} {x20 : List Int} {x23 : List Bool} (h : Ct xs R i (nx xs i).length x20 x23) (hr : R.getD i false = true) : Ct xs R (i + 1) 0 x20 x23 := by
 refine ⟨h.l20, h.l23, fun b hb => ?_, fun b hb => ?_⟩
 · rw [h.e b hb, List.take_length]; simp only [cE, hr, if_true, List.take_zero, List.count_nil]; push_cast; omega
 · rw [h.w b hb, List.take_length]; simp only [cW, hr, Bool.true_and, List.take_zero, List.not_mem_nil, decide_false, Bool.false_and, Bool.or_false]
theorem Ct.pass {R : List Bool} {i : Nat} {x20 : List Int} {x23 : List Bool} (h : Ct xs R i 0 x20 x23) (hr : R.getD i false = false) : Ct xs R (i + 1) 0 x20 x23 := by
 refine ⟨h.l20, h.l23, fun b hb => ?_, fun b hb => ?_⟩
 · rw [h.e b hb]; simp only [cE, hr, Bool.false_eq_true, if_false, Nat.add_zero, List.take_zero, List.count_nil]
 · rw [h.w b hb]; simp only [cW, hr, Bool.false_and, Bool.or_false, List.take_zero, List.not_mem_nil, decide_false]
theorem Ct.eq {R : List Bool} {x20 : List Int} {x23 : List Bool} (h : Ct xs R xs.length 0 x20 x23) : x20 = eL xs R ∧ x23 = wL xs R := by
 constructor
 · apply List.ext_getElem?
   intro b
   by_cases hb : b < xs.length
   · have h1 : x20[b]? = some (x20.getD b 0) := by
      have : b < x20.length := by rw [h.l20]; exact hb
      simp [this]
     rw [h1, h.e b hb]
     simp [eL, hb]
   · rw [List.getElem?_eq_none (by rw [h.l20]; omega), List.getElem?_eq_none (by simp [eL]; omega)]
 · apply List.ext_getElem?
   intro b
   by_cases hb : b < xs.length
   · have h1 : x23[b]? = some (x23.getD b false) := by
      have : b < x23.length := by rw [h.l23]; exact hb
      simp [this]
     rw [h1, h.w b hb]
     simp [wL, hb]
   · rw [List.getElem?_eq_none (by rw [h.l23]; omega), List.getElem?_eq_none (by simp [wL]; omega)]
theorem count_take {l : List Int} {j : Nat} (h : j < l.length) (c : Int) : (l.take (j + 1)).count c = (l.take j).count c + (if l.getD j 0 = c then 1 else 0) := by
 have hg : l.getD j 0 = l[j] := by simp [h]
 rw [List.take_add_one, List.count_append, List.getElem?_eq_getElem h, hg]
 simp only [Option.toList_some, List.count_cons, List.count_nil, Nat.zero_add, beq_iff_eq]
theorem Ct.push (H : Sm xs) {R : List Bool} {i j b : Nat} {x20 : List Int} {x23 : List Bool} (h : Ct xs R i j x20 x23) (hj : j < (nx xs i).length) (hb : (nx xs i).getD j 0 = (b : Int)) (hbn : b < xs.length) {v : Bool} (hv : v = (x23.getD b false || decide (1 < (nx xs i).length))) :
 Ct xs R i (j + 1) (x20.set b (x20.getD b 0 + 1)) (x23.set b v) := by
 have h20 : b < x20.length := by rw [h.l20]; exact hbn
 have h23 : b < x23.length := by rw [h.l23]; exact hbn
 refine ⟨by rw [List.length_set]; exact h.l20, by rw [List.length_set]; exact h.l23, fun c hc => ?_, fun c hc => ?_⟩
 · rw [count_take hj, hb]
   by_cases hcb : c = b
   · subst hcb
     have : (x20.set c (x20.getD c 0 + 1)).getD c 0 = x20.getD c 0 + 1 := by simp [h20]
     rw [this, h.e c hc, if_pos rfl]; push_cast; omega
   · have : (x20.set b (x20.getD b 0 + 1)).getD c 0 = x20.getD c 0 := by simp [Ne.symm hcb]
     rw [this, h.e c hc, if_neg (by omega)]; push_cast; omega
 · by_cases hcb : c = b
   · subst hcb
     have : (x23.set c v).getD c false = v := by simp [h23]
     rw [this, hv, h.w c hc, decide_eq_true ((take_mem hj).2 (.inr hb.symm)), Bool.true_and]
     cases cW xs R (c : Int) i <;> cases decide (1 < (nx xs i).length) <;> simp
   · have : (x23.set b v).getD c false = x23.getD c false := by simp [Ne.symm hcb]
     rw [this, h.w c hc]
     have hiff : (c : Int) ∈ (nx xs i).take (j + 1) ↔ (c : Int) ∈ (nx xs i).take j := by
      rw [take_mem hj, hb]
      constructor
      · rintro (h | h)
        · exact h
        · exact absurd (by omega) hcb
      · exact .inl
     simp only [hiff]
variable {R : List Bool}
theorem fblocks_l1 (H : Sm xs) (hv : okV xs 0 = true) (hR : R.length = xs.length) (i : Nat) (hi : i < xs.length) (hr : R.getD i false = true) {Z : List (List Int)} (K : ∀ x20 x23, Ct xs R (i + 1) 0 x20 x23 → E (fun k => flow_Blocks.l0 k R x20 x23 R (xs.length : Int) ((i + 1 : Nat) : Int) xs) Z) :
 ∀ (d j : Nat) (x20 : List Int) (x23 : List Bool), j + d = (nx xs i).length → Ct xs R i j x20 x23 → E (fun k => flow_Blocks.l1 k R (i : Int) x20 x23 R (xs.length : Int) (i : Int) (nx xs i) ((nx xs i).length : Int) (j : Int) xs) Z := by
 have hn := H.n
 have hm := H.at hi
 intro d
 induction d with
 | zero =>
   intro j x20 x23 hj C
   have : j = (nx xs i).length := by omega
   subst this
   refine E.step (fun k => ?_) (K x20 x23 (C.next hr))
   rw [flow_Blocks.l1.eq_2, if_neg (by omega), w64 (by omega) (by omega)]
   rfl
 | succ d ih =>
   intro j x20 x23 hj C
   have hjl : j < (nx xs i).length := by omega
   obtain ⟨h1, h2⟩ := okV_at hv hi _ (getD_in hjl)
   obtain ⟨b, hb⟩ : ∃ b : Nat, (nx xs i).getD j 0 = (b : Int) := ⟨((nx xs i).getD j 0).toNat, by omega⟩
   have hbn : b < xs.length := by omega
   have h20 := C.l20
   have h23 := C.l23
   have he := C.e b hbn
   have hle := cE_le H R (b : Int) i (by omega)
   have hct : ((nx xs i).take j).count (b : Int) ≤ 8 := Nat.le_trans List.count_le_length (by rw [List.length_take]; omega)
   have hw1 : wrap64 (x20.getD b 0 + 1) = x20.getD b 0 + 1 := w64 (by omega) (by omega)
   cases hc : x23.getD b false with
   | true =>
     refine E.step (fun k => ?_) (ih (j + 1) _ _ (by omega) (C.push H hjl hb hbn (v := true) (by rw [hc]; rfl)))
     rw [flow_Blocks.l1.eq_2, if_pos (by omega), if_pos (by omega), if_pos (by omega), rdI, hb, if_pos (by omega), if_pos (by omega)]
     simp only [Option.bind_some]
     rw [if_pos (by omega), rdB, hc, if_pos rfl, rdI, hw1, show ((b : Int)).toNat = b by omega, w64 (x := (j : Int) + 1) (by omega) (by omega)]
     rfl
   | false =>
     refine E.step (fun k => ?_) (ih (j + 1) _ _ (by omega) (C.push H hjl hb hbn (v := decide (1 < (nx xs i).length)) (by rw [hc]; rfl)))
     rw [flow_Blocks.l1.eq_2, if_pos (by omega), if_pos (by omega), if_pos (by omega), rdI, hb, if_pos (by omega), if_pos (by omega)]
     simp only [Option.bind_some]
     have hd : decide (((xs.getD i z58).f2.length : Int) > 1) = decide (1 < (nx xs i).length) := by
      by_cases hg : 1 < (nx xs i).length
      · rw [decide_eq_true hg, decide_eq_true (by show ((nx xs i).length : Int) > 1; omega)]
      · rw [decide_eq_false hg, decide_eq_false (by show ¬ ((nx xs i).length : Int) > 1; omega)]
     rw [if_pos (by omega), rdB, hc, if_neg (by decide), if_pos (by omega), if_pos (by omega), rd58, hd, rdI, hw1, show ((b : Int)).toNat = b by omega, w64 (x := (j : Int) + 1) (by omega) (by omega)]
     rfl
theorem fblocks_l0 (H : Sm xs) (hv : okV xs 0 = true) (hR : R.length = xs.length) {Z : List (List Int)} (K : E (fun k => flow_Blocks.l2 k [] (eL xs R) (wL xs R) R (xs.length : Int) ((0 : Nat) : Int) xs) Z) :
 ∀ (d i : Nat) (x20 : List Int) (x23 : List Bool), i + d = xs.length → Ct xs R i 0 x20 x23 → E (fun k => flow_Blocks.l0 k R x20 x23 R (xs.length : Int) (i : Int) xs) Z := by
 have hn := H.n
 intro d
 induction d with
 | zero =>
   intro i x20 x23 hi C
   have : i = xs.length := by omega
   subst this
   obtain ⟨rfl, rfl⟩ := C.eq
   refine E.step (fun k => ?_) K
   rw [flow_Blocks.l0.eq_2, if_neg (by omega), hR]
   rfl
 | succ d ih =>
   intro i x20 x23 hi C
   cases hr : R.getD i false with
   | true =>
     refine E.step (fun k => ?_) (fblocks_l1 H hv hR i (by omega) hr (fun a b hC => ih (i + 1) a b (by omega) hC) (nx xs i).length 0 x20 x23 (by omega) C)
     rw [flow_Blocks.l0.eq_2, if_pos (by omega), if_pos (by omega), if_pos (by omega), rdB, hr, if_pos rfl, if_pos (by omega), rd58]
     rfl
   | false =>
     refine E.step (fun k => ?_) (ih (i + 1) x20 x23 (by omega) (C.pass hr))
     rw [flow_Blocks.l0.eq_2, if_pos (by omega), if_pos (by omega), if_pos (by omega), rdB, hr, if_neg (by decide), w64 (by omega) (by omega)]
     rfl
theorem fbegins (b : Nat) (hb : b < xs.length) : flow_begins.f (b : Int) (eL xs R) (wL xs R) = some (bg xs R b) := by
 have he : (eL xs R).length = xs.length := by simp [eL]
 have hw : (wL xs R).length = xs.length := by simp [wL]
 have he2 : (eL xs R).getD b 0 = (cE xs R (b : Int) xs.length : Int) := by simp [eL, hb]
 have hw2 : (wL xs R).getD b false = cW xs R (b : Int) xs.length := by simp [wL, hb]
 unfold flow_begins.f bg
 by_cases h2 : (b : Int) < 2
 · rw [if_pos h2, decide_eq_true (by omega), Bool.true_or]
 · rw [if_neg h2, if_pos (by omega), if_pos (by omega), rdI, he2, decide_eq_false (by omega), Bool.false_or]
   by_cases h3 : cE xs R (b : Int) xs.length = 1
   · rw [if_pos (by omega), if_pos (by omega), rdB, hw2, decide_eq_true h3]; rfl
   · rw [if_neg (by omega), decide_eq_false h3]; rfl
end
end Go.Proofs.YtfcjeoihfphphaaGreatDoor.PFlow
end
