/- A part of the proof, written by programs of this seat and by hand: FlR0. -/
import Derived.Test.YtfcjeoihfphphaaGreatDoorRows
import Derived.WalkKit
import Derived.ProofKit
import Derived.OpenShut
import Derived.ShutString
import Derived.ChangeOld
import Derived.ChangeVars
import Derived.JoinedOf
import Derived.RowKit
import Derived.RowKitTokens
import Derived.Below
import Derived.SizedLaws
import Derived.LaidLaws
import Derived.LaidHandle
import Derived.Lib.LaidIn
import Derived.Lib.LaidU8
import Derived.Lib.DecodeN
import Derived.Lib.SmallJoins
import Derived.Stop.Joined
import Derived.Test.YtfcjeoihfphphaaGreatDoorPtLA
set_option linter.unusedVariables false
set_option linter.unusedSimpArgs false
section
namespace Go.Proofs.YtfcjeoihfphphaaGreatDoor.PFlow
open Go.ChangeShapes Go.WideShapes Go.ChangeAt Go.RowKit Go.Proofs.YtfcjeoihfphphaaGreatDoorW.PrintWords Go.Proofs.YtfcjeoihfphphaaGreatDoorW.PrintLast
theorem own : ownKnob Tryz.prog.godebug = none := by kernel_rfl
theorem laidOut : laidOutB Tryz.prog = true := by kernel_rfl
section
variable {H : Type} {enc : TypeId × Value → H} {w : World} {base : Nat}
theorem open_is {fuel : Nat} {cs : List Value} {x : DataW H × List MemPlace} (h : DataW.trod enc Tryz.prog w base (fun _ => true) true fuel 27 cs = some x) :
 ∃ A c, ∃ l : List Int, cs = [.slice A l.length c] ∧ l.length ≤ c ∧ (Kd.int .i64).C w A l.length l := by
 rcases Go.Deep.open_slice1 Tryz.underlying27 (by kernel_rfl) h with ⟨hcs, _⟩ | ⟨a, len, cap, m, n, V, D, Pl, rfl, hb, hl, hm, hmm, rfl, hx⟩
 · exact ⟨none, 0, [], by simpa using hcs, Nat.le_refl _, rfl, by decide, fun h0 => absurd h0 (by simp)⟩
 · have hmm' : m = cap := by simpa using hmm
   subst hmm'
   have hV : ∀ i, i < len → ∃ z : Int, V i = .int .i64 z := by
    intro i hi
    obtain ⟨_, h2⟩ := hx i (by omega)
    obtain ⟨z, e, _⟩ := DataW.trod_int Tryz.underlying3 h2
    exact ⟨z, by simpa using e⟩
   obtain ⟨z, hz⟩ := Go.Deep.choose_lt hV
   refine ⟨some a, m, (List.range len).map z, by simp, by simpa using hl, ?_, ?_, ?_⟩
   · rfl
   · have : m ≤ 9223372036854775807 := hm
     simpa using (by omega : len ≤ 9223372036854775807)
   · intro _
     refine ⟨a, rfl, fun j p hj => ?_⟩
     have hj2 : j < len := by
      have := (List.getElem?_eq_some_iff.1 hj).1
      simpa using this
     have hp : p = z j := by
      rw [List.getElem?_map, List.getElem?_range hj2] at hj
      exact (Option.some.inj hj).symm
     subst hp
     refine ⟨[.int .i64 (z j)], rfl, rfl, fun i u hu => ?_⟩
     obtain ⟨h1, _⟩ := hx j (by omega)
     match i, hu with
     | 0, hu =>
       have hu' : Value.int .i64 (z j) = u := Option.some.inj hu
       subst hu'
       rw [show j * (Kd.int .i64).sz + 0 = j by show j * 1 + 0 = j; omega, h1, hz j hj2]
theorem len1 {α : Type} {l : List α} (h : l.length = 1) : ∃ a, l = [a] := by
 match l, h with
 | [a], _ => exact ⟨a, rfl⟩
theorem len3 {α : Type} {l : List α} (h : l.length = 3) : ∃ a b c, l = [a, b, c] := by
 match l, h with
 | [a, b, c], _ => exact ⟨a, b, c, rfl⟩
theorem open_pt {fuel : Nat} {cs : List Value} {x : DataW H × List MemPlace} (h : DataW.trod enc Tryz.prog w base (fun _ => true) true fuel 58 cs = some x) :
 ∃ p : S58, k58.K w p cs := by
 obtain ⟨xs, k, _, _, hl, hlen, hf⟩ := DataW.trod_struct Tryz.underlying58 h
 have hl3 : cs.length = 3 := hl.trans (by kernel_rfl)
 obtain ⟨v0, v1, v2, rfl⟩ := len3 hl3
 obtain ⟨y0, y1, y2, rfl⟩ := len3 (hlen.trans (show _ = 3 from rfl))
 clear hl hl3 hlen
 have g0 : DataW.trod enc Tryz.prog w base (fun _ => true) true k 3 [v0] = some y0 := by
  have this : DataW.trod enc Tryz.prog w base (fun _ => true) true k 3 (List.take (Tryz.prog.cellsOf 3) [v0, v1, v2]) = some y0 := hf 0 _ rfl
  rwa [show Tryz.prog.cellsOf 3 = 1 by kernel_rfl] at this
 have g1 : DataW.trod enc Tryz.prog w base (fun _ => true) true k 3 [v1] = some y1 := by
  have this : DataW.trod enc Tryz.prog w base (fun _ => true) true k 3 (List.take (Tryz.prog.cellsOf 3) [v1, v2]) = some y1 := hf 1 _ rfl
  rwa [show Tryz.prog.cellsOf 3 = 1 by kernel_rfl] at this
 have g2 : DataW.trod enc Tryz.prog w base (fun _ => true) true k 27 [v2] = some y2 := by
  have this : DataW.trod enc Tryz.prog w base (fun _ => true) true k 27 (List.take (Tryz.prog.cellsOf 27) [v2]) = some y2 := hf 2 _ rfl
  rwa [show Tryz.prog.cellsOf 27 = 1 by kernel_rfl] at this
 obtain ⟨z0, e0, _⟩ := DataW.trod_int Tryz.underlying3 g0
 obtain ⟨z1, e1, _⟩ := DataW.trod_int Tryz.underlying3 g1
 obtain ⟨A, c, l, e2, hc, hC⟩ := open_is g2
 obtain rfl : v0 = .int .i64 z0 := by simpa using e0
 obtain rfl : v1 = .int .i64 z1 := by simpa using e1
 obtain rfl : v2 = .slice A l.length c := by simpa using e2
 exact ⟨⟨z0, z1, l⟩, k58_mk w ⟨z0, z1, l⟩ hc hC⟩
set_option maxRecDepth 100000 in
theorem open_flow {r : Reach} {b0 : Nat} {v : Value} {d : DataW H} {ps : List MemPlace} (hv : Value.okWide Tryz.prog w r b0 36 v) (h : DataW.Trod enc Tryz.prog w base (fun _ => true) true 36 v d ps)
 (hsz : ∀ n ∈ DataW.weights Tryz.prog 36 d, n ≤ reachBytes) :
 ∃ A c, ∃ l : List S58, v = .agg #[.slice A l.length c] ∧ l.length ≤ c ∧ Kd.C k58 w A l.length l ∧ l.length < 4611686018427387904 := by
 obtain ⟨cs, rfl, hs⟩ := okWide_struct Tryz.underlying36 hv
 have hs1 : cs.size = 1 := hs.trans (by kernel_rfl)
 obtain ⟨cs⟩ := cs
 obtain ⟨v0, rfl⟩ := len1 hs1
 clear hs hs1
 obtain ⟨fuel, hf⟩ := h
 obtain ⟨xs, k, _, hx, _, hlen, hg⟩ := DataW.trod_struct Tryz.underlying36 hf
 obtain ⟨y0, rfl⟩ := len1 (hlen.trans (show _ = 1 from rfl))
 clear hlen
 have g0 : DataW.trod enc Tryz.prog w base (fun _ => true) true k 34 [v0] = some y0 := by
  have this : DataW.trod enc Tryz.prog w base (fun _ => true) true k 34 (List.take (Tryz.prog.cellsOf 34) [v0]) = some y0 := hg 0 _ rfl
  rwa [show Tryz.prog.cellsOf 34 = 1 by kernel_rfl] at this
 obtain ⟨hd, -⟩ : d = .agg [y0.1] ∧ ps = y0.2 ++ [] := by simpa using hx
 subst hd
 rcases Go.Deep.open_slice Tryz.underlying34 g0 with ⟨hcs, _⟩ | ⟨a, len, cap, m, n, D, Pl, hcs, hb, hl, hm, hmm, rfl, hxx⟩
 · obtain rfl : v0 = .slice none 0 0 := by simpa using hcs
   exact ⟨none, 0, [], rfl, Nat.le_refl _, ⟨rfl, by decide, fun h0 => absurd h0 (by simp)⟩, Nat.zero_lt_succ _⟩
 · obtain rfl : v0 = .slice (some a) len cap := by simpa using hcs
   have hmm' : m = cap := by simpa using hmm
   subst hmm'
   have hlen : m * 40 ≤ reachBytes := by
    refine hsz _ ?_
    have e36 : DataW.weights (H := H) Tryz.prog 36 (.agg [.slice ((List.range len).map D) ((List.range (m - len)).map fun j => D (len + j))]) = DataW.weightsEach Tryz.prog [34] [.slice ((List.range len).map D) ((List.range (m - len)).map fun j => D (len + j))] := by
     simp [DataW.weights, Tryz.underlying36]
    rw [e36]
    refine DataW.weights_mem_each (j := 0) rfl rfl _ ?_
    have e40 : Tryz.prog.bytesOf 58 = 40 := by kernel_rfl
    simp [DataW.weights, Tryz.underlying34, e40]
    left
    omega
   have hP : ∀ i, i < len → ∃ q : S58 × List Value, w.cells? base (a.add (i * 3)) 3 = some q.2 ∧ k58.K w q.1 q.2 := by
    intro i hi
    obtain ⟨cs', h1, h2⟩ := hxx i (by omega)
    rw [show Tryz.prog.cellsOf 58 = 3 by kernel_rfl] at h1
    obtain ⟨p, hp⟩ := open_pt h2
    exact ⟨(p, cs'), h1, hp⟩
   have : Inhabited (S58 × List Value) := ⟨(z58, [])⟩
   obtain ⟨q, hq⟩ := Go.Deep.choose_lt (α := S58 × List Value) (p := fun i q => w.cells? base (a.add (i * 3)) 3 = some q.2 ∧ k58.K w q.1 q.2) hP
   refine ⟨some a, m, (List.range len).map (fun i => (q i).1), by simp, by simpa using hl, ⟨rfl, ?_, ?_⟩, ?_⟩
   · have : m ≤ 9223372036854775807 := hm
     simpa using (by omega : len ≤ 9223372036854775807)
   · intro _
     refine ⟨a, rfl, fun j p hj => ?_⟩
     have hj2 : j < len := by
      have := (List.getElem?_eq_some_iff.1 hj).1
      simpa using this
     have hp : p = (q j).1 := by
      rw [List.getElem?_map, List.getElem?_range hj2] at hj
      exact (Option.some.inj hj).symm
     subst hp
     obtain ⟨h1, h2⟩ := hq j hj2
     refine ⟨(q j).2, k58.K_len h2, h2, fun i u hu => ?_⟩
     obtain ⟨_, hl3, hcell⟩ := World.cells?_some h1
     have hi : i < 3 := by
      have := (List.getElem?_eq_some_iff.1 hu).1
      omega
     have := hcell i hi
     rw [Go.Deep.add_add] at this
     exact this.trans hu
   · have : reachBytes = 140737488351232 := rfl
     have h3 : ((List.range len).map (fun i => (q i).1)).length = len := by simp
     rw [h3]
     omega
end
noncomputable def laidWorld (os : Os) : World :=
 let w0 := World.holding Tryz.prog os ⟨#[], #[], []⟩
 let put (h : Array Obj) (g : Nat) (cs : Array Value) : Array Obj := h.modify g fun
  | .cells _ t frozen => .cells cs t frozen
  | o => o
 let h1 := put w0.heap ((Tryz.prog.globalNamed "unicode/utf8.first").getD 0) (Go.Lib.firstTab.map fun z => Value.int .u8 z).toArray
 let h2 := put h1 ((Tryz.prog.globalNamed "unicode/utf8.acceptRanges").getD 0) ((List.range 16).flatMap fun i => [Value.int .u8 (Go.Lib.accLo i), Value.int .u8 (Go.Lib.accHi i)]).toArray
 { w0 with heap := h2 }
end Go.Proofs.YtfcjeoihfphphaaGreatDoor.PFlow
end
