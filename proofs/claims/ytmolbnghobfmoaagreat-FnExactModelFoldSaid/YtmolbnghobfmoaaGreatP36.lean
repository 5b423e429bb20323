/- Part 36 of what the row Row28 rests on: Rm. -/
import Derived.Test.YtmolbnghobfmoaaGreatRows
import Derived.ProofKit
import Derived.OpenShut
import Derived.Lib.SmallJoins
import Derived.Test.YtmolbnghobfmoaaGreatP35
set_option maxRecDepth 100000
set_option maxHeartbeats 16000000
set_option linter.unusedSimpArgs false
set_option linter.unusedVariables false
namespace Go.Proofs.YtmolbnghobfmoaaGreat
open Go.Joins Go.ChangeShapes Go.WideShapes Go.ChangeAt Go.RowKit Go.Deep
theorem rowOwn : ownKnob Tryz.prog.godebug = none := by kernel_rfl
theorem rowLaid : laidOutB Tryz.prog = true := by kernel_rfl
theorem zBz : Tryz.prog.cellsOf 3 = 1 := by kernel_rfl
theorem cells9 : Tryz.prog.cellsOf 9 = 1 := by kernel_rfl
theorem zCh : Tryz.prog.cellsOf 99 = 2 := by kernel_rfl
theorem zCe : Tryz.prog.cellsOf 101 = 9 := by kernel_rfl
theorem zC5 : Tryz.prog.cellsOf 105 = 2 := by kernel_rfl
theorem zCd : Tryz.prog.cellsOf 26 = 5 := by kernel_rfl
theorem zEj {w : World} {a : Addr} {v : Value} (h : w.cell? a = some v) : a.block < w.heap.size := by
 rcases Nat.lt_or_ge a.block w.heap.size with hl | hl
 · exact hl
 · simp [World.cell?, Array.getElem?_eq_none hl] at h
variable {H : Type} {enc : TypeId × Value → H} {w : World} {base : Nat} {spare : Nat → Bool} {held : Bool}
theorem zJ6 {fuel : Nat} {cs : List Value} {x : DataW H × List MemPlace} (h : DataW.trod enc Tryz.prog w base spare held fuel 99 cs = some x) :
 ∃ s : So, cs = [.int .i64 s.i, .int .i64 s.w] := by
 obtain ⟨y0, y1, n, -, hl, h0, h1⟩ := trod_struct2 Tryz.underlying99 h; rw [zCh] at hl
 obtain ⟨c0, c1, rfl⟩ : ∃ c0 c1, cs = [c0, c1] := by
  match cs, hl with
  | [c0, c1], _ => exact ⟨c0, c1, rfl⟩
 simp only [zBz] at h0 h1; obtain ⟨a, e0, -, -⟩ := DataW.trod_int Tryz.underlying3 h0; obtain ⟨b, e1, -, -⟩ := DataW.trod_int Tryz.underlying3 h1; simp at e0 e1
 subst e0 e1
 exact ⟨⟨a, b⟩, rfl⟩
theorem zJ0 {fuel : Nat} {cs : List Value} {x : DataW H × List MemPlace} (h : DataW.trod enc Tryz.prog w base spare held fuel 105 cs = some x) :
 ∃ b : Bi, cs = [.int .i64 b.st, .int .i64 b.nd] ∧ zEo b.st := by
 obtain ⟨y0, y1, n, -, hl, h0, h1⟩ := trod_struct2 Tryz.underlying105 h; rw [zC5] at hl
 obtain ⟨c0, c1, rfl⟩ : ∃ c0 c1, cs = [c0, c1] := by
  match cs, hl with
  | [c0, c1], _ => exact ⟨c0, c1, rfl⟩
 simp only [zBz] at h0 h1; obtain ⟨a, e0, -, wa⟩ := DataW.trod_int Tryz.underlying3 h0; obtain ⟨b, e1, -, -⟩ := DataW.trod_int Tryz.underlying3 h1; simp at e0 e1
 subst e0 e1
 exact ⟨⟨a, b⟩, rfl, wa⟩
theorem zJ4 {fuel : Nat} {cs : List Value} {x : DataW H × List MemPlace} (h : DataW.trod enc Tryz.prog w base spare held fuel 101 cs = some x) :
 ∃ n : No, cs = [.int .i64 n.k, .int .i64 n.a, .int .i64 n.b, .int .i64 n.c, .int .i64 n.n, .int .i64 n.m, .int .i64 n.s.i, .int .i64 n.s.w, .string n.t] ∧ n.t.size ≤ 9223372036854775807 := by
 obtain ⟨xs, n, -, -, hl, hlen, hf⟩ := DataW.trod_struct Tryz.underlying101 h; rw [zCe] at hl
 obtain ⟨c0, c1, c2, c3, c4, c5, c6, c7, c8, rfl⟩ : ∃ c0 c1 c2 c3 c4 c5 c6 c7 c8, cs = [c0, c1, c2, c3, c4, c5, c6, c7, c8] := by
  match cs, hl with
  | [c0, c1, c2, c3, c4, c5, c6, c7, c8], _ => exact ⟨c0, c1, c2, c3, c4, c5, c6, c7, c8, rfl⟩
 have h0 : DataW.trod enc Tryz.prog w base spare held n 3 (([c0, c1, c2, c3, c4, c5, c6, c7, c8].drop 0).take (Tryz.prog.cellsOf 3)) = xs[0]? := hf 0 _ rfl; rw [zBz] at h0; have h1 : DataW.trod enc Tryz.prog w base spare held n 3 (([c0, c1, c2, c3, c4, c5, c6, c7, c8].drop 1).take (Tryz.prog.cellsOf 3)) = xs[1]? := hf 1 _ rfl; rw [zBz] at h1; have h2 : DataW.trod enc Tryz.prog w base spare held n 3 (([c0, c1, c2, c3, c4, c5, c6, c7, c8].drop 2).take (Tryz.prog.cellsOf 3)) = xs[2]? := hf 2 _ rfl; rw [zBz] at h2; have h3 : DataW.trod enc Tryz.prog w base spare held n 3 (([c0, c1, c2, c3, c4, c5, c6, c7, c8].drop 3).take (Tryz.prog.cellsOf 3)) = xs[3]? := hf 3 _ rfl; rw [zBz] at h3; have h4 : DataW.trod enc Tryz.prog w base spare held n 3 (([c0, c1, c2, c3, c4, c5, c6, c7, c8].drop 4).take (Tryz.prog.cellsOf 3)) = xs[4]? := hf 4 _ rfl; rw [zBz] at h4; have h5 : DataW.trod enc Tryz.prog w base spare held n 3 (([c0, c1, c2, c3, c4, c5, c6, c7, c8].drop 5).take (Tryz.prog.cellsOf 3)) = xs[5]? := hf 5 _ rfl; rw [zBz] at h5; have h6 : DataW.trod enc Tryz.prog w base spare held n 99 (([c0, c1, c2, c3, c4, c5, c6, c7, c8].drop 6).take (Tryz.prog.cellsOf 99)) = xs[6]? := hf 6 _ rfl; rw [zCh] at h6; have h7 : DataW.trod enc Tryz.prog w base spare held n 9 (([c0, c1, c2, c3, c4, c5, c6, c7, c8].drop 8).take (Tryz.prog.cellsOf 9)) = xs[7]? := hf 7 _ rfl; rw [cells9] at h7; match xs, hlen with
 | [y0, y1, y2, y3, y4, y5, y6, y7], _ =>
  obtain ⟨v0, e0, -, -⟩ := DataW.trod_int Tryz.underlying3 h0; obtain ⟨v1, e1, -, -⟩ := DataW.trod_int Tryz.underlying3 h1; obtain ⟨v2, e2, -, -⟩ := DataW.trod_int Tryz.underlying3 h2; obtain ⟨v3, e3, -, -⟩ := DataW.trod_int Tryz.underlying3 h3; obtain ⟨v4, e4, -, -⟩ := DataW.trod_int Tryz.underlying3 h4; obtain ⟨v5, e5, -, -⟩ := DataW.trod_int Tryz.underlying3 h5; obtain ⟨s, e6⟩ := zJ6 h6; obtain ⟨t, e7, -, w7⟩ := DataW.trod_string Tryz.underlying9 h7; simp at e0 e1 e2 e3 e4 e5 e6 e7
  obtain ⟨e6, e6'⟩ := e6; subst e0 e1 e2 e3 e4 e5 e6 e6' e7
  exact ⟨⟨v0, v1, v2, v3, v4, v5, s, t⟩, rfl, by unfold maxLen at w7; exact w7⟩
theorem zAm (b o j : Nat) : (⟨b, o, none⟩ : Addr).add j = ⟨b, o + j, none⟩ := by unfold Addr.add; split <;> simp_all
theorem zJ5 {fuel : Nat} {v : Value} {x : DataW H × List MemPlace} (h : DataW.trod enc Tryz.prog w base spare held fuel 22 [v] = some x) :
 ∃ (A : Option Addr) (cap : Nat) (l : List No), v = .slice A l.length cap ∧ zA8 w A l ∧ l.length ≤ 9223372036854775807 := by
 rcases open_slice Tryz.underlying22 h with ⟨e, -⟩ | ⟨a, len, cap, m, n, D, Pl, e, hb, hl, hm, hmm, -, hi⟩
 · injection e with e _
   exact ⟨none, 0, [], e, fun h => absurd h (by simp), by simp⟩
 · injection e with e _
   subst e; have hlm : len ≤ m := by rw [hmm]; split <;> omega
   obtain ⟨V, hV⟩ := choose_lt (n := len) (α := No) (p := fun i n => (∀ j, j < 9 → w.cell? ((a.add (i * 9)).add j) = ([.int .i64 n.k, .int .i64 n.a, .int .i64 n.b, .int .i64 n.c, .int .i64 n.n, .int .i64 n.m, .int .i64 n.s.i, .int .i64 n.s.w, .string n.t] : List Value)[j]?) ∧ n.t.size ≤ 9223372036854775807) (fun i hil => by
    obtain ⟨cs', h1, h2⟩ := hi i (by omega)
    rw [zCe] at h1; obtain ⟨nd, rfl, hs⟩ := zJ4 h2; obtain ⟨-, -, hc⟩ := World.cells?_some h1
    exact ⟨nd, fun j hj => hc j hj, hs⟩)
   refine ⟨some a, cap, (List.range len).map V, by simp, fun hpos => ?_, by simp; unfold maxLen at hm; omega⟩
   rw [List.length_map, List.length_range] at hpos; have h00 := (hV 0 hpos).1 0 (by omega)
   have hsp : a.spot = none := by
    have := World.cell?_spot h00
    obtain ⟨b, off, spot⟩ := a; unfold Addr.add at this; split at this <;> simp_all
   obtain ⟨b, off, spot⟩ := a; subst hsp
   have hlt : b < w.heap.size := by
    have := zEj h00; rwa [zAm, zAm] at this
   refine ⟨b, off, rfl, hlt, fun k hk => ?_⟩
   have hkl : k < len := by simpa using hk
   have hg : ((List.range len).map V)[k] = V k := by simp
   rw [hg]; obtain ⟨h1, h2⟩ := hV k hkl
   refine ⟨?_, h2⟩
   have key : ∀ j, j < 9 → w.cell? ⟨b, off + k * 9 + j, none⟩ = ([.int .i64 (V k).k, .int .i64 (V k).a, .int .i64 (V k).b, .int .i64 (V k).c, .int .i64 (V k).n, .int .i64 (V k).m, .int .i64 (V k).s.i, .int .i64 (V k).s.w, .string (V k).t] : List Value)[j]? := fun j hj => by
    have := h1 j hj; rwa [zAm, zAm] at this
   exact ⟨key 0 (by omega), key 1 (by omega), key 2 (by omega), key 3 (by omega), key 4 (by omega), key 5 (by omega), key 6 (by omega), key 7 (by omega), key 8 (by omega)⟩
theorem zJ1 {fuel : Nat} {v : Value} {x : DataW H × List MemPlace} (h : DataW.trod enc Tryz.prog w base spare held fuel 23 [v] = some x) :
 ∃ (A : Option Addr) (cap : Nat) (l : List Bi), v = .slice A l.length cap ∧ zA0 w A l ∧ l.length ≤ 9223372036854775807 ∧ ∀ b ∈ l, zEo b.st := by
 rcases open_slice Tryz.underlying23 h with ⟨e, -⟩ | ⟨a, len, cap, m, n, D, Pl, e, hb, hl, hm, hmm, -, hi⟩
 · injection e with e _
   exact ⟨none, 0, [], e, fun h => absurd h (by simp), by simp, fun b hb => by cases hb⟩
 · injection e with e _
   subst e; have hlm : len ≤ m := by rw [hmm]; split <;> omega
   obtain ⟨V, hV⟩ := choose_lt (n := len) (α := Bi) (p := fun i n => (∀ j, j < 2 → w.cell? ((a.add (i * 2)).add j) = ([.int .i64 n.st, .int .i64 n.nd] : List Value)[j]?) ∧ zEo n.st) (fun i hil => by
    obtain ⟨cs', h1, h2⟩ := hi i (by omega)
    rw [zC5] at h1; obtain ⟨nd, rfl, hs⟩ := zJ0 h2; obtain ⟨-, -, hc⟩ := World.cells?_some h1
    exact ⟨nd, fun j hj => hc j hj, hs⟩)
   refine ⟨some a, cap, (List.range len).map V, by simp, fun hpos => ?_, by simp; unfold maxLen at hm; omega, fun b hb => ?_⟩
   · rw [List.length_map, List.length_range] at hpos
     have h00 := (hV 0 hpos).1 0 (by omega)
     have hsp : a.spot = none := by
      have := World.cell?_spot h00
      obtain ⟨b, off, spot⟩ := a; unfold Addr.add at this; split at this <;> simp_all
     obtain ⟨b, off, spot⟩ := a; subst hsp
     have hlt : b < w.heap.size := by
      have := zEj h00; rwa [zAm, zAm] at this
     refine ⟨b, off, rfl, hlt, fun k hk => ?_⟩
     have hkl : k < len := by simpa using hk
     have hg : ((List.range len).map V)[k] = V k := by simp
     rw [hg]
     have key : ∀ j, j < 2 → w.cell? ⟨b, off + k * 2 + j, none⟩ = ([.int .i64 (V k).st, .int .i64 (V k).nd] : List Value)[j]? := fun j hj => by
      have := (hV k hkl).1 j hj; rwa [zAm, zAm] at this
     exact ⟨key 0 (by omega), key 1 (by omega)⟩
   · obtain ⟨i, hi1, rfl⟩ := List.mem_map.1 hb
     exact (hV i (List.mem_range.1 hi1)).2
theorem zJ2 {fuel : Nat} {v : Value} {x : DataW H × List MemPlace} (h : DataW.trod enc Tryz.prog w base spare held fuel 24 [v] = some x) :
 ∃ (A : Option Addr) (cap : Nat) (l : List Int), v = .slice A l.length cap ∧ IArg w A l ∧ l.length ≤ 9223372036854775807 := by
 rcases open_slice Tryz.underlying24 h with ⟨e, -⟩ | ⟨a, len, cap, m, n, D, Pl, e, hb, hl, hm, hmm, -, hi⟩
 · injection e with e _
   exact ⟨none, 0, [], e, fun h => absurd h (by simp), by simp⟩
 · injection e with e _
   subst e; have hlm : len ≤ m := by rw [hmm]; split <;> omega
   obtain ⟨V, hV⟩ := choose_lt (n := len) (α := Int) (p := fun i n => w.cell? ((a.add i).add 0) = some (.int .i64 n)) (fun i hil => by
    obtain ⟨cs', h1, h2⟩ := hi i (by omega)
    rw [zBz, Nat.mul_one] at h1; obtain ⟨z, rfl, -, -⟩ := DataW.trod_int Tryz.underlying3 h2; obtain ⟨-, -, hc⟩ := World.cells?_some h1
    exact ⟨z, hc 0 (by omega)⟩)
   refine ⟨some a, cap, (List.range len).map V, by simp, fun hpos => ?_, by simp; unfold maxLen at hm; omega⟩
   rw [List.length_map, List.length_range] at hpos; have h00 := hV 0 hpos
   have hsp : a.spot = none := by
    have := World.cell?_spot h00
    obtain ⟨b, off, spot⟩ := a; unfold Addr.add at this; split at this <;> simp_all
   obtain ⟨b, off, spot⟩ := a; subst hsp
   have hlt : b < w.heap.size := by
    have := zEj h00; rwa [zAm, zAm] at this
   refine ⟨b, off, rfl, hlt, fun k hk => ?_⟩
   have hkl : k < len := by simpa using hk
   have hg : ((List.range len).map V)[k] = V k := by simp
   rw [hg]; have := hV k hkl; rwa [zAm, zAm, Nat.add_zero] at this
theorem zJ3 {r : Reach} {b0 : Nat} {v : Value} {d : DataW H} {p : List MemPlace} (hv : Value.okWide Tryz.prog w r b0 26 v) (h : DataW.Trod enc Tryz.prog w base spare held 26 v d p) :
 ∃ (A0 A1 A2 A3 A4 : Option Addr) (c0 c1 c2 c3 c4 : Nat) (m : Mo), v = .agg #[.slice A0 m.ns.length c0, .slice A1 m.ins.length c1, .slice A2 m.nxs.length c2, .slice A3 m.bads.length c3, .slice A4 m.hols.length c4] ∧ MArg w A0 A1 A2 A3 A4 m := by
 obtain ⟨cs, rfl, hsz⟩ := okWide_struct Tryz.underlying26 hv; rw [zCd] at hsz; obtain ⟨fuel, hf0⟩ := h; obtain ⟨xs, n, -, -, -, hlen, hf⟩ := DataW.trod_struct Tryz.underlying26 hf0
 obtain ⟨c0, c1, c2, c3, c4, rfl⟩ : ∃ c0 c1 c2 c3 c4, cs = #[c0, c1, c2, c3, c4] := by
  obtain ⟨l⟩ := cs; match l, hsz with
  | [c0, c1, c2, c3, c4], _ => exact ⟨c0, c1, c2, c3, c4, rfl⟩
 have k0 : Tryz.prog.cellsOf 22 = 1 := by kernel_rfl
 have k1 : Tryz.prog.cellsOf 23 = 1 := by kernel_rfl
 have k2 : Tryz.prog.cellsOf 24 = 1 := by kernel_rfl
 have h0 : DataW.trod enc Tryz.prog w base spare held n 22 (([c0, c1, c2, c3, c4].drop 0).take (Tryz.prog.cellsOf 22)) = xs[0]? := hf 0 _ rfl; rw [k0] at h0; have h1 : DataW.trod enc Tryz.prog w base spare held n 23 (([c0, c1, c2, c3, c4].drop 1).take (Tryz.prog.cellsOf 23)) = xs[1]? := hf 1 _ rfl; rw [k1] at h1; have h2 : DataW.trod enc Tryz.prog w base spare held n 23 (([c0, c1, c2, c3, c4].drop 2).take (Tryz.prog.cellsOf 23)) = xs[2]? := hf 2 _ rfl; rw [k1] at h2; have h3 : DataW.trod enc Tryz.prog w base spare held n 24 (([c0, c1, c2, c3, c4].drop 3).take (Tryz.prog.cellsOf 24)) = xs[3]? := hf 3 _ rfl; rw [k2] at h3; have h4 : DataW.trod enc Tryz.prog w base spare held n 24 (([c0, c1, c2, c3, c4].drop 4).take (Tryz.prog.cellsOf 24)) = xs[4]? := hf 4 _ rfl; rw [k2] at h4; match xs, hlen with
 | [y0, y1, y2, y3, y4], _ =>
  obtain ⟨A0, d0, l0, e0, a0, n0⟩ := zJ5 h0; obtain ⟨A1, d1, l1, e1, a1, n1, i1⟩ := zJ1 h1; obtain ⟨A2, d2, l2, e2, a2, n2, i2⟩ := zJ1 h2; obtain ⟨A3, d3, l3, e3, a3, n3⟩ := zJ2 h3; obtain ⟨A4, d4, l4, e4, a4, n4⟩ := zJ2 h4
  exact ⟨A0, A1, A2, A3, A4, d0, d1, d2, d3, d4, ⟨l0, l1, l2, l3, l4⟩, by simp only [e0, e1, e2, e3, e4], ⟨a0, a1, a2, a3, a4, ⟨n0, n1, n2, n3, n4⟩, i1, i2⟩⟩
end Go.Proofs.YtmolbnghobfmoaaGreat
