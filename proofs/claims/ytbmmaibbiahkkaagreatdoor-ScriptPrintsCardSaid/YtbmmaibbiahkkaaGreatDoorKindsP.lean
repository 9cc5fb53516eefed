/- What the listed variables read as, and a world where they do. Conditions: none. -/
import Derived.Test.YtbmmaibbiahkkaaGreatDoorProg
import Derived.Test.YtbmmaibbiahkkaaGreatDoorScrC
import Derived.Test.YtbmmaibbiahkkaaGreatDoorRows
import Derived.LaidLaws
import Derived.LaidMore
import Derived.Lay
import Derived.MakeChecks
import Derived.Lib.LaidTab
import Derived.Test.YtbmmaibbiahkkaaGreatDoorScrQ
import Derived.Test.YtbmmaibbiahkkaaGreatDoorSxX
namespace Go.Proofs.YtbmmaibbiahkkaaGreatDoor
open Go.Sx
set_option maxRecDepth 100000
set_option linter.unusedVariables false
set_option linter.unusedSimpArgs false
theorem own : ownKnob Tryz.prog.godebug = none := by kernel_rfl
abbrev Ip : List (String × DataW Unit) := Rows.scriptReadsRow.laid
theorem Oe (os : Os) (args : Array Value) : laidMetH Tryz.prog Ip ((World.laidAll Tryz.prog os Ip).forCall (fun _ _ => 0) ⟨#[], args, []⟩).memory := by
 rw [MakeChecks.laidMetH_plain _ _ _ (by kernel_rfl)]
 exact laidMet_laidAll _ (by kernel_rfl) (by kernel_rfl)
theorem Of {P : Program} {t : TypeId} (h : (match P.underlying t with | some (.interface _) => true | _ => false) = true) : ∃ ms, P.underlying t = some (.interface ms) := by
 split at h
 ·exact ⟨_, by assumption⟩
 ·cases h
theorem O6 {W : World} (h : laidMetH Tryz.prog Ip W) : Glob W := by
 rw [MakeChecks.laidMetH_plain _ _ _ (by kernel_rfl)] at h
 obtain ⟨ps, ⟨g0, t0, cs0, f0, p0, q0, hg0, ht0, hv0, hd0, ⟨g1, t1, cs1, f1, p1, q1, hg1, ht1, hv1, hd1, ⟨g2, t2, cs2, f2, p2, q2, hg2, ht2, hv2, hd2, ⟨g3, t3, cs3, f3, p3, q3, hg3, ht3, hv3, hd3, ⟨g4, t4, cs4, f4, p4, q4, hg4, ht4, hv4, hd4, ⟨g5, t5, cs5, f5, p5, q5, hg5, ht5, hv5, hd5, -⟩, -⟩, -⟩, -⟩, -⟩, -⟩, -, -⟩ := h
 clear hd0 hv0 hd3 hv3
 obtain rfl := Option.some.inj ((show Tryz.prog.globalNamed "math/bits.deBruijn64tab" = some 8 by kernel_rfl).symm.trans hg1)
 obtain rfl := Option.some.inj ((show (Tryz.prog.globals[8]?).map (·.type) = some 182 by kernel_rfl).symm.trans ht1)
 obtain rfl := Option.some.inj ((show Tryz.prog.globalNamed "internal/strconv.uint64pow10" = some 1 by kernel_rfl).symm.trans hg2)
 obtain rfl := Option.some.inj ((show (Tryz.prog.globals[1]?).map (·.type) = some 150 by kernel_rfl).symm.trans ht2)
 obtain rfl := Option.some.inj ((show Tryz.prog.globalNamed "strconv.ErrRange" = some 6 by kernel_rfl).symm.trans hg4)
 obtain rfl := Option.some.inj ((show (Tryz.prog.globals[6]?).map (·.type) = some 76 by kernel_rfl).symm.trans ht4)
 obtain rfl := Option.some.inj ((show Tryz.prog.globalNamed "strconv.ErrSyntax" = some 5 by kernel_rfl).symm.trans hg5)
 obtain rfl := Option.some.inj ((show (Tryz.prog.globals[5]?).map (·.type) = some 76 by kernel_rfl).symm.trans ht5)
 obtain ⟨ms, hu⟩ : ∃ ms, Tryz.prog.underlying 76 = some (.interface ms) := Of (by kernel_rfl)
 obtain ⟨-, u4, v4, e4, -, -⟩ := iface_of_trod hu hd4
 obtain ⟨-, u5, v5, e5, -, -⟩ := iface_of_trod hu hd5
 have hp := Lib.cells_of_tab (k := .u64) (zs := Lib.pow10Tab) (n := 20) (e := 41) (by kernel_rfl) (by kernel_rfl) (by kernel_rfl) (by kernel_rfl) hd2
 have hb := Lib.cells_of_tab (k := .u8) (zs := [0, 1, 56, 2, 57, 49, 28, 3, 61, 58, 42, 50, 38, 29, 17, 4, 62, 47, 59, 36, 45, 43, 51, 22, 53, 39, 33, 30, 24, 18, 12, 5, 63, 55, 48, 27, 60, 41, 37, 16, 46, 35, 44, 21, 52, 32, 23, 11, 54, 26, 40, 15, 34, 20, 31, 10, 25, 14, 19, 9, 13, 8, 7, 6]) (n := 64) (e := 5) (by kernel_rfl) (by kernel_rfl) (by kernel_rfl) (by kernel_rfl) hd1
 refine ⟨?_, ⟨u5, v5, ?_⟩, ⟨u4, v4, ?_⟩, ?_⟩
 ·unfold Lib.TabIs; rw [hv2, ← hp]
 ·rw [World.var?_cell hg5 hv5 0, ← Array.getElem?_toList, e5]; rfl
 ·rw [World.var?_cell hg4 hv4 0, ← Array.getElem?_toList, e4]; rfl
 ·rw [World.var?_cell hg1 hv1 15, ← Array.getElem?_toList, hb]; rfl
theorem Mx : Et Tryz.prog 8 49 = some [.int .i64, .int .i64, .float .f64] := by kernel_rfl
theorem Kz : Et Tryz.prog 8 46 = some [.int .i64, .int .i64, .int .i64, .int .u64, .float .f64] := by kernel_rfl
theorem K0 : Et Tryz.prog 8 25 = some [.int .i64, .int .i64, .int .i64, .sub 23, .int .i64, .int .i64, .int .i64, .int .i64] := by kernel_rfl
structure Lq (w : World) (p : ScrP) (o : Sl3) : Prop where
 fits : p.Fits
 ops : Reads w Enc.op3 o p.ops
 len : p.ops.length ≤ maxLen
 size : p.ops.length * 24 ≤ 140737488351232
section
variable {H : Type} {enc : TypeId × Value → H}
theorem Pv {S : TypeId → Value → Prop} (cs : List Value) (h : Iw S [.int .i64, .int .i64, .float .f64] cs) : ∃ x : OpV, cs = Enc.op3.f x ∧ x.Fits := by
 obtain ⟨hl, h⟩ := h
 match cs, hl with
 | [c0, c1, c2], _ =>
  obtain ⟨_, e0, n0, rfl, w0⟩ := h 0 _ rfl
  obtain ⟨_, e1, n1, rfl, w1⟩ := h 1 _ rfl
  obtain ⟨_, e2, n2, rfl, w2⟩ := h 2 _ rfl
  simp at e0 e1 e2; subst e0; subst e1; subst e2
  refine ⟨⟨n0, n1, n2⟩, rfl, ?_⟩
  simp [Lit.wf, IntKind.min, IntKind.max, IntKind.signed, IntKind.bits] at w0 w1 w2
  refine ⟨⟨?_, ?_⟩, ⟨?_, ?_⟩, ?_⟩ <;> simp only <;> omega
theorem Og {S : TypeId → Value → Prop} (cs : List Value) (h : Iw S [.int .i64, .int .i64, .int .i64, .int .u64, .float .f64] cs) : ∃ x : Ai, cs = Enc.stepE.f x ∧ x.Fits := by
 obtain ⟨hl, h⟩ := h
 match cs, hl with
 | [c0, c1, c2, c3, c4], _ =>
  obtain ⟨_, e0, n0, rfl, w0⟩ := h 0 _ rfl
  obtain ⟨_, e1, n1, rfl, w1⟩ := h 1 _ rfl
  obtain ⟨_, e2, n2, rfl, w2⟩ := h 2 _ rfl
  obtain ⟨_, e3, n3, rfl, w3⟩ := h 3 _ rfl
  obtain ⟨_, e4, n4, rfl, w4⟩ := h 4 _ rfl
  simp at e0 e1 e2 e3 e4; subst e0; subst e1; subst e2; subst e3; subst e4
  refine ⟨⟨n0, n1, n2, ⟨n3, n4⟩⟩, rfl, ?_⟩
  simp [Lit.wf, IntKind.min, IntKind.max, IntKind.signed, IntKind.bits] at w0 w1 w2 w3 w4
  refine ⟨⟨?_, ?_⟩, ⟨?_, ?_⟩, ⟨?_, ?_⟩, ⟨?_, ?_⟩, ?_⟩ <;> simp only [u64m] <;> omega
theorem Oh {w : World} {spare : Nat → Bool} {held : Bool} (cs : List Value) (h : Iw (Sub enc Tryz.prog w spare held) [.int .i64, .int .i64, .int .i64, .sub 23, .int .i64, .int .i64, .int .i64, .int .i64] cs) : ∃ (p : ScrP) (o : Sl3), cs = (Jc p o).cells.toList ∧ Lq w p o := by
 obtain ⟨hl, h⟩ := h
 match cs, hl with
 | [c0, c1, c2, c3, c4, c5, c6, c7], _ =>
  obtain ⟨_, e0, n0, rfl, w0⟩ := h 0 _ rfl
  obtain ⟨_, e1, n1, rfl, w1⟩ := h 1 _ rfl
  obtain ⟨_, e2, n2, rfl, w2⟩ := h 2 _ rfl
  obtain ⟨v3, e3, h3⟩ := h 3 _ rfl
  obtain ⟨_, e4, n4, rfl, w4⟩ := h 4 _ rfl
  obtain ⟨_, e5, n5, rfl, w5⟩ := h 5 _ rfl
  obtain ⟨_, e6, n6, rfl, w6⟩ := h 6 _ rfl
  obtain ⟨_, e7, n7, rfl, w7⟩ := h 7 _ rfl
  simp at e0 e1 e2 e3 e4 e5 e6 e7
  subst e0; subst e1; subst e2; subst e3; subst e4; subst e5; subst e6; subst e7
  obtain ⟨a, n, c, l, rfl, hr, hf, hlen, hb⟩ := J8 (show Sub enc Tryz.prog w spare held 23 c3 from h3) (by kernel_rfl) Mx (by kernel_rfl) (B := 24) (by kernel_rfl) (E := Enc.op3) rfl Pv
  refine ⟨⟨n0, n1, n2, n4, n5, n6, n7, l⟩, (a, n, c), rfl, ⟨⟨fun z hz => ?_, hf⟩, hr, hlen, hb⟩⟩
  simp [Lit.wf, IntKind.min, IntKind.max, IntKind.signed, IntKind.bits] at w0 w1 w2 w4 w5 w6 w7
  simp only [List.mem_cons, List.mem_nil_iff, or_false] at hz
  omega
open Go.WideShapes Go.ChangeShapes Go.RowKit in
theorem My {ts : List TypeId} {ds : List (DataW H)} (hz : (DataW.weightsEach Tryz.prog ts ds).all (· ≤ reachBytes) = true) {j : Nat} (htj : ts[j]? = some 25) {dt : DataW H} (hdj : ds[j]? = some dt) {w : World} {spare : Nat → Bool} {held : Bool} {v : Value} {ps : List MemPlace}
  {r : Reach} {b0 : Nat} (hval : Value.okWide Tryz.prog w r b0 25 v) (h : DataW.Trod enc Tryz.prog w 0 spare held 25 v dt ps) : ∃ (p : ScrP) (o : Sl3), v = Jc p o ∧ Lq w p o := by
 have ht' : Es Tryz.prog 25 = true := by kernel_rfl
 obtain ⟨fs, hf⟩ := Es.elim ht'
 obtain ⟨cs, rfl, -⟩ := okWide_struct hf hval
 obtain ⟨fuel, h⟩ := h
 obtain ⟨p, o, hx, ho⟩ := Oh _ (D7 8 25 _ K0 fuel _ _ h (L0 hz htj hdj))
 refine ⟨p, o, ?_, ho⟩
 have e : cs = #[Value.int .i64 p.n0, .int .i64 p.n1, .int .i64 p.n2, .slice o.1 o.2.1 o.2.2, .int .i64 p.n3, .int .i64 p.n4, .int .i64 p.n5, .int .i64 p.n6] := by
  have : cs.toList = _ := hx
  exact Array.toList_inj.1 this
 rw [e]
end
end Go.Proofs.YtbmmaibbiahkkaaGreatDoor
