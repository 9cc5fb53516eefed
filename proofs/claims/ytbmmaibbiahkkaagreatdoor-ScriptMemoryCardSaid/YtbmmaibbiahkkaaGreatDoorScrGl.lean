/- The reference's printing of numbers. Conditions: none. -/
import Derived.Test.YtbmmaibbiahkkaaGreatDoorProg
import Derived.Test.YtbmmaibbiahkkaaGreatDoorScrW
import Derived.Test.YtbmmaibbiahkkaaGreatDoorScrQ
import Derived.Test.YtbmmaibbiahkkaaGreatDoorSxSi
import Derived.Test.YtbmmaibbiahkkaaGreatDoorScrC
import Derived.Test.YtbmmaibbiahkkaaGreatDoorRows
import Derived.LaidLaws
import Derived.LaidMore
import Derived.Lay
import Derived.MakeChecks
import Derived.Lib.LaidTab
namespace Go.Proofs.YtbmmaibbiahkkaaGreatDoor
open Go.Sx
set_option maxRecDepth 100000
set_option linter.unusedVariables false
set_option linter.unusedSimpArgs false
theorem own : ownKnob Tryz.prog.godebug = none := by kernel_rfl
abbrev Iy : List (String × DataW Unit) := Rows.scriptReadsRow.laid
theorem O9 (os : Os) (args : Array Value) : laidMetH Tryz.prog Iy ((World.laidAll Tryz.prog os Iy).forCall (fun _ _ => 0) ⟨#[], args, []⟩).memory := by
 rw [MakeChecks.laidMetH_plain _ _ _ (by kernel_rfl)]
 exact laidMet_laidAll _ (by kernel_rfl) (by kernel_rfl)
theorem Pb {P : Program} {t : TypeId} (h : (match P.underlying t with | some (.interface _) => true | _ => false) = true) : ∃ ms, P.underlying t = some (.interface ms) := by
 split at h
 ·exact ⟨_, by assumption⟩
 ·cases h
theorem P0 {W : World} (h : laidMetH Tryz.prog Iy W) : Glob W := by
 rw [MakeChecks.laidMetH_plain _ _ _ (by kernel_rfl)] at h
 obtain ⟨ps, ⟨g0, t0, cs0, f0, p0, q0, hg0, ht0, hv0, hd0, ⟨g1, t1, cs1, f1, p1, q1, hg1, ht1, hv1, hd1, ⟨g2, t2, cs2, f2, p2, q2, hg2, ht2, hv2, hd2, ⟨g3, t3, cs3, f3, p3, q3, hg3, ht3, hv3, hd3, ⟨g4, t4, cs4, f4, p4, q4, hg4, ht4, hv4, hd4, ⟨g5, t5, cs5, f5, p5, q5, hg5, ht5, hv5, hd5, -⟩, -⟩, -⟩, -⟩, -⟩, -⟩, -, -⟩ := h
 clear hd0 hv0 hd3 hv3
 obtain rfl := Option.some.inj ((show Tryz.prog.globalNamed "math/bits.deBruijn64tab" = some 8 by kernel_rfl).symm.trans hg1)
 obtain rfl := Option.some.inj ((show (Tryz.prog.globals[8]?).map (·.type) = some 182 by kernel_rfl).symm.trans ht1)
 obtain rfl := Option.some.inj ((show Tryz.prog.globalNamed "internal/strconv.uint64pow10" = some 1 by kernel_rfl).symm.trans hg2)
 obtain rfl := Option.some.inj ((show (Tryz.prog.globals[1]?).map (·.type) = some 150 by kernel_rfl).symm.trans ht2)
 obtain rfl := Option.some.inj ((show Tryz.prog.globalNamed "strconv.ErrRange" = some 6 by kernel_rfl).symm.trans hg4)
 obtain rfl := Option.some.inj ((show (Tryz.prog.globals[6]?).map (·.type) = some 76 by kernel_rfl).symm.trans ht4)
 obtain rfl := Option.some.inj ((show Tryz.prog.globalNamed "strconv.ErrSyntax" = some 5 by kernel_rfl).symm.trans hg5)
 obtain rfl := Option.some.inj ((show (Tryz.prog.globals[5]?).map (·.type) = some 76 by kernel_rfl).symm.trans ht5)
 obtain ⟨ms, hu⟩ : ∃ ms, Tryz.prog.underlying 76 = some (.interface ms) := Pb (by kernel_rfl)
 obtain ⟨-, u4, v4, e4, -, -⟩ := iface_of_trod hu hd4
 obtain ⟨-, u5, v5, e5, -, -⟩ := iface_of_trod hu hd5
 have hp := Lib.cells_of_tab (k := .u64) (zs := Lib.pow10Tab) (n := 20) (e := 41) (by kernel_rfl) (by kernel_rfl) (by kernel_rfl) (by kernel_rfl) hd2
 have hb := Lib.cells_of_tab (k := .u8) (zs := [0, 1, 56, 2, 57, 49, 28, 3, 61, 58, 42, 50, 38, 29, 17, 4, 62, 47, 59, 36, 45, 43, 51, 22, 53, 39, 33, 30, 24, 18, 12, 5, 63, 55, 48, 27, 60, 41, 37, 16, 46, 35, 44, 21, 52, 32, 23, 11, 54, 26, 40, 15, 34, 20, 31, 10, 25, 14, 19, 9, 13, 8, 7, 6]) (n := 64) (e := 5) (by kernel_rfl) (by kernel_rfl) (by kernel_rfl) (by kernel_rfl) hd1
 refine ⟨?_, ⟨u5, v5, ?_⟩, ⟨u4, v4, ?_⟩, ?_⟩
 ·unfold Lib.TabIs; rw [hv2, ← hp]
 ·rw [World.var?_cell hg5 hv5 0, ← Array.getElem?_toList, e5]; rfl
 ·rw [World.var?_cell hg4 hv4 0, ← Array.getElem?_toList, e4]; rfl
 ·rw [World.var?_cell hg1 hv1 15, ← Array.getElem?_toList, hb]; rfl
end Go.Proofs.YtbmmaibbiahkkaaGreatDoor
