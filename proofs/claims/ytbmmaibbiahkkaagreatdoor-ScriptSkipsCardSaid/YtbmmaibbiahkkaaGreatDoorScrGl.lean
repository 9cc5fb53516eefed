/- The reference's printing of numbers. Conditions: none. -/
import Derived.Test.YtbmmaibbiahkkaaGreatDoorProg
import Derived.Test.YtbmmaibbiahkkaaGreatDoorScrW
import Derived.Test.YtbmmaibbiahkkaaGreatDoorScrQ
import Derived.Test.YtbmmaibbiahkkaaGreatDoorSxSi
import Derived.Test.YtbmmaibbiahkkaaGreatDoorScrC
import Derived.Test.YtbmmaibbiahkkaaGreatDoorRows
import Derived.LaidLaws
import Derived.LaidMore
import Derived.Lay
import Derived.MakeChecks
import Derived.Lib.LaidTab
namespace Go.Proofs.YtbmmaibbiahkkaaGreatDoor
open Go.Sx
set_option maxRecDepth 100000
set_option linter.unusedVariables false
set_option linter.unusedSimpArgs false
abbrev Buf (w : World) (B : Nat) (a : Option Addr) (n c : Nat) (t : L8) := Own w B 5 (Enc.int .u8) a n c (ints t)
theorem Kr {w0 w : World} {a : Option Addr} {n c : Nat} {t s : L8} {k : Value → World → Prop} (h : Buf w w0.heap.size a n c t) (hg : Grew w0 w) (hl : t.length + s.length ≤ 1000000000)
  (hk : ∀ a' n' c' w', Buf w' w0.heap.size a' n' c' (t ++ s) → Grew w0 w' → Upd (Blk a) w w' → k (.slice a' n' c') w') : SemW Tryz.prog (Builtin.append_ #[39, 9] 39 #[.slice a n c, .string (bs s)]) k w := by
 refine Ir uBy uSt iU8 h hg.size (by simp; omega) ?_
 rintro v w' ⟨a', n', c', rfl, ho, hu, hb⟩
 rw [← K7] at ho
 exact hk _ _ _ _ ho (hg.then_own hu fun b hb => (h.blk hb).1) hu
theorem Gv {w0 w w1 : World} {a : Option Addr} {n c b : Nat} {t : L8} {ch : UInt8} {i : Int} {k : Value → World → Prop} (h : Buf w w0.heap.size a n c t) (hal : Ar w w1 b (.cells #[.int .u8 i] 5)) (hi : i = (ch.toNat : Int)) (hg : Grew w0 w) (hl : t.length + 1 ≤ 1000000000)
  (hk : ∀ a' n' c' w', Buf w' w0.heap.size a' n' c' (t ++ [ch]) → Grew w0 w' → Upd (Blk a) w w' → k (.slice a' n' c') w') : SemW Tryz.prog (Builtin.append_ #[39, 39] 39 #[.slice a n c, .slice (some ⟨b, 0, none⟩) 1 1]) k w1 := by
 subst hi
 refine Ec (l2 := [(ch.toNat : Int)]) elBy h hal rfl rfl hg.size (by simp [maxLen]; omega) (by simp; omega) ?_
 rintro v w' ⟨a', n', c', rfl, ho, hu, hb⟩
 have e : ints t ++ [(ch.toNat : Int)] = ints (t ++ [ch]) := by simp [ints]
 rw [e] at ho
 exact hk _ _ _ _ ho (hg.then_own hu fun b hb => (h.blk hb).1) hu
theorem own : ownKnob Tryz.prog.godebug = none := by kernel_rfl
abbrev I9 : List (String × DataW Unit) := Rows.scriptReadsRow.laid
theorem Po (os : Os) (args : Array Value) : laidMetH Tryz.prog I9 ((World.laidAll Tryz.prog os I9).forCall (fun _ _ => 0) ⟨#[], args, []⟩).memory := by
 rw [MakeChecks.laidMetH_plain _ _ _ (by kernel_rfl)]
 exact laidMet_laidAll _ (by kernel_rfl) (by kernel_rfl)
theorem Pp {P : Program} {t : TypeId} (h : (match P.underlying t with | some (.interface _) => true | _ => false) = true) : ∃ ms, P.underlying t = some (.interface ms) := by
 split at h
 ·exact ⟨_, by assumption⟩
 ·cases h
theorem Qe {W : World} (h : laidMetH Tryz.prog I9 W) : Glob W := by
 rw [MakeChecks.laidMetH_plain _ _ _ (by kernel_rfl)] at h
 obtain ⟨ps, ⟨g0, t0, cs0, f0, p0, q0, hg0, ht0, hv0, hd0, ⟨g1, t1, cs1, f1, p1, q1, hg1, ht1, hv1, hd1, ⟨g2, t2, cs2, f2, p2, q2, hg2, ht2, hv2, hd2, ⟨g3, t3, cs3, f3, p3, q3, hg3, ht3, hv3, hd3, ⟨g4, t4, cs4, f4, p4, q4, hg4, ht4, hv4, hd4, ⟨g5, t5, cs5, f5, p5, q5, hg5, ht5, hv5, hd5, -⟩, -⟩, -⟩, -⟩, -⟩, -⟩, -, -⟩ := h
 clear hd0 hv0 hd3 hv3
 obtain rfl := Option.some.inj ((show Tryz.prog.globalNamed "math/bits.deBruijn64tab" = some 8 by kernel_rfl).symm.trans hg1)
 obtain rfl := Option.some.inj ((show (Tryz.prog.globals[8]?).map (·.type) = some 182 by kernel_rfl).symm.trans ht1)
 obtain rfl := Option.some.inj ((show Tryz.prog.globalNamed "internal/strconv.uint64pow10" = some 1 by kernel_rfl).symm.trans hg2)
 obtain rfl := Option.some.inj ((show (Tryz.prog.globals[1]?).map (·.type) = some 150 by kernel_rfl).symm.trans ht2)
 obtain rfl := Option.some.inj ((show Tryz.prog.globalNamed "strconv.ErrRange" = some 6 by kernel_rfl).symm.trans hg4)
 obtain rfl := Option.some.inj ((show (Tryz.prog.globals[6]?).map (·.type) = some 76 by kernel_rfl).symm.trans ht4)
 obtain rfl := Option.some.inj ((show Tryz.prog.globalNamed "strconv.ErrSyntax" = some 5 by kernel_rfl).symm.trans hg5)
 obtain rfl := Option.some.inj ((show (Tryz.prog.globals[5]?).map (·.type) = some 76 by kernel_rfl).symm.trans ht5)
 obtain ⟨ms, hu⟩ : ∃ ms, Tryz.prog.underlying 76 = some (.interface ms) := Pp (by kernel_rfl)
 obtain ⟨-, u4, v4, e4, -, -⟩ := iface_of_trod hu hd4
 obtain ⟨-, u5, v5, e5, -, -⟩ := iface_of_trod hu hd5
 have hp := Lib.cells_of_tab (k := .u64) (zs := Lib.pow10Tab) (n := 20) (e := 41) (by kernel_rfl) (by kernel_rfl) (by kernel_rfl) (by kernel_rfl) hd2
 have hb := Lib.cells_of_tab (k := .u8) (zs := [0, 1, 56, 2, 57, 49, 28, 3, 61, 58, 42, 50, 38, 29, 17, 4, 62, 47, 59, 36, 45, 43, 51, 22, 53, 39, 33, 30, 24, 18, 12, 5, 63, 55, 48, 27, 60, 41, 37, 16, 46, 35, 44, 21, 52, 32, 23, 11, 54, 26, 40, 15, 34, 20, 31, 10, 25, 14, 19, 9, 13, 8, 7, 6]) (n := 64) (e := 5) (by kernel_rfl) (by kernel_rfl) (by kernel_rfl) (by kernel_rfl) hd1
 refine ⟨?_, ⟨u5, v5, ?_⟩, ⟨u4, v4, ?_⟩, ?_⟩
 ·unfold Lib.TabIs; rw [hv2, ← hp]
 ·rw [World.var?_cell hg5 hv5 0, ← Array.getElem?_toList, e5]; rfl
 ·rw [World.var?_cell hg4 hv4 0, ← Array.getElem?_toList, e4]; rfl
 ·rw [World.var?_cell hg1 hv1 15, ← Array.getElem?_toList, hb]; rfl
end Go.Proofs.YtbmmaibbiahkkaaGreatDoor
