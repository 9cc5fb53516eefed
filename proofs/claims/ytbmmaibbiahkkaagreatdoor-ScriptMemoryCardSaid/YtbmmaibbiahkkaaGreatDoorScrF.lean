/- A script's words read: what is given up, numbers, keys, floats. Conditions: none. -/
import Derived.Test.YtbmmaibbiahkkaaGreatDoorProg
import Derived.Test.YtbmmaibbiahkkaaGreatDoorScrE
namespace Go.Proofs.YtbmmaibbiahkkaaGreatDoor
open Go.Sx
set_option maxRecDepth 100000
set_option linter.unusedVariables false
set_option linter.unusedSimpArgs false
def sx21 (ok : Bool) (e : Int) (R : Ending → World → Prop) (w : World) : Prop :=
 ifB (!ok) (R (.panicked (C8 (.iface 51 (.agg #[.int .i64 e])))) w) (R (.returned (.tuple #[])) w)
theorem sx21.ok {ok : Bool} {e : Int} {R : Ending → World → Prop} {w : World} (h : sx21 ok e R w) : Aa Tryz.prog 21 [.bool ok, .int .i64 e] w R :=
 okOf {} mix Tryz.func21 (by kernel_rfl) (by kernel_rfl) (by kernel_rfl) h
def sx42 (s : ByteArray) (R : Ending → World → Prop) (w : World) : Prop :=
 Aa Tryz.prog 62 [.string s, .int .i64 10, .int .i64 64] w (RetR R fun u2 w1 => ∃ n3 v4, u2 = .tuple #[.int .i64 n3, v4] ∧ ∃ b6, Am Tryz.prog (eqS .eql 76 (.tmp 10) (.const (.nilIface)) (v4) (.nilIface)) (.bool b6) ∧ ifB b6 (Aa Tryz.prog 33 [.int .i64 n3, .int .i64 10] w1 (RetR R fun u8 w7 => ∃ s9, u8 = .string s9 ∧ ∃ b11, Am Tryz.prog (eqS .eql 9 (.tmp 14) (.tmp 15) (.string s9) (.string s)) (.bool b11) ∧ Aa Tryz.prog 21 [.bool b11, .int .i64 211] w7 (RetR R fun u13 w12 => u13 = .tuple #[] ∧ R (.returned (.int .i64 n3)) w12))) (Aa Tryz.prog 21 [.bool false, .int .i64 211] w1 (RetR R fun u16 w15 => u16 = .tuple #[] ∧ R (.returned (.int .i64 n3)) w15)))
theorem sx42.ok {s : ByteArray} {R : Ending → World → Prop} {w : World} (h : sx42 s R w) : Aa Tryz.prog 42 [.string s] w R :=
 okOf { pureTo := [11, 16], sem := [11] } mix Tryz.func42 (by kernel_rfl) (by kernel_rfl) (by kernel_rfl) h
def sx66 (s : ByteArray) (R : Ending → World → Prop) (w : World) : Prop :=
 Aa Tryz.prog 64 [.string s, .int .i64 10, .int .i64 64] w (RetR R fun u2 w1 => ∃ n3 v4, u2 = .tuple #[.int .u64 n3, v4] ∧ ∃ b6, Am Tryz.prog (eqS .eql 76 (.tmp 10) (.const (.nilIface)) (v4) (.nilIface)) (.bool b6) ∧ ifB b6 (Aa Tryz.prog 52 [.int .u64 n3, .int .i64 10] w1 (RetR R fun u8 w7 => ∃ s9, u8 = .string s9 ∧ ∃ b11, Am Tryz.prog (eqS .eql 9 (.tmp 14) (.tmp 15) (.string s9) (.string s)) (.bool b11) ∧ Aa Tryz.prog 21 [.bool b11, .int .i64 211] w7 (RetR R fun u13 w12 => u13 = .tuple #[] ∧ R (.returned (.int .u64 n3)) w12))) (Aa Tryz.prog 21 [.bool false, .int .i64 211] w1 (RetR R fun u16 w15 => u16 = .tuple #[] ∧ R (.returned (.int .u64 n3)) w15)))
theorem sx66.ok {s : ByteArray} {R : Ending → World → Prop} {w : World} (h : sx66 s R w) : Aa Tryz.prog 66 [.string s] w R :=
 okOf { pureTo := [11, 16], sem := [11] } mix Tryz.func66 (by kernel_rfl) (by kernel_rfl) (by kernel_rfl) h
def sx43 (s : ByteArray) (R : Ending → World → Prop) (w : World) : Prop :=
 ifB (((ByteArray.size s : Nat) : Int) == 16) (Aa Tryz.prog 63 [.string s, .string (ByteArray.mk (#[48, 49, 50, 51, 52, 53, 54, 55, 56, 57, 97, 98, 99, 100, 101, 102]) : ByteArray)] w (RetR R fun u2 w1 => ∃ s3, u2 = .string s3 ∧ ∃ b5, Am Tryz.prog (eqS .eql 9 (.tmp 10) (.const (.string (ByteArray.mk (#[]) : ByteArray))) (.string s3) (.string (ByteArray.mk (#[]) : ByteArray))) (.bool b5) ∧ Aa Tryz.prog 21 [.bool b5, .int .i64 211] w1 (RetR R fun u7 w6 => u7 = .tuple #[] ∧ Aa Tryz.prog 64 [.string s, .int .i64 16, .int .i64 64] w6 (RetR R fun u10 w9 => ∃ n11 v12, u10 = .tuple #[.int .u64 n11, v12] ∧ ∃ b14, Am Tryz.prog (eqS .eql 76 (.tmp 19) (.const (.nilIface)) (v12) (.nilIface)) (.bool b14) ∧ Aa Tryz.prog 21 [.bool b14, .int .i64 211] w9 (RetR R fun u16 w15 => u16 = .tuple #[] ∧ Aa Tryz.prog 65 [.int .u64 n11] w15 (RetR R fun u19 w18 => ∃ x20, u19 = .float .f64 x20 ∧ R (.returned (.float .f64 x20)) w18)))))) (Aa Tryz.prog 21 [.bool false, .int .i64 211] w (RetR R fun u23 w22 => u23 = .tuple #[] ∧ Aa Tryz.prog 64 [.string s, .int .i64 16, .int .i64 64] w22 (RetR R fun u26 w25 => ∃ n27 v28, u26 = .tuple #[.int .u64 n27, v28] ∧ ∃ b30, Am Tryz.prog (eqS .eql 76 (.tmp 19) (.const (.nilIface)) (v28) (.nilIface)) (.bool b30) ∧ Aa Tryz.prog 21 [.bool b30, .int .i64 211] w25 (RetR R fun u32 w31 => u32 = .tuple #[] ∧ Aa Tryz.prog 65 [.int .u64 n27] w31 (RetR R fun u35 w34 => ∃ x36, u35 = .float .f64 x36 ∧ R (.returned (.float .f64 x36)) w34)))))
theorem sx43.ok {s : ByteArray} {R : Ending → World → Prop} {w : World} (h : sx43 s R w) : Aa Tryz.prog 43 [.string s] w R :=
 okOf { pureTo := [11, 20], sem := [20] } mix Tryz.func43 (by kernel_rfl) (by kernel_rfl) (by kernel_rfl) h
abbrev tF : TypeId := 51
abbrev OrG {α : Type} (o : Except Int α) (Q : α → Value → World → Prop) (F : World → Prop) := OrF tF o Q F
theorem A9 {ok : Bool} {e : Int} {w : World} : Aa Tryz.prog 21 [.bool ok, .int .i64 e] w (OrG (if ok then .ok () else .error e) (fun _ v w' => v = .tuple #[] ∧ w' = w) (fun w' => w' = w)) := by
 refine sx21.ok ?_
 unfold sx21
 cases ok
 ·exact ⟨fun _ => ⟨rfl, rfl⟩, fun h => (by cases h)⟩
 ·exact ⟨fun h => (by cases h), fun _ => ⟨_, rfl, rfl, rfl⟩⟩
theorem Dz {s : L8} {w : World} (hG : Glob w) (hs : s.length ≤ 281474976710656) : Aa Tryz.prog 42 [.string (bs s)] w (OrG (opt 211 (numL s)) (fun n v w' => v = .int .i64 n ∧ Grew w w') (Grew w)) := by
 refine sx42.ok ?_
 unfold sx42
 refine (K8 hG hs).use fun v w1 ⟨hv, hg⟩ => ?_
 have hl := Oi s
 cases hp : Lib.parseIntB 64 s with
 | ok n =>
  rw [hp] at hv hl
  replace hv : v = .tuple #[.int .i64 n, .nilIface] := hv
  subst hv
  refine ⟨_, _, rfl, _, L3, fun _ => (Gm (hG.grew hg) (Gl hp)).use fun v w2 ⟨hv, hg2⟩ => ?_, fun h => (by cases h)⟩
  subst hv
  refine ⟨_, rfl, _, Ha, A9.useF (fun _ v w3 ho ⟨hv, hw⟩ => ?_) (fun c w3 ho hw => ?_)⟩
  ·subst hv; subst hw
   refine ⟨rfl, ?_⟩
   by_cases he : Lib.itoa n = s
   ·rw [hl]; simp only [Ei, Option.bind_some, if_pos he]; exact ⟨_, rfl, rfl, hg.trans hg2⟩
   ·rw [decide_eq_false he] at ho; cases ho
  ·subst hw
   by_cases he : Lib.itoa n = s
   ·rw [decide_eq_true he] at ho; cases ho
   ·rw [decide_eq_false he] at ho; cases ho
    rw [hl]; simp only [Ei, Option.bind_some, if_neg he]; exact ⟨rfl, hg.trans hg2⟩
 | «syntax» =>
  rw [hp] at hv hl
  obtain ⟨n, t, p, rfl⟩ := hv
  refine ⟨_, _, rfl, _, Kc, fun h => (by cases h), fun _ => A9.useF (fun _ v w3 ho _ => (by cases ho)) (fun c w3 ho hw => ?_)⟩
  cases ho; subst hw; rw [hl]; exact ⟨rfl, hg⟩
 | range =>
  rw [hp] at hv hl
  obtain ⟨n, t, p, rfl⟩ := hv
  refine ⟨_, _, rfl, _, Kc, fun h => (by cases h), fun _ => A9.useF (fun _ v w3 ho _ => (by cases ho)) (fun c w3 ho hw => ?_)⟩
  cases ho; subst hw; rw [hl]; exact ⟨rfl, hg⟩
theorem Qh {s : L8} {w : World} (hG : Glob w) (hs : s.length ≤ 281474976710656) : Aa Tryz.prog 66 [.string (bs s)] w (OrG (opt 211 (keyL s)) (fun n v w' => v = .int .u64 (n : Int) ∧ Grew w w') (Grew w)) := by
 refine sx66.ok ?_
 unfold sx66
 refine (Kb hG hs).use fun v w1 ⟨hv, hg⟩ => ?_
 have hl := Oh s
 cases hp : Lib.parseUintB 64 s with
 | ok n =>
  rw [hp] at hv hl
  replace hv : v = .tuple #[.int .u64 (n : Int), .nilIface] := hv
  subst hv
  refine ⟨_, _, rfl, _, L3, fun _ => (Ej (hG.grew hg) (Jq hp)).use fun v w2 ⟨hv, hg2⟩ => ?_, fun h => (by cases h)⟩
  subst hv
  refine ⟨_, rfl, _, Ha, A9.useF (fun _ v w3 ho ⟨hv, hw⟩ => ?_) (fun c w3 ho hw => ?_)⟩
  ·subst hv; subst hw
   refine ⟨rfl, ?_⟩
   by_cases he : Lib.decDigits n = s
   ·rw [hl]; simp only [Ei, Option.bind_some, if_pos he]; exact ⟨_, rfl, rfl, hg.trans hg2⟩
   ·rw [decide_eq_false he] at ho; cases ho
  ·subst hw
   by_cases he : Lib.decDigits n = s
   ·rw [decide_eq_true he] at ho; cases ho
   ·rw [decide_eq_false he] at ho; cases ho
    rw [hl]; simp only [Ei, Option.bind_some, if_neg he]; exact ⟨rfl, hg.trans hg2⟩
 | «syntax» =>
  rw [hp] at hv hl
  obtain ⟨n, t, p, rfl⟩ := hv
  refine ⟨_, _, rfl, _, Kc, fun h => (by cases h), fun _ => A9.useF (fun _ v w3 ho _ => (by cases ho)) (fun c w3 ho hw => ?_)⟩
  cases ho; subst hw; rw [hl]; exact ⟨rfl, hg⟩
 | range =>
  rw [hp] at hv hl
  obtain ⟨n, t, p, rfl⟩ := hv
  refine ⟨_, _, rfl, _, Kc, fun h => (by cases h), fun _ => A9.useF (fun _ v w3 ho _ => (by cases ho)) (fun c w3 ho hw => ?_)⟩
  cases ho; subst hw; rw [hl]; exact ⟨rfl, hg⟩
theorem Gn {x : Nat} {w : World} : Aa Tryz.prog 48 [.float .f64 x] w (Rets fun v w' => v = .int .u64 (x : Int) ∧ w' = w) := by
 refine Dn Tryz.func48 (by kernel_rfl) (by kernel_rfl) (by kernel_rfl) (e := Extern.MathFloatBits.float64bits) (by kernel_rfl) ?_
 exact fun w₀ hw => ⟨_, w₀, w, rfl, hw, Kept.refl _ _, _, rfl, rfl, rfl⟩
theorem Ol {n : Int} {w : World} : Aa Tryz.prog 65 [.int .u64 n] w (Rets fun v w' => v = .float .f64 n.toNat ∧ w' = w) := by
 refine Dn Tryz.func65 (by kernel_rfl) (by kernel_rfl) (by kernel_rfl) (e := Extern.MathFloatBits.float64frombits) (by kernel_rfl) ?_
 exact fun w₀ hw => ⟨_, w₀, w, rfl, hw, Kept.refl _ _, _, rfl, rfl, rfl⟩
theorem Lb {s : L8} {w : World} (hG : Glob w) (hs : s.length ≤ 281474976710656) : Aa Tryz.prog 43 [.string (bs s)] w (OrG (opt 211 (fltL s)) (fun n v w' => v = .float .f64 n ∧ Grew w w') (Grew w)) := by
 refine sx43.ok ?_
 unfold sx43
 have hsz : ((ByteArray.size (bs s) : Nat) : Int) = s.length := by rw [A1]
 rw [hsz]
 refine ⟨fun h16 => ?_, fun h16 => A9.useF (fun _ v w3 ho _ => (by cases ho)) (fun c w3 ho hw => ?_)⟩
 ·have h16 : s.length = 16 := by simp only [beq_iff_eq] at h16; omega
  refine (Ps (by omega)).use fun v w1 ⟨hv, hg⟩ => ?_
  subst hv
  refine ⟨_, rfl, _, Ha (b := []), A9.useF (fun _ v w2 ho ⟨hv, hw⟩ => ?_) (fun c w2 ho hw => ?_)⟩
  ·subst hv; subst hw
   refine ⟨rfl, ?_⟩
   by_cases ht : Lib.trimS s hexD = []
   ·have hx : ∀ c ∈ s, (hexV c).isSome = true := fun c hc => (K1 c).1 ((K0 s hexD).1 ht c hc)
    have hf : fltL s = some (hexN 0 s) := by unfold fltL; rw [if_pos ⟨h16, hx⟩]
    refine (K9 h16 hx).use fun v w3 ⟨hv, hg3⟩ => ?_
    subst hv
    refine ⟨_, _, rfl, _, L3, A9.useF (fun _ v w4 ho ⟨hv, hw⟩ => ?_) (fun c w4 ho hw => (by cases ho))⟩
    subst hv; subst hw
    refine ⟨rfl, Ol.use fun v w5 ⟨hv, hw⟩ => ?_⟩
    subst hv; subst hw
    refine ⟨_, rfl, ?_⟩
    rw [hf]; exact ⟨_, rfl, by simp, hg.trans hg3⟩
   ·rw [decide_eq_false ht] at ho; cases ho
  ·subst hw
   by_cases ht : Lib.trimS s hexD = []
   ·rw [decide_eq_true ht] at ho; cases ho
   ·rw [decide_eq_false ht] at ho; cases ho
    have hf : fltL s = none := by
     unfold fltL
     rw [if_neg]
     rintro ⟨-, hx⟩
     exact ht ((K0 s hexD).2 fun c hc => (K1 c).2 (hx c hc))
    rw [hf]; exact ⟨rfl, hg⟩
 ·have h16 : ¬ s.length = 16 := by intro e; rw [e] at h16; simp at h16
  cases ho; subst hw
  have hf : fltL s = none := by unfold fltL; rw [if_neg fun h => h16 h.1]
  rw [hf]; exact ⟨rfl, Grew.refl _⟩
end Go.Proofs.YtbmmaibbiahkkaaGreatDoor
