/- What functions of the library hand back: a builder's, numbers' digits, texts cut. Conditions: none. -/
import Derived.Test.YtbmmaibbiahkkaaGreatDoorProg
import Derived.Test.YtbmmaibbiahkkaaGreatDoorBase
import Derived.Test.YtbmmaibbiahkkaaGreatDoorShelf
import Derived.Test.YtbmmaibbiahkkaaGreatDoorSxSe
namespace Go.Proofs.YtbmmaibbiahkkaaGreatDoor
open Go.Sx
set_option maxRecDepth 100000
set_option linter.unusedVariables false
set_option linter.unusedSimpArgs false
def sx49 (b : Nat) (R : Ending → World → Prop) (w : World) : Prop :=
 ∃ p1, w.cell? ⟨b, 0, none⟩ = some (.pointer p1) ∧ ifB (Option.isNone p1) (SemW Tryz.prog (convert 72 124 (.pointer (some ⟨b, 0, none⟩))) (fun u3 w2 => ∃ p4, u3 = .pointer p4 ∧ Aa Tryz.prog 68 [.pointer p4] w2 (RetR R fun u6 w5 => ∃ p7, u6 = .pointer p7 ∧ SemW Tryz.prog (convert 124 72 (.pointer p7)) (fun u10 w9 => ∃ p11, u10 = .pointer p11 ∧ An w9 ⟨b, 0, none⟩ 0 [.pointer p11] ∧ ∀ w12, w12 = setCells w9 ⟨b, 0, none⟩ 0 [.pointer p11] → R (.returned (.tuple #[])) w12) w5)) w) (∃ p13, w.cell? ⟨b, 0, none⟩ = some (.pointer p13) ∧ ∃ b14, Am Tryz.prog (eqS .neq 72 (.tmp 17) (.tmp 18) (.pointer p13) (.pointer (some ⟨b, 0, none⟩))) (.bool b14) ∧ ifB b14 (False) (R (.returned (.tuple #[])) w))
theorem sx49.ok {b : Nat} {R : Ending → World → Prop} {w : World} (h : sx49 b R w) : Aa Tryz.prog 49 [.pointer (some ⟨b, 0, none⟩)] w R :=
 okOf { pureTo := [19], sem := [9, 11] } mix Tryz.func49 (by kernel_rfl) (by kernel_rfl) (by kernel_rfl) h
def sx29 (b : Nat) (s : ByteArray) (R : Ending → World → Prop) (w : World) : Prop :=
 Aa Tryz.prog 49 [.pointer (some ⟨b, 0, none⟩)] w (RetR R fun u2 w1 => u2 = .tuple #[] ∧ ∃ a4 l4 c4, w1.cell? ⟨b, 1, none⟩ = some (.slice a4 l4 c4) ∧ SemW Tryz.prog (Builtin.append_ #[39, 9] 39 #[.slice a4 l4 c4, .string s]) (fun u6 w5 => ∃ a7 l7 c7, u6 = .slice a7 l7 c7 ∧ An w5 ⟨b, 1, none⟩ 0 [.slice a7 l7 c7] ∧ ∀ w8, w8 = setCells w5 ⟨b, 1, none⟩ 0 [.slice a7 l7 c7] → R (.returned (.tuple #[.int .i64 ((ByteArray.size s : Nat) : Int), .nilIface])) w8) w1)
theorem sx29.ok {b : Nat} {s : ByteArray} {R : Ending → World → Prop} {w : World} (h : sx29 b s R w) : Aa Tryz.prog 29 [.pointer (some ⟨b, 0, none⟩), .string s] w R :=
 okOf { sem := [14] } mix Tryz.func29 (by kernel_rfl) (by kernel_rfl) (by kernel_rfl) h
def sx31 (b : Nat) (c : Int) (R : Ending → World → Prop) (w : World) : Prop :=
 Aa Tryz.prog 49 [.pointer (some ⟨b, 0, none⟩)] w (RetR R fun u2 w1 => u2 = .tuple #[] ∧ ∃ a4 l4 c4, w1.cell? ⟨b, 1, none⟩ = some (.slice a4 l4 c4) ∧ ∀ b5 w6, Ar w1 w6 b5 (.cells #[.int .u8 c] 5) → SemW Tryz.prog (Builtin.append_ #[39, 39] 39 #[.slice a4 l4 c4, .slice (some ⟨b5, 0, none⟩) 1 1]) (fun u8 w7 => ∃ a9 l9 c9, u8 = .slice a9 l9 c9 ∧ An w7 ⟨b, 1, none⟩ 0 [.slice a9 l9 c9] ∧ ∀ w10, w10 = setCells w7 ⟨b, 1, none⟩ 0 [.slice a9 l9 c9] → R (.returned (.nilIface)) w10) w6)
theorem sx31.ok {b : Nat} {c : Int} {R : Ending → World → Prop} {w : World} (h : sx31 b c R w) : Aa Tryz.prog 31 [.pointer (some ⟨b, 0, none⟩), .int .u8 c] w R :=
 okOf { sem := [14] } mix Tryz.func31 (by kernel_rfl) (by kernel_rfl) (by kernel_rfl) h
def sx32 (b : Nat) (R : Ending → World → Prop) (w : World) : Prop :=
 ∃ a1 l1 c1, w.cell? ⟨b, 1, none⟩ = some (.slice a1 l1 c1) ∧ R (.returned (.int .i64 ((l1 : Nat) : Int))) w
theorem sx32.ok {b : Nat} {R : Ending → World → Prop} {w : World} (h : sx32 b R w) : Aa Tryz.prog 32 [.pointer (some ⟨b, 0, none⟩)] w R :=
 okOf {} mix Tryz.func32 (by kernel_rfl) (by kernel_rfl) (by kernel_rfl) h
def sx36 (b : Nat) (R : Ending → World → Prop) (w : World) : Prop :=
 ∀ w1, Grew w w1 → ∃ a2 l2 c2, w1.cell? ⟨b, 1, none⟩ = some (.slice a2 l2 c2) ∧ ∃ a3 l3 c3, w1.cell? ⟨b, 1, none⟩ = some (.slice a3 l3 c3) ∧ SemW Tryz.prog (Builtin.unsafeSliceData_ #[39] 109 #[.slice a2 l2 c2]) (fun u5 w4 => ∃ p6, u5 = .pointer p6 ∧ Bb w1 w4 [⟨b, 1, none⟩, ⟨b, 1, none⟩] ∧ SemW Tryz.prog (Builtin.unsafeString_ #[109, 3] 9 #[.pointer p6, .int .i64 ((l3 : Nat) : Int)]) (fun u8 w7 => ∃ s9, u8 = .string s9 ∧ R (.returned (.string s9)) w7) w4) w1
theorem sx36.ok {b : Nat} {R : Ending → World → Prop} {w : World} (h : sx36 b R w) : Aa Tryz.prog 36 [.pointer (some ⟨b, 0, none⟩)] w R :=
 okOf { sem := [7, 13], draws := [(1, { order := (ol [0,1,2,3,5,6,7,8,9,4,10,11] .nil), bars := [10] })] } mix Tryz.func36 (by kernel_rfl) (by kernel_rfl) (by kernel_rfl) h
abbrev BA := Bv 74 5
abbrev BM := BldM 74 5
theorem uBy : Tryz.prog.underlying 39 = some (.slice 5) := by kernel_rfl
theorem uSt : Tryz.prog.underlying 9 = some .string := by kernel_rfl
theorem uU8 : Tryz.prog.underlying 5 = some (.int .u8) := by kernel_rfl
theorem iU8 : (Tryz.prog.info? 5).map (fun i => (i.zero, i.size, i.bytes)) = some (some (.int .u8 0), 1, 1) := by kernel_rfl
theorem elBy : C4 Tryz.prog 39 5 (Enc.int .u8).sz 1 := C4.mk' (z := .int .u8 0) uBy iU8 (by kernel_rfl)
theorem uBl : Tryz.prog.underlying 72 = some (.pointer 74) := by kernel_rfl
theorem Qd : ∃ j, Tryz.prog.info? 74 = some j ∧ j.size = 2 := by
 have h : (Tryz.prog.info? 74).map (·.size) = some 2 := by kernel_rfl
 cases hi : Tryz.prog.info? 74 with
 | none => rw [hi] at h; cases h
 | some j => rw [hi] at h; exact ⟨j, rfl, by simpa using h⟩
theorem Oa {p : Option Addr} {w : World} : Aa Tryz.prog 68 [.pointer p] w (Rets fun v w' => v = .pointer p ∧ w' = w) :=
 Dn Tryz.func68 (by kernel_rfl) (by kernel_rfl) (by kernel_rfl) (e := Extern.AbiNoEscape.same) (by kernel_rfl) fun w₀ hw => ⟨_, w₀, w, rfl, hw, Kept.refl _ _, _, rfl, rfl, rfl⟩
theorem Gj {w : World} {B b : Nat} {x : BldX} {l : L8} (h : BA w B b x l) : Aa Tryz.prog 49 [.pointer (some ⟨b, 0, none⟩)] w
  (Rets fun v w' => v = .tuple #[] ∧ BA w' B b { x with p := some ⟨b, 0, none⟩ } l ∧ Upd (fun k => k = b) w w') := by
 refine sx49.ok ?_
 unfold sx49
 obtain ⟨j, hj, hs⟩ := Qd
 have hc : w.cell? ⟨b, 0, none⟩ = some (.pointer x.p) := by rw [h.row.cell]; rfl
 refine ⟨_, hc, fun h0 => ?_, fun h0 => ?_⟩
 ·refine M5 h.row (by simp) uBl (by kernel_rfl) hj (by omega) ?_
  refine ⟨_, rfl, Oa.use fun v w2 ⟨hv, hw⟩ => ?_⟩
  subst hv; subst hw
  refine ⟨_, rfl, Ky h.row (by kernel_rfl) uBl hj (by kernel_rfl) ?_⟩
  obtain ⟨r1, r2, r3⟩ := h.row.set1 (o := 0) (by simp) (.pointer (some ⟨b, 0, none⟩))
  refine ⟨_, rfl, r1, ?_⟩
  rintro w12 rfl
  exact ⟨_, rfl, rfl, ⟨by simpa using r2, .inr rfl, h.low, h.own.upd r3 fun k hk e => h.apart (e ▸ hk), h.apart⟩, r3⟩
 ·have hp : x.p = some ⟨b, 0, none⟩ := by
   rcases h.ptr with e | e
   ·rw [e] at h0; cases h0
   ·exact e
  refine ⟨_, hc, _, by rw [hp]; exact Pm uBl hj, fun e => (by cases e), fun _ => ⟨_, rfl, rfl, ?_, Upd.refl _ _⟩⟩
  rw [← hp]; exact h
theorem P5 {w w1 : World} {B b : Nat} {x : BldX} {l l' : L8} {a' : Option Addr} {n' c' : Nat} (h : BA w B b x l) (ho : Own w1 B 5 (Enc.int .u8) a' n' c' (ints l')) (hu : Upd (x.Foot b) w w1) (hr : Row w1 b 74 [.pointer x.p, .slice x.a x.n x.c])
  (hb : ∀ k, Blk a' k → Blk x.a k ∨ w.heap.size ≤ k) : An w1 ⟨b, 1, none⟩ 0 [.slice a' n' c'] ∧ BM w B b x l' (setCells w1 ⟨b, 1, none⟩ 0 [.slice a' n' c']) :=
 Bv.put (T := 74) (by decide) h ho hu hr hb
theorem Bo {w : World} {B b : Nat} {x : BldX} {l s : L8} (h : BA w B b x l) (hB : B ≤ w.heap.size) (hl : l.length + s.length ≤ 140737488355328) : Aa Tryz.prog 29 [.pointer (some ⟨b, 0, none⟩), .string (bs s)] w
  (Rets fun v w' => (∃ n u, v = .tuple #[.int .i64 n, u]) ∧ BM w B b x (l ++ s) w') := by
 refine sx29.ok ?_
 unfold sx29
 refine (Gj h).use fun v w1 ⟨hv, h1, hu1⟩ => ⟨hv, ?_⟩
 have hc : w1.cell? ⟨b, 1, none⟩ = some (.slice x.a x.n x.c) := by rw [h1.row.cell]; rfl
 refine ⟨_, _, _, hc, Lw uBy uSt iU8 h1.own (Nat.le_trans hB hu1.size) (by simpa using hl) ?_⟩
 rintro v w5 ⟨a', n', c', rfl, ho, hu, hb⟩
 rw [← N6] at ho
 obtain ⟨r1, r2⟩ := P5 (w := w1) h1 ho (hu.mono fun k _ hk => .inr hk) (h1.row.upd hu h1.apart) hb
 refine ⟨_, _, _, rfl, r1, ?_⟩
 rintro w8 rfl
 exact ⟨_, rfl, ⟨_, _, rfl⟩, BldM.then h (hu1.mono fun k _ hk => .inl hk) (fun k hk => .inl hk) r2⟩
theorem Ed {w : World} {B b : Nat} {x : BldX} {l : L8} {c : UInt8} (h : BA w B b x l) (hB : B ≤ w.heap.size) (hl : l.length + 1 ≤ 140737488355328) : Aa Tryz.prog 31 [.pointer (some ⟨b, 0, none⟩), .int .u8 (c.toNat : Int)] w
  (Rets fun v w' => BM w B b x (l ++ [c]) w') := by
 refine sx31.ok ?_
 unfold sx31
 refine (Gj h).use fun v w1 ⟨hv, h1, hu1⟩ => ⟨hv, ?_⟩
 have hc : w1.cell? ⟨b, 1, none⟩ = some (.slice x.a x.n x.c) := by rw [h1.row.cell]; rfl
 refine ⟨_, _, _, hc, fun b5 w6 hal => ?_⟩
 refine Bz (l2 := [(c.toNat : Int)]) elBy h1.own hal rfl rfl (Nat.le_trans hB hu1.size) (by simp [maxLen]; omega) (by simp; omega) ?_
 rintro v w7 ⟨a', n', c', rfl, ho, hu, hb⟩
 have e : ints l ++ [(c.toNat : Int)] = ints (l ++ [c]) := by simp [ints]
 rw [e] at ho
 obtain ⟨r1, r2⟩ := P5 (w := w1) h1 ho (hu.mono fun k _ hk => .inr hk) (h1.row.upd hu h1.apart) hb
 refine ⟨_, _, _, rfl, r1, ?_⟩
 rintro w8 rfl
 exact ⟨_, rfl, BldM.then h (hu1.mono fun k _ hk => .inl hk) (fun k hk => .inl hk) r2⟩
theorem Mp {w : World} {B b : Nat} {x : BldX} {l : L8} (h : BA w B b x l) : Aa Tryz.prog 32 [.pointer (some ⟨b, 0, none⟩)] w (Rets fun v w' => v = .int .i64 (l.length : Int) ∧ w' = w) := by
 refine sx32.ok ?_
 unfold sx32
 have hc : w.cell? ⟨b, 1, none⟩ = some (.slice x.a x.n x.c) := by rw [h.row.cell]; rfl
 exact ⟨_, _, _, hc, _, rfl, by rw [h.len], rfl⟩
theorem Lx {w : World} {B b : Nat} {x : BldX} {l : L8} (h : BA w B b x l) (h0 : l ≠ []) (h63 : l.length ≤ 9223372036854775807) : Aa Tryz.prog 36 [.pointer (some ⟨b, 0, none⟩)] w (Rets fun v w' => v = .string (bs l) ∧ Upd (x.Foot b) w w') := by
 refine sx36.ok ?_
 unfold sx36
 intro w1 hg1
 have h1 := h.grew hg1
 have hc : w1.cell? ⟨b, 1, none⟩ = some (.slice x.a x.n x.c) := by rw [h1.row.cell]; rfl
 refine ⟨_, _, _, hc, _, _, _, hc, N8 h1 h0 ⟨_, rfl, ⟨rfl, rfl, trivial⟩, ?_⟩⟩
 exact N9 (by kernel_rfl) (by kernel_rfl) h1 h0 h63 fun w' hu => ⟨_, rfl, _, rfl, rfl, hg1.upd.trans hu⟩
end Go.Proofs.YtbmmaibbiahkkaaGreatDoor
