/- A strings.Builder in memory. Conditions: none. -/
import Derived.Test.YtbmmaibbiahkkaaGreatDoorSxSd
import Derived.Test.YtbmmaibbiahkkaaGreatDoorSxO
import Derived.Lib.Builder
import Derived.Lib.UnsafeStr
namespace Go.Sx
set_option linter.unusedSimpArgs false
set_option linter.unusedVariables false
structure BldX where
 p : Option Addr
 a : Option Addr
 n : Nat
 c : Nat
def BldX.Foot (x : BldX) (b k : Nat) : Prop := k = b ∨ Blk x.a k
structure Bv (T e : TypeId) (w : World) (B b : Nat) (x : BldX) (l : L8) : Prop where
 row : Row w b T [.pointer x.p, .slice x.a x.n x.c]
 ptr : x.p = none ∨ x.p = some ⟨b, 0, none⟩
 low : B ≤ b
 own : Own w B e (Enc.int .u8) x.a x.n x.c (ints l)
 apart : ¬ Blk x.a b
def BldM (T e : TypeId) (w : World) (B b : Nat) (x : BldX) (l : L8) (w' : World) : Prop := ∃ x', Bv T e w' B b x' l ∧ Upd (x.Foot b) w w' ∧ ∀ k, x'.Foot b k → x.Foot b k ∨ w.heap.size ≤ k
section
variable {T e : TypeId} {w w' : World} {B b : Nat} {x : BldX} {l l' : L8}
theorem Bv.lt (h : Bv T e w B b x l) {k : Nat} (hk : x.Foot b k) : B ≤ k ∧ k < w.heap.size := by
 rcases hk with rfl | hk
 ·exact ⟨h.low, h.row.lt⟩
 ·exact h.own.blk hk
theorem Bv.grew (h : Bv T e w B b x l) (hg : Grew w w') : Bv T e w' B b x l := ⟨h.row.grew hg, h.ptr, h.low, h.own.grew hg, h.apart⟩
theorem Bv.upd {S : Nat → Prop} (h : Bv T e w B b x l) (hu : Upd S w w') (hn : ∀ k, x.Foot b k → ¬ S k) : Bv T e w' B b x l :=
 ⟨h.row.upd hu (hn b (.inl rfl)), h.ptr, h.low, h.own.upd hu fun k hk => hn k (.inr hk), h.apart⟩
theorem Bv.len (h : Bv T e w B b x l) : x.n = l.length := by have := h.own.len; simpa using this
theorem BldM.then {w1 w2 : World} {x1 : BldX} (h : Bv T e w B b x l) (hu : Upd (x.Foot b) w w1) (hf : ∀ k, x1.Foot b k → x.Foot b k ∨ w.heap.size ≤ k) (h2 : BldM T e w1 B b x1 l' w2) : BldM T e w B b x l' w2 := by
 obtain ⟨x2, a, c, d⟩ := h2
 refine ⟨x2, a, hu.then c fun k hk h1 => (hf k h1).elim id fun h => by omega, fun k hk => ?_⟩
 rcases d k hk with h1 | h1
 ·exact hf k h1
 ·exact .inr (Nat.le_trans hu.size h1)
theorem Bv.fresh (hal : Ar w w' b (.cells [.pointer none, .slice none 0 0].toArray T)) : Bv T e w' w.heap.size b ⟨none, none, 0, 0⟩ [] :=
 ⟨hal.at_, .inl rfl, hal.new, Own.nil _ _ _ _, Blk.none⟩
theorem Bv.put {w1 : World} {a' : Option Addr} {n' c' : Nat} (hTe : T ≠ e) (h : Bv T e w B b x l) (ho : Own w1 B e (Enc.int .u8) a' n' c' (ints l')) (hu : Upd (x.Foot b) w w1) (hr : Row w1 b T [.pointer x.p, .slice x.a x.n x.c])
  (hb : ∀ k, Blk a' k → Blk x.a k ∨ w.heap.size ≤ k) : An w1 ⟨b, 1, none⟩ 0 [.slice a' n' c'] ∧ BldM T e w B b x l' (setCells w1 ⟨b, 1, none⟩ 0 [.slice a' n' c']) := by
 obtain ⟨r1, r2, r3⟩ := hr.set1 (o := 1) (by simp) (.slice a' n' c')
 have hap : ¬ Blk a' b := fun hk => by
  rcases hb b hk with h1 | h1
  ·exact h.apart h1
  ·have := h.row.lt; omega
 refine ⟨r1, ⟨x.p, a', n', c'⟩, ⟨by simpa using r2, h.ptr, h.low, ho.upd r3 fun k hk e => hap (e ▸ hk), hap⟩, hu.then r3 fun k _ hk => .inl hk, fun k hk => ?_⟩
 rcases hk with rfl | hk
 ·exact .inl (.inl rfl)
 ·exact (hb k hk).imp .inr id
end
section
variable {P : Program} {T e tp tu ts : TypeId} {w : World} {B b : Nat} {x : BldX} {l : L8} {k : Value → World → Prop}
theorem Ji {g : Nat} {cs : List Value} {w₀ : World} (h : Row w g T cs) (hw : Ae w w₀) : w₀.shape? g = some (T, cs.length) := by
 have := hw.at h (by simp [hole])
 simp [World.shape?, this]
theorem M5 {cs : List Value} {j : TypeInfo} (h : Row w b T cs) (h0 : 0 < cs.length) (hs : P.underlying tp = some (.pointer T)) (hd : P.underlying tu = some .unsafePointer) (ht : P.info? T = some j) (hj : j.size ≠ 0) (hk : k (.pointer (some ⟨b, 0, none⟩)) w) :
  SemW P (convert tp tu (.pointer (some ⟨b, 0, none⟩))) k w := fun w₀ hw =>
 ⟨_, w₀, w, Lib.run_to_unsafe w₀ ⟨b, 0, none⟩ hs hd ht hj (Ji h hw) h0, hw, Kept.refl _ _, hk⟩
theorem Ky {cs : List Value} {j : TypeInfo} (h : Row w b T cs) (hs : P.underlying tu = some .unsafePointer) (hd : P.underlying tp = some (.pointer T)) (ht : P.info? T = some j) (hl : liesAt P P.depth T (cs.length / P.cellsOf T) 0 T 1 = true) (hk : k (.pointer (some ⟨b, 0, none⟩)) w) :
  SemW P (convert tu tp (.pointer (some ⟨b, 0, none⟩))) k w := fun w₀ hw =>
 ⟨_, w₀, w, Lib.run_from_unsafe w₀ ⟨b, 0, none⟩ hs hd ht (Ji h hw) hl, hw, Kept.refl _ _, hk⟩
theorem Pm {j : TypeInfo} {a : Addr} {q r : Operand} (hp : P.underlying tp = some (.pointer T)) (hj : P.info? T = some j) : Am P (eqS .neq tp q r (.pointer (some a)) (.pointer (some a))) (.bool false) := fun w => by
 have e : eqGuard .neq tp q r (.pointer (some a)) (.pointer (some a)) = pure () := rfl
 unfold eqS
 simp only [e, pure_bind]
 exact Lib.run_neq_ptr_same w a hp hj
theorem N8 {ty : TypeId} {tys : Array TypeId} (h : Bv T e w B b x l) (h0 : l ≠ []) (hk : k (.pointer x.a) w) : SemW P (Builtin.unsafeSliceData_ tys ty #[.slice x.a x.n x.c]) k w := fun w₀ hw => by
 have hl : 0 < l.length := List.length_pos_iff.2 h0
 rcases h.own.out with ⟨-, h1, -⟩ | ⟨g, cur, h1, -, -, h2, h3, -⟩
 ·exact (h0 (by cases l with | nil => rfl | cons a r => simp [ints] at h1)).elim
 ·refine ⟨_, w₀, w, ?_, hw, Kept.refl _ _, hk⟩
  rw [h1]
  exact Lib.run_unsafeSliceData_row w₀ _ _ _ _ _ (by simp at h2; omega)
theorem N9 {pt it ty : TypeId} (hp : P.underlying pt = some (.pointer e)) (hc : P.cellsOf e = 1) (h : Bv T e w B b x l) (h0 : l ≠ []) (h63 : l.length ≤ 9223372036854775807)
  (hk : ∀ w', Upd (x.Foot b) w w' → k (.string (bs l)) w') : SemW P (Builtin.unsafeString_ #[pt, it] ty #[.pointer x.a, .int .i64 (x.n : Int)]) k w := by
 have hl : 0 < l.length := List.length_pos_iff.2 h0
 rcases h.own.out with ⟨-, h1, -⟩ | ⟨g, cur, h1, h2, h3, h4, h5, h6, h7, h8⟩
 ·exact (h0 (by cases l with | nil => rfl | cons a r => simp [ints] at h1)).elim
 refine SemW.of_run (some g) (fun b hb => by cases hb; rw [h3]; simp [hole]) fun w₀ hw => ?_
 have hg₀ := hw.at h3 (by simp [hole])
 have hn : x.n = l.length := h.len
 have hrun := Lib.run_unsafeString_row (P := P) w₀ pt it ty e hp hc g cur.size (by simp [World.shape?, hg₀]) l h0 (by rw [h7]; simp [Enc.int]; omega) h63 (fun j c hj => ?_)
 ·refine ⟨_, _, by rw [h1, hn]; exact hrun, ?_, fun hg => ?_⟩
  ·have hz : ¬ l.length = 0 := by omega
   unfold World.freeze
   rw [if_neg hz]
   refine ⟨rfl, rfl, rfl, by simp, fun k hk hne => ?_⟩
   simp only [Array.getElem?_modify]
   rw [if_neg (fun e => hne (by rw [e]))]
  ·exact hk _ ⟨hg.os, hg.tape, hg.output, hg.size, fun b hb hne => hg.block b hb fun e => hne (by cases e; exact .inr ⟨_, h1, rfl⟩)⟩
 ·have hs := h.own.sl
  have : (ints l)[j]? = some (c.toNat : Int) := by simp [ints, hj]
  obtain ⟨d, hd, hcell⟩ := hs j _ this
  rw [h1] at hd; cases hd
  have := (hw.cell (Ci hcell 0 _ rfl)).1
  simpa [Enc.int, Addr.add_add', Addr.add_zero'] using this
end
end Go.Sx
