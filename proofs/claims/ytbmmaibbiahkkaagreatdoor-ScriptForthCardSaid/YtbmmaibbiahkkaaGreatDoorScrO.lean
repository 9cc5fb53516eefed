/- A text without its skipped lines. Conditions: none. -/
import Derived.Test.YtbmmaibbiahkkaaGreatDoorProg
import Derived.Test.YtbmmaibbiahkkaaGreatDoorScrZ
import Derived.Test.YtbmmaibbiahkkaaGreatDoorSxSi
namespace Go.Proofs.YtbmmaibbiahkkaaGreatDoor
open Go.Sx
set_option maxRecDepth 100000
set_option linter.unusedVariables false
set_option linter.unusedSimpArgs false
def sx17_a (n4 n3 : Int) (text : ByteArray) (a2 : Option Addr) (l2 c2 : Nat) (I1 : Option Addr → Nat → Nat → Int → Int → World → Prop) (m1 : Option Addr → Nat → Nat → Int → Int → World → Nat) (w5 : World) : Prop :=
 ifB (decide (n4 > n3)) (∃ (b7 : UInt8), (0 ≤ n3 ∧ (text).data[n3.toNat]? = some b7) ∧ ifB ((b7.toNat : Int) != 35) ((0 ≤ (n4 : Int) ∧ (n4 : Int) ≤ (ByteArray.size text : Nat)) ∧ (0 ≤ (n3 : Int) ∧ (n3 : Int) ≤ ((n4 : Int).toNat : Nat)) ∧ SemW Tryz.prog (Builtin.append_ #[39, 9] 39 #[.slice a2 l2 c2, .string (ByteArray.extract text (n3 : Int).toNat ((n4 : Int).toNat))]) (fun u9 w8 => ∃ a10 l10 c10, u9 = .slice a10 l10 c10 ∧ ∀ b11 w12, Av w8 w12 b11 (.cells #[.int .u8 10] 5) → SemW Tryz.prog (Builtin.append_ #[39, 39] 39 #[.slice a10 l10 c10, .slice (some ⟨b11, 0, none⟩) 1 1]) (fun u14 w13 => ∃ a15 l15 c15, u14 = .slice a15 l15 c15 ∧ (I1 a15 l15 c15 (IntKind.i64.wrap (n4 + 1)) (IntKind.i64.wrap (n4 + 1)) w13 ∧ m1 a15 l15 c15 (IntKind.i64.wrap (n4 + 1)) (IntKind.i64.wrap (n4 + 1)) w13 < m1 a2 l2 c2 n3 n4 w5)) w12) w5) ((I1 a2 l2 c2 (IntKind.i64.wrap (n4 + 1)) (IntKind.i64.wrap (n4 + 1)) w5 ∧ m1 a2 l2 c2 (IntKind.i64.wrap (n4 + 1)) (IntKind.i64.wrap (n4 + 1)) w5 < m1 a2 l2 c2 n3 n4 w5))) ((I1 a2 l2 c2 (IntKind.i64.wrap (n4 + 1)) (IntKind.i64.wrap (n4 + 1)) w5 ∧ m1 a2 l2 c2 (IntKind.i64.wrap (n4 + 1)) (IntKind.i64.wrap (n4 + 1)) w5 < m1 a2 l2 c2 n3 n4 w5))
def sx17 (text : ByteArray) (R : Ending → World → Prop) (w : World) : Prop :=
 ∃ (I1 : Option Addr → Nat → Nat → Int → Int → World → Prop) (m1 : Option Addr → Nat → Nat → Int → Int → World → Nat), I1 none 0 0 0 0 w ∧ ∀ a2 l2 c2 n3 n4 w5, I1 a2 l2 c2 n3 n4 w5 → ifB (decide (n4 ≤ ((ByteArray.size text : Nat) : Int))) (ifB (decide (n4 < ((ByteArray.size text : Nat) : Int))) (∃ (b6 : UInt8), (0 ≤ n4 ∧ (text).data[n4.toNat]? = some b6) ∧ ifB ((b6.toNat : Int) != 10) ((I1 a2 l2 c2 n3 (IntKind.i64.wrap (n4 + 1)) w5 ∧ m1 a2 l2 c2 n3 (IntKind.i64.wrap (n4 + 1)) w5 < m1 a2 l2 c2 n3 n4 w5)) (sx17_a n4 n3 text a2 l2 c2 I1 m1 w5)) (sx17_a n4 n3 text a2 l2 c2 I1 m1 w5)) (SemW Tryz.prog (convert 39 9 (.slice a2 l2 c2)) (fun u26 w25 => ∃ s27, u26 = .string s27 ∧ R (.returned (.string s27)) w25) w5)
theorem sx17.ok {text : ByteArray} {R : Ending → World → Prop} {w : World} (h : sx17 text R w) : Aa Tryz.prog 17 [.string text] w R :=
 okOf { sem := [36, 39, 43], loops := [(4, { slots := [(3, .slice), (4, .int .i64), (5, .int .i64)], cells := [] })] } mix Tryz.func17 (by kernel_rfl) (by kernel_rfl) (by kernel_rfl) h
theorem Lj (t : L8) : Ac 10 (t ++ [10]) = Ac 10 t ++ [[]] := by
 have h : t = joinL 10 (Ac 10 t) := (D5 10 t).symm
 have : ∀ L : List L8, L ≠ [] → (∀ l ∈ L, (10 : UInt8) ∉ l) → joinL 10 L ++ [10] = Af L := by
  intro L
  induction L with
  | nil => intro h; exact absurd rfl h
  | cons a L ih =>
   intro _ hl
   cases L with
   | nil => simp [joinL, Af]
   | cons b L =>
    rw [A8, ← ih (by simp) (fun l h => hl l (by simp [h]))]
    show (a ++ 10 :: joinL 10 (b :: L)) ++ [10] = _
    simp
 have h2 := this (Ac 10 t) (Dr 10 t) (Dh 10 t)
 rw [← h] at h2
 have h3 := C2 (Ac 10 t) [] (Dh 10 t)
 rw [List.append_nil, ← h2] at h3
 rw [h3]; rfl
structure Jd (t : L8) (w0 : World) (a : Option Addr) (n c : Nat) (at_ i : Int) (ls : List L8) (cur rest : L8) (w : World) : Prop where
 txt : t ++ [10] = Af ls ++ (cur ++ rest)
 st : at_ = ((Af ls).length : Int)
 pos : i = ((Af ls).length + cur.length : Nat)
 cur10 : (10 : UInt8) ∉ cur
 ls10 : ∀ l ∈ ls, (10 : UInt8) ∉ l
 buf : Buf w w0.heap.size a n c (Af (ls.filter fun l => !Ds l))
 grew : Grew w0 w
theorem E1 (f : L8 → Bool) : ∀ ls : List L8, (Af (ls.filter f)).length ≤ (Af ls).length
 | [] => Nat.le_refl _
 | l :: r => by
  have := E1 f r
  rw [List.filter_cons]
  split
  ·rw [A8, A8]; simp only [List.length_append, List.length_cons]; omega
  ·rw [A8]; simp only [List.length_append, List.length_cons]; omega
theorem Lk {t : L8} {w0 w : World} {a : Option Addr} {n c : Nat} {at_ i : Int} {ls : List L8} {cur rest : L8} (ht : t.length ≤ 100000000) (h : Jd t w0 a n c at_ i ls cur (10 :: rest) w)
  {I : Option Addr → Nat → Nat → Int → Int → World → Prop} {m : Option Addr → Nat → Nat → Int → Int → World → Nat}
  (hI : ∀ a' n' c' at' i' w', Jd t w0 a' n' c' at' i' (ls ++ [cur]) [] rest w' → I a' n' c' at' i' w' ∧ m a' n' c' at' i' w' < m a n c at_ i w) :
  sx17_a i at_ (bs t) a n c I m w := by
 unfold sx17_a
 obtain ⟨htx, rfl, rfl, h10, hl10, hb, hg⟩ := h
 have hlen : t.length + 1 = (Af ls).length + (cur.length + (rest.length + 1)) := by have := congrArg List.length htx; simpa using this
 have hf := E1 (fun l => !Ds l) ls
 have ew : IntKind.i64.wrap ((((Af ls).length + cur.length : Nat) : Int) + 1) = (((Af ls).length + cur.length + 1 : Nat) : Int) := by rw [IntKind.wrap_i64]; omega
 rw [ew]
 have hU : Af (ls ++ [cur]) = Af ls ++ (cur ++ [10]) := by rw [Cg, A8]; simp [Af]
 have hUl : (Af (ls ++ [cur])).length = (Af ls).length + cur.length + 1 := by rw [hU]; simp; omega
 have next : ∀ a' n' c' w', Buf w' w0.heap.size a' n' c' (Af ((ls ++ [cur]).filter fun l => !Ds l)) → Grew w0 w' → Jd t w0 a' n' c' (((Af ls).length + cur.length + 1 : Nat) : Int) (((Af ls).length + cur.length + 1 : Nat) : Int) (ls ++ [cur]) [] rest w' := fun a' n' c' w' hb' hg' =>
  ⟨by rw [htx, hU]; simp, by rw [hUl], by rw [hUl]; simp, by simp, fun l hl => by
   rcases List.mem_append.1 hl with hl | hl
   ·exact hl10 l hl
   ·simp only [List.mem_singleton] at hl; subst hl; exact h10, hb', hg'⟩
 have skip : Ds cur = true → Jd t w0 a n c (((Af ls).length + cur.length + 1 : Nat) : Int) (((Af ls).length + cur.length + 1 : Nat) : Int) (ls ++ [cur]) [] rest w := fun hk =>
  next a n c w (by rw [List.filter_append, List.filter_cons, if_neg (by rw [hk]; simp)]; simpa using hb) hg
 have htk : (t ++ [10]).drop (Af ls).length = cur ++ 10 :: rest := by rw [htx, List.drop_left]
 refine ⟨fun hgt => ?_, fun hle => ?_⟩
 ·simp only [gt_iff_lt, decide_eq_true_eq] at hgt
  obtain ⟨c0, cr, hc0⟩ : ∃ c0 cr, cur = c0 :: cr := by
   cases hc : cur with
   | nil => rw [hc] at hgt; simp at hgt
   | cons x y => exact ⟨x, y, rfl⟩
  have hlt : (Af ls).length < t.length := by rw [hc0] at hlen; simp only [List.length_cons] at hlen; omega
  have hget : (bs t).data[(((Af ls).length : Nat) : Int).toNat]? = some c0 := by
   rw [Jk, Int.toNat_natCast]
   have := congrArg (fun l => l[0]?) htk
   simp only [List.getElem?_drop, hc0, Nat.add_zero] at this
   rw [List.getElem?_append_left hlt] at this
   simpa using this
  refine ⟨c0, ⟨by omega, hget⟩, fun hne => ⟨⟨by omega, by rw [Ar]; omega⟩, ⟨by omega, by omega⟩, ?_⟩, fun heq => hI _ _ _ _ _ _ (skip ?_)⟩
  ·have hex : (bs t).extract (((Af ls).length : Nat) : Int).toNat ((((Af ls).length + cur.length : Nat) : Int).toNat) = bs cur := by
    rw [H3]
    congr 1
    rw [Int.toNat_natCast, Int.toNat_natCast]
    have h1 : (t ++ [10]).take ((Af ls).length + cur.length) = Af ls ++ cur := by
     rw [htx, ← List.append_assoc, List.take_left' (by simp)]
    have h2 : (t ++ [10]).take ((Af ls).length + cur.length) = t.take ((Af ls).length + cur.length) := List.take_append_of_le_length (by omega)
    rw [← h2, h1, List.drop_left]
   rw [hex]
   refine Ox hb hg (by omega) fun a' n' c' w8 hb8 hg8 _ => ⟨_, _, _, rfl, fun b11 w12 hal => ?_⟩
   refine N9 (ch := 10) hb8 hal rfl hg8 (by simp only [List.length_append]; omega) fun a' n' c' w13 hb13 hg13 _ => ⟨_, _, _, rfl, hI _ _ _ _ _ _ (next _ _ _ _ ?_ hg13)⟩
   have hk : Ds cur = false := by
    rw [hc0]; show (c0 == 35) = false
    rw [beq_eq_false_iff_ne]; intro e; rw [e] at hne; revert hne; decide
   rw [List.filter_append, List.filter_cons, if_pos (by rw [hk]; rfl), Cg]
   simpa [Af] using hb13
  ·rw [hc0]; show (c0 == 35) = true
   rw [beq_iff_eq]; exact UInt8.toNat_inj.1 (by simp only [bne_eq_false_iff_eq] at heq; show c0.toNat = 35; omega)
 ·simp only [gt_iff_lt, decide_eq_false_iff_not] at hle
  have : cur = [] := List.eq_nil_of_length_eq_zero (by omega)
  exact hI _ _ _ _ _ _ (skip (by rw [this]; rfl))
theorem L3 {t : L8} {w : World} (ht : t.length ≤ 100000000) : Aa Tryz.prog 17 [.string (bs t)] w (Rets fun v w' => v = .string (bs (H7 t)) ∧ Grew w w') := by
 refine sx17.ok ?_
 unfold sx17
 rw [Ar]
 refine ⟨fun a n c at_ i w' => ∃ ls cur rest, Jd t w a n c at_ i ls cur rest w', fun _ _ _ _ i _ => t.length + 1 - i.toNat, ⟨[], [], t ++ [10], rfl, rfl, rfl, by simp, by simp, Own.nil _ _ _ _, Grew.refl _⟩, ?_⟩
 rintro a n c at_ i w5 ⟨ls, cur, rest, h⟩
 have hlen : t.length + 1 = (Af ls).length + (cur.length + rest.length) := by have := congrArg List.length h.txt; simpa using this
 have hpos := h.pos
 refine ⟨fun hle => ?_, fun hgt => ?_⟩
 ·simp only [decide_eq_true_eq] at hle
  obtain ⟨ch, rest', rfl⟩ : ∃ x y, rest = x :: y := by
   cases hc : rest with
   | nil => rw [hc] at hlen; simp only [List.length_nil] at hlen; omega
   | cons x y => exact ⟨x, y, rfl⟩
  have hget : (t ++ [10])[i.toNat]? = some ch := by
   rw [h.txt, hpos, Int.toNat_natCast, ← List.append_assoc, List.getElem?_append_right (by simp)]; simp
  have close : ch = 10 → sx17_a i at_ (bs t) a n c (fun a n c at_ i w' => ∃ ls cur rest, Jd t w a n c at_ i ls cur rest w') (fun _ _ _ _ i _ => t.length + 1 - i.toNat) w5 := fun e => by
   subst e
   refine Lk ht h fun a' n' c' at' i' w' h' => ⟨⟨_, _, _, h'⟩, ?_⟩
   have h1 := h'.pos
   have h2 : (Af (ls ++ [cur])).length = (Af ls).length + cur.length + 1 := by rw [Cg, A8]; simp [Af]; omega
   simp only [List.length_nil] at h1
   simp only [List.length_cons] at hlen
   rw [h1, hpos]
   show t.length + 1 - _ < t.length + 1 - _
   omega
  refine ⟨fun hlt => ?_, fun hge => close ?_⟩
  ·simp only [decide_eq_true_eq] at hlt
   refine ⟨ch, ⟨by omega, ?_⟩, fun hne => ?_, fun heq => close ?_⟩
   ·rw [Jk, ← hget, List.getElem?_append_left (by omega)]
   ·have ew : IntKind.i64.wrap (i + 1) = (((Af ls).length + (cur ++ [ch]).length : Nat) : Int) := by rw [IntKind.wrap_i64, hpos]; simp only [List.length_append, List.length_singleton]; omega
    refine ⟨⟨ls, cur ++ [ch], rest', by rw [h.txt]; simp, h.st, ew, ?_, h.ls10, h.buf, h.grew⟩, ?_⟩
    ·simp only [List.mem_append, List.mem_singleton, not_or]
     exact ⟨h.cur10, fun e => by rw [← e] at hne; revert hne; decide⟩
    ·rw [ew, hpos]
     simp only [List.length_append, List.length_singleton, List.length_cons] at hlen ⊢
     omega
   ·exact UInt8.toNat_inj.1 (by simp only [bne_eq_false_iff_eq] at heq; show ch.toNat = 10; omega)
  ·simp only [decide_eq_false_iff_not] at hge
   have : i.toNat = t.length := by omega
   rw [this, List.getElem?_append_right (Nat.le_refl _)] at hget
   simpa using hget.symm
 ·simp only [decide_eq_false_iff_not] at hgt
  have hr0 : rest = [] := List.eq_nil_of_length_eq_zero (by omega)
  subst hr0
  have hc0 : cur = [] := by
   have h1 := h.txt
   rw [List.append_nil] at h1
   cases hc : cur.reverse with
   | nil => simpa using hc
   | cons x y =>
    have hcur : cur = y.reverse ++ [x] := by have := congrArg List.reverse hc; simpa using this
    rw [hcur, ← List.append_assoc] at h1
    have := (List.append_inj' h1 rfl).2
    simp only [List.cons.injEq, and_true] at this
    exact absurd (by rw [hcur, this]; simp) h.cur10
  subst hc0
  have h1 := h.txt
  simp only [List.append_nil] at h1
  have h2 := C2 ls [] h.ls10
  rw [List.append_nil, ← h1, Lj] at h2
  have h3 : Ac 10 t = ls := (List.append_inj' h2 rfl).1
  refine H0 uBy uU8 uSt h.buf.reads ⟨_, rfl, _, rfl, ?_, h.grew⟩
  rw [Gt]; unfold H7; rw [h3]
end Go.Proofs.YtbmmaibbiahkkaaGreatDoor
