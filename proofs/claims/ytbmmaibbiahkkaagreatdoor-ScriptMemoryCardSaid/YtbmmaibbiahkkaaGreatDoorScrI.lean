/- Lines out of a text, one by one. Conditions: none. -/
import Derived.Test.YtbmmaibbiahkkaaGreatDoorProg
import Derived.Test.YtbmmaibbiahkkaaGreatDoorScrH
import Derived.Test.YtbmmaibbiahkkaaGreatDoorScrW
import Derived.Test.YtbmmaibbiahkkaaGreatDoorSxSp
import Derived.Test.YtbmmaibbiahkkaaGreatDoorSxZ
import Derived.RangeFuncGives
namespace Go.Proofs.YtbmmaibbiahkkaaGreatDoor
open Go.Sx
set_option maxRecDepth 100000
set_option linter.unusedVariables false
set_option linter.unusedSimpArgs false
open Go.RowKit Go.Maps Go.Sort
def SBox (W : World) (b1 b2 b3 : Nat) (r : L8) : Prop :=
 W.heap[b1]? = some (.cells #[.string (bs [10])] 9 (0, 0)) ∧ W.heap[b2]? = some (.cells #[.string (bs r)] 9 (0, 0)) ∧ W.heap[b3]? = some (.cells #[.int .i64 0] 3 (0, 0))
def Gq (b2 : Nat) (w : World) : Nat := match w.cell? ⟨b2, 0, none⟩ with
 | some (.string x) => x.size
 | _ => 0
theorem Ov {W : World} {b1 b2 b3 : Nat} {r : L8} (h12 : b1 ≠ b2) (h23 : b3 ≠ b2) (h : SBox W b1 b2 b3 r) (r' : L8) : SBox (W.setCell ⟨b2, 0, none⟩ (.string (bs r'))) b1 b2 b3 r' := by
 obtain ⟨h1, h2, h3⟩ := h
 obtain ⟨q1, q2⟩ := B3 h2 0 (.string (bs r'))
 exact ⟨q2.heap h12 h1, by simpa using q1, q2.heap h23 h3⟩
theorem Le {W : World} {b1 b2 b3 : Nat} {r : L8} (h : SBox W b1 b2 b3 r) (r' : L8) : Gq b2 (W.setCell ⟨b2, 0, none⟩ (.string (bs r'))) = r'.length := by
 obtain ⟨h1, h2, h3⟩ := h
 obtain ⟨q1, q2⟩ := B3 h2 0 (.string (bs r'))
 have : (W.setCell ⟨b2, 0, none⟩ (.string (bs r'))).cell? ⟨b2, 0, none⟩ = some (.string (bs r')) := by simp [World.cell?, q1]
 unfold Gq; rw [this]; exact A1 _
set_option maxRecDepth 100000 in
set_option maxHeartbeats 1000000 in
theorem Qj (n : Nat) (hn : 1 ≤ n) (l b1 b2 b3 : Nat) (h12 : b1 ≠ b2) (h23 : b3 ≠ b2) (s : L8) (hs : s.length ≤ 1000000) (J : Nat → World → Prop) (X : List PanicEntry → World → Prop)
  (hJ : ∀ i W v, J i W → J i (W.setCell ⟨b2, 0, none⟩ v))
  (hY : ∀ i x r W, J i W → (Ag 10 s)[i]? = some x → SBox W b1 b2 b3 r → YieldAt Fence.wide (n - 1) Tryz.prog l #[.string (bs x)] W fun e W' => (e = .returned (.bool true) ∧ J (i + 1) W' ∧ SBox W' b1 b2 b3 r) ∨ ∃ ch, e = .panicked ch ∧ X ch W')
  (W : World) (h0 : J 0 W) (hb : SBox W b1 b2 b3 s) :
  CallsIn Fence.wide n Tryz.prog 58 #[.func (.yield l) #[] #[], .pointer (some ⟨b1, 0, none⟩), .pointer (some ⟨b2, 0, none⟩), .pointer (some ⟨b3, 0, none⟩)] W fun e W' => (e = .returned (.tuple #[]) ∧ J (Ag 10 s).length W') ∨ ∃ ch, e = .panicked ch ∧ X ch W' := by
 have hf : Fence.wide.fn 58 := trivial
 obtain ⟨hc1, hf1⟩ := Bg hb.1
 obtain ⟨hc2, hf2⟩ := Bg hb.2.1
 obtain ⟨hc3, hf3⟩ := Bg hb.2.2
 refine callsIn_of_wp Tryz.func58 rfl hf ?_ rfl
 simp only [Tryz.ntmps58, List.size_toArray, List.length_cons, List.length_nil, Nat.reduceAdd, Nat.reduceSub, Array.replicate_succ, Array.replicate_zero, List.push_toArray, List.append_toArray, List.nil_append, List.cons_append]
 gi_wp2
 try go_frame
 gi_loopw [] (fun wr => ∃ (i : Nat) (r : L8), J i wr ∧ SBox wr b1 b2 b3 r ∧ Ag 10 r = (Ag 10 s).drop i ∧ r.length ≤ s.length) (fun wr => Gq b2 wr)
 case atStart => exact ⟨0, s, h0, hb, rfl, Nat.le_refl _⟩
 case round =>
  obtain ⟨i, r, hJi, hbr, hsp, hrl⟩ := hrel
  obtain ⟨hc1, hf1⟩ := Bg hbr.1
  obtain ⟨hc2, hf2⟩ := Bg hbr.2.1
  obtain ⟨hc3, hf3⟩ := Bg hbr.2.2
  gi_wp2
  have hidx : Calls Tryz.prog 60 #[.string (bs r), .string (bs [10])] wr fun e w' => e = .returned (.int .i64 (Lib.indexByte r 10)) ∧ w' = wr := by
   have := Tryz.strings_Index_one (bs r) 10 wr
   rw [A8] at this; exact this
  refine ⟨trivial, (callsIn_wide.2 hidx).mono ?_⟩
  rintro e w' ⟨rfl, rfl⟩
  by_cases hm : (10 : UInt8) ∈ r
  ·obtain ⟨a, b, rfl, hn, hi⟩ := Go.Sx.J5 hm
   rw [hi]
   rw [C6 b hn] at hsp
   have hxi : (Ag 10 s)[i]? = some a := by
    have := congrArg (fun l => l[0]?) hsp
    simpa using this.symm
   have hsp' : Ag 10 b = (Ag 10 s).drop (i + 1) := by
    have := congrArg (fun l => l.drop 1) hsp
    simpa using this
   obtain ⟨fn, tmps, assign, body, hy, hR⟩ := hY i a _ w' hJi hxi hbr
   have hc2_old := hc2
   have hal : a.length ≤ 1000000 := by simp only [List.length_append, List.length_cons] at hrl; omega
   have hbl : b.length ≤ 1000000 := by simp only [List.length_append, List.length_cons] at hrl; omega
   have hw1 : wrap64 (a.length : Int) = (a.length : Int) := by unfold wrap64; omega
   have hw2 : wrap64 ((a.length : Int) + 1) = (a.length : Int) + 1 := by unfold wrap64; omega
   have hex1 : (bs (a ++ 10 :: b)).extract 0 a.length = bs a := by rw [J4]; simp
   have hex2 : (bs (a ++ 10 :: b)).extract (a.length + 1) (a.length + (b.length + 1)) = bs b := by rw [J4, show a.length + (b.length + 1) = (a ++ 10 :: b).length by simp, List.take_length, show a ++ 10 :: b = (a ++ [10]) ++ b by simp, List.drop_left' (by simp)]
   gi_wp2
   refine hR.mono ?_
   rintro e W3 (⟨rfl, hJ3, hb3⟩ | ⟨ch, rfl, hx⟩)
   ·obtain ⟨hc1, hf1⟩ := Bg hb3.1
    obtain ⟨hc2, hf2⟩ := Bg hb3.2.1
    obtain ⟨hc3, hf3⟩ := Bg hb3.2.2
    gi_wp2
    go_roundw
    case rel => exact ⟨i + 1, b, hJ _ _ _ hJ3, Ov h12 h23 hb3 b, hsp', by simp only [List.length_append, List.length_cons] at hrl; omega⟩
    case measure =>
     rw [Le hb3 b]
     have : Gq b2 w' = (a ++ 10 :: b).length := by unfold Gq; rw [hc2_old]; exact A1 _
     rw [this]; simp only [List.length_append, List.length_cons]; omega
   ·first | exact ⟨rfl, .inr ⟨ch, rfl, hx⟩⟩ | exact .inr ⟨ch, rfl, hx⟩
  ·rw [Go.Sx.Kz hm]
   rw [De hm] at hsp
   have hil : i + 1 = (Ag 10 s).length := by
    have := congrArg List.length hsp
    simp only [List.length_cons, List.length_nil, List.length_drop] at this; omega
   have hxi : (Ag 10 s)[i]? = some r := by
    have := congrArg (fun l => l[0]?) hsp
    simpa using this.symm
   obtain ⟨fn, tmps, assign, body, hy, hR⟩ := hY i r _ w' hJi hxi hbr
   gi_wp2
   refine hR.mono ?_
   rintro e W3 (⟨rfl, hJ3, hb3⟩ | ⟨ch, rfl, hx⟩)
   ·gi_wp2
    go_end0
    exact .inl ⟨rfl, by rw [← hil]; exact hJ3⟩
   ·first | exact ⟨rfl, .inr ⟨ch, rfl, hx⟩⟩ | exact .inr ⟨ch, rfl, hx⟩
end Go.Proofs.YtbmmaibbiahkkaaGreatDoor
