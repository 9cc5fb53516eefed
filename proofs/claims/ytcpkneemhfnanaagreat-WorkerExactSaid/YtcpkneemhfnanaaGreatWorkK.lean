/- The law's awake, and where its cases begin. Conditions: none. -/
import Derived.Test.YtcpkneemhfnanaaGreatProg
import Derived.Test.YtcpkneemhfnanaaGreatWorkL
import Derived.Test.YtcpkneemhfnanaaGreatSxWp
import Derived.Test.YtcpkneemhfnanaaGreatSrcT
import Derived.Test.YtcpkneemhfnanaaGreatSxX
namespace Go.Proofs.YtcpkneemhfnanaaGreat
open Go.Sx
set_option maxRecDepth 100000
set_option linter.unusedVariables false
set_option linter.unusedSimpArgs false
def Ms : Bd := ⟨1, 2, 1, [], 1, 2, 1, 8⟩
def awS1 : SrcV := ((Dz 1 []).produce 0 ⟨1, 4617315517961601024⟩).1
def awS2 : SrcV := (awS1.produce 0 ⟨2, 4617315517961601024⟩).1
def awS : SrcV := (awS2.produce 0 ⟨1, 4618441417868443648⟩).1
def awW0 : Ac := ⟨Ms, 1, []⟩
def awA (b : Bool) : AttV := ⟨4, [2], [[⟨2, true, 1⟩], [⟨1, true, 1⟩]], b, []⟩
def awW (b : Bool) : Ac := ⟨Ms, 1, [(1, awA b)]⟩
def awM1 : MsgV := ⟨1, 0, 1, 1, 4, 0, [0], [], []⟩
def awM2 : MsgV := ⟨3, 0, 1, 1, 4, 0, [2], [], []⟩
def awM3 : MsgV := ⟨5, 3, 1, 1, 4, 0, [], [], []⟩
def awR1 : MsgV := ⟨2, 1, 0, 1, 4, 0, [2], [], []⟩
def awR2 : MsgV := ⟨4, 1, 2, 1, 4, 0, [], [2], []⟩
def awR3 : MsgV := ⟨4, 1, 3, 1, 4, 0, [], [1], []⟩
def awR4 : MsgV := ⟨6, 1, 3, 1, 4, 0, [], [], [⟨1, true, 1⟩]⟩
theorem Ad0 : Bp awS [0] 2 = ⟨[2], [⟨1, 4617315517961601024⟩, ⟨2, 4617315517961601024⟩], 0⟩ := by
 have h1 : C7 awS [0] = 0 := by decide +kernel
 have h2 : toV awS 2 [0] = [2] := by decide +kernel
 have h3 : btwV awS [0] [2] 1 = [⟨1, 4617315517961601024⟩, ⟨2, 4617315517961601024⟩] := by decide +kernel
 unfold Bp
 rw [if_neg (by decide), if_pos h1, h2]
 simp only [List.length_singleton, h3]
theorem Acl : Bv (bAll [] 1 [⟨1, 4617315517961601024⟩, ⟨2, 4617315517961601024⟩]).1 = [⟨1, true, 1⟩, ⟨2, true, 1⟩] := by
 have e1 : B3 [1, 2] = [1, 2] := E5 (Dw (by decide)) (by decide) fun x => by rw [Dx]
 have m1 : (bAll [] 1 [⟨1, 4617315517961601024⟩, ⟨2, 4617315517961601024⟩]).1 = [(1, ⟨true, 1⟩), (2, ⟨true, 1⟩)] := by decide +kernel
 rw [m1]
 show (B3 [1, 2]).map _ = _
 rw [e1]; rfl
theorem Acm : awW0.take awS awM1 = ⟨awW false, [awR1], 0⟩ := by
 have hs : Bl awM1 = true := by decide +kernel
 have hk : Ax awW0.plan awM1.frm = 1 := by decide +kernel
 unfold Ac.take
 rw [if_neg (by rw [hs]; decide), if_neg (by decide), if_pos ⟨rfl, hk⟩]
 unfold Ac.assign
 rw [if_neg (by decide)]
 unfold Ac.newA
 rw [show awM1.ends = [0] from rfl, show awW0.plan.batch = 2 from rfl, Ad0, if_neg (by decide), show awW0.plan.ops = [] from rfl, show awW0.plan.agg = 1 from rfl, Acl]
 rfl
theorem Acn : (awW false).take awS awM2 = ⟨awW true, [awR2, awR3], 0⟩ := by
 have hs : Bl awM2 = true := by decide +kernel
 have hk : Ax (awW false).plan awM2.frm = 1 := by decide +kernel
 unfold Ac.take
 rw [if_neg (by rw [hs]; decide), if_neg (by decide), if_neg (by rw [hk]; decide), if_pos ⟨rfl, hk⟩]
 rfl
theorem Aco : (awW true).take awS awM3 = ⟨awW true, [awR4], 0⟩ := by
 have hs : Bl awM3 = true := by decide +kernel
 have hk : Ax (awW true).plan awM3.frm = 3 := by decide +kernel
 unfold Ac.take
 rw [if_neg (by rw [hs]; decide), if_neg (by decide), if_neg (by rw [hk]; decide), if_neg (by rw [hk]; decide), if_pos ⟨.inl rfl, hk⟩]
 rfl
theorem Ad1 : (awW true).tell = [⟨1, 4, [2], true, 0⟩] := by
 have e1 : B3 [1] = [1] := E5 (Dw (by decide)) (by decide) fun x => by rw [Dx]
 show (B3 [1]).map _ = _
 rw [e1]; rfl
theorem Xc : C0 Ms = true ∧ Ax Ms 1 = 2 := by decide +kernel
theorem SrM.grewW {w0 w w' : World} {B : Nat} {x : SrcX} {v v' : SrcV} (h : SrM w B x w' v') (h0 : SrA w B x v) (hg : Grew w0 w) (hB : w0.heap.size ≤ B) : Grew w0 w' := by
 obtain ⟨x', h1, h2, h3, h4⟩ := h.out
 exact hg.then_own h3 fun b hb => Nat.le_trans hB (h0.foot hb).1
theorem WM.grewW {w0 w w' : World} {B : Nat} {X X' : A6} {V V' : Ac} (h : WM w B X w' X' V') (h0 : WA w B X V) (hg : Grew w0 w) (hB : w0.heap.size ≤ B) : Grew w0 w' :=
 hg.then_own h.upd fun b hb => Nat.le_trans hB (h0.foot hb).1
theorem Qb {w : World} {B : Nat} {a : Option Addr} {n c : Nat} {xs : List Msg} (h : Ba w B a n c xs) (hs : ∀ x ∈ xs, x.c.ends.length ≤ 1048576 ∧ x.c.keys.length ≤ 1048576 ∧ x.c.pairs.length ≤ 1048576) : Ex w a n c xs :=
 ⟨h.own.reads, fun x hx => ⟨(h.each x hx).at, hs x hx⟩⟩
structure Lv (w0 w : World) (sx : SrcX) (s : SrcV) (X : A6) (V : Ac) : Prop where
 src : SrA w w0.heap.size sx s
 wrk : WA w w0.heap.size X V
 apart : ∀ b, sx.Foot b → ¬ C8 X b
 grew : Grew w0 w
theorem Lv.more {w0 w w' : World} {sx : SrcX} {s : SrcV} {X : A6} {V : Ac} (h : Lv w0 w sx s X V) (hg : Grew w w') : Lv w0 w' sx s X V := ⟨h.src.grew hg, h.wrk.grew hg, h.apart, h.grew.trans hg⟩
theorem Lv.moved {w0 w w' : World} {sx : SrcX} {s : SrcV} {X X' : A6} {V V' : Ac} (h : Lv w0 w sx s X V) (hM : WM w w0.heap.size X w' X' V') : Lv w0 w' sx s X' V' := by
 refine ⟨h.src.upd hM.upd h.apart, hM.at_, fun b hb hf => ?_, hM.grewW h.wrk h.grew (Nat.le_refl _)⟩
 rcases hM.foot b hf with h1 | h1
 ·exact h.apart b hb h1
 ·have := (h.src.foot hb).2; omega
structure Out (w : World) (X : A6) (a : Option Addr) (n c : Nat) (xs : List Msg) : Prop where
 own : Ba w 0 a n c xs
 a : ∀ b, Blk a b → ¬ C8 X b
 x : ∀ x ∈ xs, ∀ b, x.Blk b → ¬ C8 X b
theorem Out.more {w w' : World} {X : A6} {a : Option Addr} {n c : Nat} {xs : List Msg} (h : Out w X a n c xs) (hg : Grew w w') : Out w' X a n c xs := ⟨h.own.grew hg, h.a, h.x⟩
theorem Out.play {w w' : World} {X X' : A6} {a : Option Addr} {n c : Nat} {xs : List Msg} (h : Out w X a n c xs) (hu : Upd (C8 X) w w') (hf : ∀ b, C8 X' b → C8 X b ∨ w.heap.size ≤ b) : Out w' X' a n c xs := by
 refine ⟨h.own.upd hu h.a h.x, fun b hb hb' => ?_, fun x hx b hb hb' => ?_⟩
 ·rcases hf b hb' with h1 | h1
  ·exact h.a b hb h1
  ·have := (h.own.own.blk hb).2; omega
 ·rcases hf b hb' with h1 | h1
  ·exact h.x x hx b hb h1
  ·have := ((h.own.each x hx).blk hb).2; omega
theorem Out.read {w : World} {X : A6} {a : Option Addr} {n c : Nat} {xs : List Msg} (h : Out w X a n c xs) (hs : ∀ x ∈ xs, x.c.ends.length ≤ 1048576 ∧ x.c.keys.length ≤ 1048576 ∧ x.c.pairs.length ≤ 1048576) : Ex w a n c xs := Qb h.own hs
structure Play (w0 w : World) (sx : SrcX) (s : SrcV) (X : A6) (r : Nf) (a : Option Addr) (n c : Nat) (w' : World) (X' : A6) (xs : List Msg) : Prop where
 p : X'.p = X.p
 pair : Lv w0 w' sx s X' r.w
 new : Ba w' w.heap.size a n c xs
 out : Out w' X' a n c xs
 is : xs.map (·.c) = r.l
 upd : Upd (C8 X) w w'
 foot : ∀ b, C8 X' b → C8 X b ∨ w.heap.size ≤ b
theorem Sn {w0 w : World} {sx : SrcX} {s : SrcV} {X : A6} {V : Ac} {m : Msg} (h : Lv w0 w sx s X V) (hm : m.At w) (hl1 : m.c.ends.length ≤ 9223372036854775806) (hl2 : m.c.keys.length ≤ 9223372036854775806) (hl3 : m.c.pairs.length ≤ 9223372036854775806) :
  Aa Tryz.prog 13 [.pointer (some ⟨X.p, 0, none⟩), .pointer (some ⟨sx.p, 0, none⟩), m.val] w (Rets fun u w' => ∃ a n c X' xs, u = .tuple #[.slice a n c, .int .i64 (V.take s m.c).e] ∧ Play w0 w sx s X (V.take s m.c) a n c w' X' xs) := by
 refine (T2 (m := m) h.wrk h.src hm hl1 hl2 hl3 h.grew.size).mono fun e w' ⟨v, he, a, n, c, hv, X', xs, hM, hO, hc, h1, h2⟩ => ?_
 exact ⟨v, he, a, n, c, X', xs, hv, hM.p, h.moved hM, hO, ⟨hO.base (Nat.zero_le _), h1, h2⟩, hc, hM.upd, hM.foot⟩
theorem Nx {y z : World} {b : Nat} {k : Int} (hal : Ag y z b (.cells #[.int .i64 k] 3)) : Reads z (Enc.int .i64) (some ⟨b, 0, none⟩, 1, 1) [k] := (Own.alloc (E := Enc.int .i64) (l := [k]) hal (Nat.le_refl _) rfl (by simp [maxLen])).reads
theorem Ze {w : World} : Aa Tryz.prog 8 [] w (Rets fun v w' => v = .bool true ∧ Grew w w') := by
 refine sx8.ok ?_
 unfold sx8
 have hnil : ∀ w, Reads w Enc.op3 (none, 0, 0) ([] : List OpV) := fun w => (Own.nil w 0 0 Enc.op3).reads
 refine (Ws (parts := 1) (hnil w) (by simp)).use fun u w1 ⟨hg1, hc⟩ => ?_
 rcases hc with ⟨hp, -⟩ | ⟨-, hc, -⟩ | ⟨-, -, sx, hv, hS⟩
 ·omega
 ·have : Aw [] = true := by decide
  rw [this] at hc; cases hc
 subst hv
 refine ⟨_, _, rfl, ?_⟩
 refine sx37.ok ?_
 unfold sx37
 intro w2 hg2
 refine ⟨_, _, _, _, _, _, _, _, _, _, rfl, ?_⟩
 have hg2' := hg1.trans hg2
 refine (Wx (x := ⟨Ms, (none, 0, 0)⟩) (node := 1) (hnil w2) (by simp [Ms])).use fun u w17 ⟨hg17, hc⟩ => ?_
 rcases hc with ⟨hb, -⟩ | ⟨-, hb, -⟩ | ⟨-, -, X, hv, hW⟩
 ·rw [Xc.1] at hb; cases hb
 ·exact (hb Xc.2).elim
 subst hv
 have hg17' := hg2'.trans hg17
 refine ⟨_, _, rfl, fun h => (by simp at h), fun _ => ⟨fun h => (by simp at h), fun _ => ⟨fun h => (by simp at h), fun _ => ⟨fun h => (by simp at h), fun _ => ?_⟩⟩⟩⟩
 have fr : ∀ k x : Nat, k < 100 → x < 18446744073709551616 → RecV.Fits ⟨(k : Int), x⟩ := fun k x h1 h2 => ⟨⟨by simp only; omega, by simp only [u64m]; omega⟩, h2⟩
 have hS17 := hS.grew (hg2.trans hg17)
 have hB : w.heap.size ≤ w17.heap.size := hg17'.size
 have hsz2 : ∀ b, sx.Foot b → b < w2.heap.size := fun b hb => ((hS.grew hg2).foot hb).2
 refine (H5 (p := 0) (r := ⟨1, 4617315517961601024⟩) hS17 (fr 1 _ (by omega) (by omega)) hB).use fun u w22 ⟨hv, hM⟩ => ?_
 subst hv
 obtain ⟨x1, a1, a2, a3, a4⟩ := hM.out
 have hg22 : Grew w w22 := SrM.grewW hM hS17 hg17' (Nat.le_refl _)
 have hW22 := (hW.base (Nat.le_trans hg2'.size (Nat.le_refl _))).upd a3 fun b hb hb' => by have := (hW.foot hb).1; have := hsz2 b hb'; omega
 have hap1 : ∀ b, x1.Foot b → ¬ C8 X b := fun b hb hb' => by
  have h1 := hW.foot hb'
  rcases a4 b hb with h2 | h2
  ·have := hsz2 b h2; omega
  ·omega
 refine ⟨_, rfl, ?_⟩
 rw [← a2]
 refine (H5 (p := 0) (r := ⟨2, 4617315517961601024⟩) a1 (fr 2 _ (by omega) (by omega)) hg22.size).use fun u w26 ⟨hv, hM2⟩ => ?_
 subst hv
 obtain ⟨x2, b1, b2, b3, b4⟩ := hM2.out
 have hg26 : Grew w w26 := SrM.grewW hM2 a1 hg22 (Nat.le_refl _)
 have hW26 := hW22.upd b3 fun b hb hb' => hap1 b hb' hb
 have hap2 : ∀ b, x2.Foot b → ¬ C8 X b := fun b hb hb' => by
  rcases b4 b hb with h2 | h2
  ·exact hap1 b h2 hb'
  ·have := (hW22.foot hb').2; omega
 refine ⟨_, rfl, ?_⟩
 rw [← b2]
 refine (H5 (p := 0) (r := ⟨1, 4618441417868443648⟩) b1 (fr 1 _ (by omega) (by omega)) hg26.size).use fun u w30 ⟨hv, hM3⟩ => ?_
 subst hv
 obtain ⟨x3, c1, c2, c3, c4⟩ := hM3.out
 have hg30 : Grew w w30 := SrM.grewW hM3 b1 hg26 (Nat.le_refl _)
 have hW30 := hW26.upd c3 fun b hb hb' => hap2 b hb' hb
 have hap3 : ∀ b, x3.Foot b → ¬ C8 X b := fun b hb hb' => by
  rcases c4 b hb with h2 | h2
  ·exact hap2 b h2 hb'
  ·have := (hW26.foot hb').2; omega
 have P0 : Lv w w30 x3 awS X awW0 := ⟨c1, hW30, hap3, hg30⟩
 refine ⟨_, rfl, fun b34 w35 hal35 => ?_⟩
 rw [← c2]
 refine (Sn (m := ⟨awM1, (some ⟨b34, 0, none⟩, 1, 1), (none, 0, 0), (none, 0, 0)⟩) (P0.more hal35.grew) ⟨Nx hal35, Reads.nil, Reads.nil⟩ (by simp [awM1]) (by simp [awM1]) (by simp [awM1])).use fun u w36 ⟨a38, l38, c38, X1, xs1, hv, P1⟩ => ?_
 rw [Acm] at hv P1
 subst hv
 refine ⟨_, _, _, _, rfl, fun b41 w42 hal42 => ?_⟩
 rw [← P1.p]
 refine (Sn (m := ⟨awM2, (some ⟨b41, 0, none⟩, 1, 1), (none, 0, 0), (none, 0, 0)⟩) (P1.pair.more hal42.grew) ⟨Nx hal42, Reads.nil, Reads.nil⟩ (by simp [awM2]) (by simp [awM2]) (by simp [awM2])).use fun u w43 ⟨a45, l45, c45, X2, xs2, hv, P2⟩ => ?_
 rw [Acn] at hv P2
 subst hv
 refine ⟨_, _, _, _, rfl, ?_⟩
 rw [← P2.p]
 refine (Sn (m := ⟨awM3, (none, 0, 0), (none, 0, 0), (none, 0, 0)⟩) P2.pair ⟨Reads.nil, Reads.nil, Reads.nil⟩ (by simp [awM3]) (by simp [awM3]) (by simp [awM3])).use fun u w48 ⟨a50, l50, c50, X3, xs3, hv, P3⟩ => ?_
 rw [Aco] at hv P3
 subst hv
 have O1 := ((P1.out.more hal42.grew).play P2.upd P2.foot).play P3.upd P3.foot
 have O2 := P2.out.play P3.upd P3.foot
 have O3 := P3.out
 have small : ∀ {xs : List Msg} {l : List MsgV}, xs.map (·.c) = l → (∀ m ∈ l, m.ends.length ≤ 1 ∧ m.keys.length ≤ 1 ∧ m.pairs.length ≤ 1) → ∀ x ∈ xs, x.c.ends.length ≤ 1048576 ∧ x.c.keys.length ≤ 1048576 ∧ x.c.pairs.length ≤ 1048576 := fun he hl x hx => by
  have := hl x.c (he ▸ List.mem_map_of_mem (f := (·.c)) hx); omega
 have M1 := O1.read (small P1.is (by simp [awR1]))
 have M2 := O2.read (small P2.is (by simp [awR2, awR3]))
 have M3 := O3.read (small P3.is (by simp [awR4]))
 have G48 : Grew w w48 := P3.pair.grew
 refine ⟨_, _, _, _, rfl, fun _ => ⟨fun _ => ⟨fun _ b53 w54 hal54 b55 w56 hal56 => ?_, fun h => (by simp at h)⟩, fun h => (by simp at h)⟩, fun h => (by simp at h)⟩
 have g56 := hal54.grew.trans hal56.grew
 have Y1 : Ex w56 (some ⟨b55, 0, none⟩) 1 1 [⟨awR1, (some ⟨b53, 0, none⟩, 1, 1), (none, 0, 0), (none, 0, 0)⟩] := ⟨(Own.alloc (E := Enc.msg) (l := [_]) hal56 (Nat.le_refl _) rfl (by simp [maxLen])).reads, fun x hx => by
  simp at hx; subst hx; exact ⟨⟨(Nx hal54).grew hal56.grew, Reads.nil, Reads.nil⟩, by simp [awR1]⟩⟩
 refine (Nw (M1.grew g56) Y1 P1.is (by have := congrArg List.length P1.is; simp at this; omega)).use fun u w57 ⟨hv, hg57⟩ => ?_
 subst hv
 refine ⟨_, rfl, fun _ b61 w62 hal62 b63 w64 hal64 b65 w66 hal66 => ?_, fun h => (by cases h)⟩
 have g66 := hg57.trans (hal62.grew.trans (hal64.grew.trans hal66.grew))
 have ku : ∀ {y z : World} {b : Nat} {k : Int}, Ag y z b (.cells #[.int .u64 k] 40) → Reads z (Enc.int .u64) (some ⟨b, 0, none⟩, 1, 1) [k] := fun {y z b k} hal => (Own.alloc (E := Enc.int .u64) (l := [k]) hal (Nat.le_refl _) rfl (by simp [maxLen])).reads
 have Y2 : Ex w66 (some ⟨b65, 0, none⟩) 2 2 [⟨awR2, (none, 0, 0), (some ⟨b61, 0, none⟩, 1, 1), (none, 0, 0)⟩, ⟨awR3, (none, 0, 0), (some ⟨b63, 0, none⟩, 1, 1), (none, 0, 0)⟩] := ⟨(Own.alloc (E := Enc.msg) (l := [_, _]) hal66 (Nat.le_refl _) rfl (by simp [maxLen])).reads, fun x hx => by
  simp at hx
  rcases hx with rfl | rfl
  ·exact ⟨⟨Reads.nil, ((ku hal62).grew hal64.grew).grew hal66.grew, Reads.nil⟩, by simp [awR2]⟩
  ·exact ⟨⟨Reads.nil, (ku hal64).grew hal66.grew, Reads.nil⟩, by simp [awR3]⟩⟩
 refine (Nw (M2.grew (g56.trans g66)) Y2 P2.is (by have := congrArg List.length P2.is; simp at this; omega)).use fun u w67 ⟨hv, hg67⟩ => ?_
 subst hv
 refine ⟨_, rfl, fun _ b71 w72 hal72 b73 w74 hal74 => ?_, fun h => (by cases h)⟩
 have g74 := hg67.trans (hal72.grew.trans hal74.grew)
 have Y3 : Ex w74 (some ⟨b73, 0, none⟩) 1 1 [⟨awR4, (none, 0, 0), (none, 0, 0), (some ⟨b71, 0, none⟩, 1, 1)⟩] := ⟨(Own.alloc (E := Enc.msg) (l := [_]) hal74 (Nat.le_refl _) rfl (by simp [maxLen])).reads, fun x hx => by
  simp at hx; subst hx; exact ⟨⟨Reads.nil, Reads.nil, ((Own.alloc (E := Enc.pair) (l := [⟨1, true, 1⟩]) hal72 (Nat.le_refl _) rfl (by simp [maxLen])).reads).grew hal74.grew⟩, by simp [awR4]⟩⟩
 refine (Nw (M3.grew (g56.trans (g66.trans g74))) Y3 P3.is (by have := congrArg List.length P3.is; simp at this; omega)).use fun u w75 ⟨hv, hg75⟩ => ?_
 subst hv
 refine ⟨_, rfl, fun _ => ?_, fun h => (by cases h)⟩
 have g75 := g56.trans (g66.trans (g74.trans hg75))
 rw [← P3.p]
 refine (T3 (P3.pair.wrk.grew g75) (by simp [awW])).use fun u w79 ⟨a81, l81, c81, hs, hv, hO, hh, hg79⟩ => ?_
 rw [Ad1] at hh
 subst hv
 refine ⟨_, _, _, rfl, fun b83 w84 hal84 b85 w86 hal86 => ?_⟩
 have g86 := hal84.grew.trans hal86.grew
 have Y4 : Km w86 (some ⟨b85, 0, none⟩) 1 1 [⟨⟨1, 4, [2], true, 0⟩, (some ⟨b83, 0, none⟩, 1, 1)⟩] := ⟨(Own.alloc (E := Enc.held) (l := [_]) hal86 (Nat.le_refl _) rfl (by simp [maxLen])).reads, fun x hx => by
  simp at hx; subst hx; exact ⟨(Nx hal84).grew hal86.grew, by simp⟩⟩
 have hse : ∀ x ∈ hs, x.c.ends.length ≤ 1048576 := fun x hx => by
  have : x.c ∈ [(⟨1, 4, [2], true, 0⟩ : Tv)] := hh ▸ List.mem_map_of_mem (f := (·.c)) hx
  simp at this; rw [this]; simp
 have X4 : Km w86 a81 l81 c81 hs := ⟨(hO.own.grew g86).reads, fun x hx => ⟨((hO.each x hx).grew g86).reads, hse x hx⟩⟩
 refine (Sm X4 Y4 hh (by have := congrArg List.length hh; simp at this; omega)).use fun u w87 ⟨hv, hg87⟩ => ?_
 subst hv
 exact ⟨_, rfl, _, rfl, rfl, G48.trans (g75.trans (hg79.trans (g86.trans hg87)))⟩
theorem Ad2 {tS tP tR tO : TypeId} {w : World} {B B' : Nat} {x : SrcX} {v : SrcV} (h : Fl tS tP tR tO w B x v) (hB : B' ≤ B) : Fl tS tP tR tO w B' x v :=
 ⟨h.row, h.parts.base hB, h.len, fun i s hs => by obtain ⟨q, a, b, c⟩ := h.logs i s hs; exact ⟨q, a, b, c.base hB⟩, h.apart, h.list.base hB, h.map, Nat.le_trans hB h.pB, Nat.le_trans hB h.mB, h.fits⟩
def sx13n (i : Nat) (p2_0 p2_1 p2_2 p2_3 p2_4 p2_5 : Int) (p2_6 : Option Addr) (p2_6_n p2_6_c : Nat) (p2_7 : Option Addr) (p2_7_n p2_7_c : Nat) (p2_8 : Option Addr) (p2_8_n p2_8_c : Nat) (R : Ending → World → Prop) (w : World) : Prop :=
 ∀ w1, Grew w w1 → R (.returned (.tuple #[.slice none 0 0, .int .i64 2])) w1
theorem sx13n.ok {i : Nat} {p2_0 p2_1 p2_2 p2_3 p2_4 p2_5 : Int} {p2_6 : Option Addr} {p2_6_n p2_6_c : Nat} {p2_7 : Option Addr} {p2_7_n p2_7_c : Nat} {p2_8 : Option Addr} {p2_8_n p2_8_c : Nat} {R : Ending → World → Prop} {w : World} (h : sx13n i p2_0 p2_1 p2_2 p2_3 p2_4 p2_5 p2_6 p2_6_n p2_6_c p2_7 p2_7_n p2_7_c p2_8 p2_8_n p2_8_c R w) : Aa Tryz.prog 13 [.pointer none, .pointer (some ⟨i, 0, none⟩), .agg #[.int .i64 p2_0, .int .i64 p2_1, .int .i64 p2_2, .int .i64 p2_3, .int .i64 p2_4, .int .i64 p2_5, .slice p2_6 p2_6_n p2_6_c, .slice p2_7 p2_7_n p2_7_c, .slice p2_8 p2_8_n p2_8_c]] w R :=
 okOf { locals := [5], known := [11] } mix Tryz.func13 (by kernel_rfl) (by kernel_rfl) (by kernel_rfl) h
def sx13s (d : Nat) (p2_0 p2_1 p2_2 p2_3 p2_4 p2_5 : Int) (p2_6 : Option Addr) (p2_6_n p2_6_c : Nat) (p2_7 : Option Addr) (p2_7_n p2_7_c : Nat) (p2_8 : Option Addr) (p2_8_n p2_8_c : Nat) (R : Ending → World → Prop) (w : World) : Prop :=
 ∀ w1, Grew w w1 → R (.returned (.tuple #[.slice none 0 0, .int .i64 2])) w1
theorem sx13s.ok {d : Nat} {p2_0 p2_1 p2_2 p2_3 p2_4 p2_5 : Int} {p2_6 : Option Addr} {p2_6_n p2_6_c : Nat} {p2_7 : Option Addr} {p2_7_n p2_7_c : Nat} {p2_8 : Option Addr} {p2_8_n p2_8_c : Nat} {R : Ending → World → Prop} {w : World} (h : sx13s d p2_0 p2_1 p2_2 p2_3 p2_4 p2_5 p2_6 p2_6_n p2_6_c p2_7 p2_7_n p2_7_c p2_8 p2_8_n p2_8_c R w) : Aa Tryz.prog 13 [.pointer (some ⟨d, 0, none⟩), .pointer none, .agg #[.int .i64 p2_0, .int .i64 p2_1, .int .i64 p2_2, .int .i64 p2_3, .int .i64 p2_4, .int .i64 p2_5, .slice p2_6 p2_6_n p2_6_c, .slice p2_7 p2_7_n p2_7_c, .slice p2_8 p2_8_n p2_8_c]] w R :=
 okOf { locals := [5], known := [11, 14] } mix Tryz.func13 (by kernel_rfl) (by kernel_rfl) (by kernel_rfl) h
def sx13b (p2_0 p2_1 p2_2 p2_3 p2_4 p2_5 : Int) (p2_6 : Option Addr) (p2_6_n p2_6_c : Nat) (p2_7 : Option Addr) (p2_7_n p2_7_c : Nat) (p2_8 : Option Addr) (p2_8_n p2_8_c : Nat) (R : Ending → World → Prop) (w : World) : Prop :=
 ∀ w1, Grew w w1 → R (.returned (.tuple #[.slice none 0 0, .int .i64 2])) w1
theorem sx13b.ok {p2_0 p2_1 p2_2 p2_3 p2_4 p2_5 : Int} {p2_6 : Option Addr} {p2_6_n p2_6_c : Nat} {p2_7 : Option Addr} {p2_7_n p2_7_c : Nat} {p2_8 : Option Addr} {p2_8_n p2_8_c : Nat} {R : Ending → World → Prop} {w : World} (h : sx13b p2_0 p2_1 p2_2 p2_3 p2_4 p2_5 p2_6 p2_6_n p2_6_c p2_7 p2_7_n p2_7_c p2_8 p2_8_n p2_8_c R w) : Aa Tryz.prog 13 [.pointer none, .pointer none, .agg #[.int .i64 p2_0, .int .i64 p2_1, .int .i64 p2_2, .int .i64 p2_3, .int .i64 p2_4, .int .i64 p2_5, .slice p2_6 p2_6_n p2_6_c, .slice p2_7 p2_7_n p2_7_c, .slice p2_8 p2_8_n p2_8_c]] w R :=
 okOf { locals := [5], known := [11] } mix Tryz.func13 (by kernel_rfl) (by kernel_rfl) (by kernel_rfl) h
def sx14n (i : Nat) (p2_0 p2_1 p2_2 p2_3 p2_4 p2_5 : Int) (p2_6 : Option Addr) (p2_6_n p2_6_c : Nat) (p2_7 : Option Addr) (p2_7_n p2_7_c : Nat) (p2_8 : Option Addr) (p2_8_n p2_8_c : Nat) (R : Ending → World → Prop) (w : World) : Prop :=
 ∀ w1, Grew w w1 → R (.returned (.tuple #[.slice none 0 0, .int .i64 2])) w1
theorem sx14n.ok {i : Nat} {p2_0 p2_1 p2_2 p2_3 p2_4 p2_5 : Int} {p2_6 : Option Addr} {p2_6_n p2_6_c : Nat} {p2_7 : Option Addr} {p2_7_n p2_7_c : Nat} {p2_8 : Option Addr} {p2_8_n p2_8_c : Nat} {R : Ending → World → Prop} {w : World} (h : sx14n i p2_0 p2_1 p2_2 p2_3 p2_4 p2_5 p2_6 p2_6_n p2_6_c p2_7 p2_7_n p2_7_c p2_8 p2_8_n p2_8_c R w) : Aa Tryz.prog 14 [.pointer none, .pointer (some ⟨i, 0, none⟩), .agg #[.int .i64 p2_0, .int .i64 p2_1, .int .i64 p2_2, .int .i64 p2_3, .int .i64 p2_4, .int .i64 p2_5, .slice p2_6 p2_6_n p2_6_c, .slice p2_7 p2_7_n p2_7_c, .slice p2_8 p2_8_n p2_8_c]] w R :=
 okOf { locals := [5], known := [10] } mix Tryz.func14 (by kernel_rfl) (by kernel_rfl) (by kernel_rfl) h
def sx14s (d : Nat) (p2_0 p2_1 p2_2 p2_3 p2_4 p2_5 : Int) (p2_6 : Option Addr) (p2_6_n p2_6_c : Nat) (p2_7 : Option Addr) (p2_7_n p2_7_c : Nat) (p2_8 : Option Addr) (p2_8_n p2_8_c : Nat) (R : Ending → World → Prop) (w : World) : Prop :=
 ∀ w1, Grew w w1 → R (.returned (.tuple #[.slice none 0 0, .int .i64 2])) w1
theorem sx14s.ok {d : Nat} {p2_0 p2_1 p2_2 p2_3 p2_4 p2_5 : Int} {p2_6 : Option Addr} {p2_6_n p2_6_c : Nat} {p2_7 : Option Addr} {p2_7_n p2_7_c : Nat} {p2_8 : Option Addr} {p2_8_n p2_8_c : Nat} {R : Ending → World → Prop} {w : World} (h : sx14s d p2_0 p2_1 p2_2 p2_3 p2_4 p2_5 p2_6 p2_6_n p2_6_c p2_7 p2_7_n p2_7_c p2_8 p2_8_n p2_8_c R w) : Aa Tryz.prog 14 [.pointer (some ⟨d, 0, none⟩), .pointer none, .agg #[.int .i64 p2_0, .int .i64 p2_1, .int .i64 p2_2, .int .i64 p2_3, .int .i64 p2_4, .int .i64 p2_5, .slice p2_6 p2_6_n p2_6_c, .slice p2_7 p2_7_n p2_7_c, .slice p2_8 p2_8_n p2_8_c]] w R :=
 okOf { locals := [5], known := [10, 13] } mix Tryz.func14 (by kernel_rfl) (by kernel_rfl) (by kernel_rfl) h
def sx14b (p2_0 p2_1 p2_2 p2_3 p2_4 p2_5 : Int) (p2_6 : Option Addr) (p2_6_n p2_6_c : Nat) (p2_7 : Option Addr) (p2_7_n p2_7_c : Nat) (p2_8 : Option Addr) (p2_8_n p2_8_c : Nat) (R : Ending → World → Prop) (w : World) : Prop :=
 ∀ w1, Grew w w1 → R (.returned (.tuple #[.slice none 0 0, .int .i64 2])) w1
theorem sx14b.ok {p2_0 p2_1 p2_2 p2_3 p2_4 p2_5 : Int} {p2_6 : Option Addr} {p2_6_n p2_6_c : Nat} {p2_7 : Option Addr} {p2_7_n p2_7_c : Nat} {p2_8 : Option Addr} {p2_8_n p2_8_c : Nat} {R : Ending → World → Prop} {w : World} (h : sx14b p2_0 p2_1 p2_2 p2_3 p2_4 p2_5 p2_6 p2_6_n p2_6_c p2_7 p2_7_n p2_7_c p2_8 p2_8_n p2_8_c R w) : Aa Tryz.prog 14 [.pointer none, .pointer none, .agg #[.int .i64 p2_0, .int .i64 p2_1, .int .i64 p2_2, .int .i64 p2_3, .int .i64 p2_4, .int .i64 p2_5, .slice p2_6 p2_6_n p2_6_c, .slice p2_7 p2_7_n p2_7_c, .slice p2_8 p2_8_n p2_8_c]] w R :=
 okOf { locals := [5], known := [10] } mix Tryz.func14 (by kernel_rfl) (by kernel_rfl) (by kernel_rfl) h
def sx21n  (R : Ending → World → Prop) (w : World) : Prop :=
 R (.returned (.slice none 0 0)) w
theorem sx21n.ok  {R : Ending → World → Prop} {w : World} (h : sx21n  R w) : Aa Tryz.prog 21 [.pointer none] w R :=
 okOf { known := [8] } mix Tryz.func21 (by kernel_rfl) (by kernel_rfl) (by kernel_rfl) h
def sx22n  (R : Ending → World → Prop) (w : World) : Prop :=
 ∀ b1 w2, Ag w w2 b1 (.cells #[] 74) → ∃ (I3 : Option Addr → Nat → Nat → Int → World → Prop) (m3 : Option Addr → Nat → Nat → Int → World → Nat), I3 (some ⟨b1, 0, none⟩) 0 0 0 w2 ∧ ∀ a4 l4 c4 n5 w6, I3 a4 l4 c4 n5 w6 → R (.returned (.slice a4 l4 c4)) w6
theorem sx22n.ok  {R : Ending → World → Prop} {w : World} (h : sx22n  R w) : Aa Tryz.prog 22 [.pointer none] w R :=
 okOf { locals := [5], known := [8], loops := [(3, { slots := [(3, .slice), (4, .int .i64)], cells := [] })] } mix Tryz.func22 (by kernel_rfl) (by kernel_rfl) (by kernel_rfl) h
theorem Ae1 {m : Msg} {d i : Nat} {w : World} : Aa Tryz.prog 13 [.pointer none, .pointer (some ⟨i, 0, none⟩), m.val] w (Rets fun u w' => u = .tuple #[.slice none 0 0, .int .i64 2] ∧ Grew w w') := by
 refine sx13n.ok ?_
 unfold sx13n
 intro w1 hg1
 exact ⟨_, rfl, rfl, hg1⟩
theorem Acp {m : Msg} {d i : Nat} {w : World} : Aa Tryz.prog 13 [.pointer (some ⟨d, 0, none⟩), .pointer none, m.val] w (Rets fun u w' => u = .tuple #[.slice none 0 0, .int .i64 2] ∧ Grew w w') := by
 refine sx13s.ok ?_
 unfold sx13s
 intro w1 hg1
 exact ⟨_, rfl, rfl, hg1⟩
theorem Acr {m : Msg} {d i : Nat} {w : World} : Aa Tryz.prog 13 [.pointer none, .pointer none, m.val] w (Rets fun u w' => u = .tuple #[.slice none 0 0, .int .i64 2] ∧ Grew w w') := by
 refine sx13b.ok ?_
 unfold sx13b
 intro w1 hg1
 exact ⟨_, rfl, rfl, hg1⟩
theorem Ad3 {m : Msg} {d i : Nat} {w : World} : Aa Tryz.prog 14 [.pointer none, .pointer (some ⟨i, 0, none⟩), m.val] w (Rets fun u w' => u = .tuple #[.slice none 0 0, .int .i64 2] ∧ Grew w w') := by
 refine sx14n.ok ?_
 unfold sx14n
 intro w1 hg1
 exact ⟨_, rfl, rfl, hg1⟩
theorem Ad4 {m : Msg} {d i : Nat} {w : World} : Aa Tryz.prog 14 [.pointer (some ⟨d, 0, none⟩), .pointer none, m.val] w (Rets fun u w' => u = .tuple #[.slice none 0 0, .int .i64 2] ∧ Grew w w') := by
 refine sx14s.ok ?_
 unfold sx14s
 intro w1 hg1
 exact ⟨_, rfl, rfl, hg1⟩
theorem Ad5 {m : Msg} {d i : Nat} {w : World} : Aa Tryz.prog 14 [.pointer none, .pointer none, m.val] w (Rets fun u w' => u = .tuple #[.slice none 0 0, .int .i64 2] ∧ Grew w w') := by
 refine sx14b.ok ?_
 unfold sx14b
 intro w1 hg1
 exact ⟨_, rfl, rfl, hg1⟩
theorem Zf {α : Type} (m : List (Int × α)) (k : Int) (x : α) : (setM m k x).length ≤ m.length + 1 := by
 unfold setM; split <;> simp
theorem Zg (V : Ac) (s : SrcV) (m : MsgV) : (V.take s m).w.held.length ≤ V.held.length + 1 := by
 have h1 : ∀ k a, (V.setA k a).held.length ≤ V.held.length + 1 := fun k a => Zf _ _ _
 have h2 : ∀ k, (delM V.held k).length ≤ V.held.length + 1 := fun k => Nat.le_trans (List.length_filter_le _ _) (by omega)
 have hA : (V.assign s m).1.held.length ≤ V.held.length + 1 := by
  unfold Ac.assign
  split
  ·simp
  ·split
   ·simp
   ·exact h1 _ _
 have hB : (V.begin m).1.held.length ≤ V.held.length + 1 := by
  unfold Ac.begin
  split
  ·simp
  ·split
   ·simp
   ·exact h1 _ _
 have hC : (V.answer m).1.held.length ≤ V.held.length + 1 := by
  unfold Ac.answer
  split
  ·simp
  ·split
   ·simp
   ·split
    ·exact h2 _
    ·split
     ·simp
     ·exact h1 _ _
 unfold Ac.take Nf.of
 split
 ·simp
 ·split
  ·simp
  ·split
   ·exact hA
   ·split
    ·exact hB
    ·split
     ·exact hC
     ·simp
def Sp (x : MsgV) : Prop := x.ends.length ≤ 1048576 ∧ x.keys.length ≤ 1048576 ∧ x.pairs.length ≤ 1048576
theorem Qc {a : AttV} {p : Bd} (h : a.Ok p) (i : Nat) : (a.pairs.getD i []).length ≤ 64 := by
 rw [List.getD_eq_getElem?_getD]
 cases hi : a.pairs[i]? with
 | none => simp
 | some l => exact (h.pairs l (List.mem_of_getElem? hi)).1
theorem find_ok {V : Ac} (hV : V.Ok) {m : MsgV} {a : AttV} (h : V.find m = some a) : a.Ok V.plan := by
 unfold Ac.find at h
 cases hg : getM V.held m.batch with
 | none => rw [hg] at h; cases h
 | some b =>
  rw [hg] at h
  simp only at h
  split at h
  ·cases h; exact hV.atts _ (Cm hg)
  ·cases h
theorem Ky {V : Ac} (hV : V.Ok) {s : SrcV} (hs : s.Fits) (m : MsgV) : (V.take s m).l.length ≤ 1048576 ∧ ∀ x ∈ (V.take s m).l, Sp x := by
 have hA : (V.assign s m).2.length ≤ 1048576 ∧ ∀ x ∈ (V.assign s m).2, Sp x := by
  unfold Ac.assign
  split
  ·simp
  ·split
   ·simp
   ·rename_i h1 h2
    have he : (Bp s m.ends V.plan.batch).err = 0 := by simpa using h2
    have := (Sd hV hs he).1.ends.1
    refine ⟨by simp, fun x hx => ?_⟩
    simp at hx; subst hx
    exact ⟨Nat.le_trans this (by decide), by simp [Ac.say], by simp [Ac.say]⟩
 have hS := hV.good.stores
 have hB : (V.begin m).2.length ≤ 1048576 ∧ ∀ x ∈ (V.begin m).2, Sp x := by
  unfold Ac.begin
  split
  ·simp
  ·rename_i a ha
   split
   ·simp
   ·refine ⟨by simp; omega, fun x hx => ?_⟩
    obtain ⟨i, -, rfl⟩ := List.mem_map.1 hx
    have := Qc (find_ok hV ha) i
    refine ⟨by simp [Ac.begins, Ac.say], ?_, by simp [Ac.begins, Ac.say]⟩
    show ((a.pairs.getD i []).map (·.key)).length ≤ 1048576
    rw [List.length_map]; omega
 have hC : (V.answer m).2.length ≤ 1048576 ∧ ∀ x ∈ (V.answer m).2, Sp x := by
  unfold Ac.answer
  split
  ·simp
  ·rename_i a ha
   have hok := find_ok hV ha
   split
   ·simp
   ·split
    ·simp
    ·split
     ·refine ⟨by simp, fun x hx => ?_⟩
      simp only [List.mem_singleton] at hx; subst hx
      have := Qc hok (m.frm - 1 - V.plan.workers).toNat
      exact ⟨by simp [Ac.say], by simp [Ac.say], Nat.le_trans this (by decide)⟩
     ·refine ⟨by split <;> simp, fun x hx => ?_⟩
      have he := hok.ends.1
      have : x = { V.say m 8 0 with ends := a.ends } := by
       split at hx
       ·cases hx
       ·simpa using hx
      subst this
      exact ⟨Nat.le_trans he (by decide), by simp [Ac.say], by simp [Ac.say]⟩
 unfold Ac.take Nf.of
 split
 ·simp
 ·split
  ·simp
  ·split
   ·exact hA
   ·split
    ·exact hB
    ·split
     ·exact hC
     ·simp
abbrev Nl : Type := Option (A6 × An × Ac)
def Gz (w0 w : World) (pa pb : Option Addr) : Nl → Prop
 | none => pa = none ∧ pb = none
 | some (X, Y, V) => pa = some ⟨X.p, 0, none⟩ ∧ pb = some ⟨Y.q, 0, none⟩ ∧ WA w w0.heap.size X V ∧ RWA w w0.heap.size Y V ∧ ∀ b, C8 X b → ¬ Lr Y b
def Sq : Nl → Nat → Prop
 | none, _ => False
 | some (X, Y, _), b => C8 X b ∨ Lr Y b
def Vz : Nl → Nat
 | none => 0
 | some (_, _, V) => V.held.length
theorem Gz.foot {w0 w : World} {pa pb : Option Addr} {t : Nl} (h : Gz w0 w pa pb t) {b : Nat} (hb : Sq t b) : w0.heap.size ≤ b ∧ b < w.heap.size := by
 match t with
 | none => exact hb.elim
 | some (X, Y, V) =>
  obtain ⟨-, -, h1, h2, -⟩ := h
  exact hb.elim (fun hb => h1.foot hb) (fun hb => h2.foot hb)
theorem Gz.upd {S : Nat → Prop} {w0 w w' : World} {pa pb : Option Addr} {t : Nl} (h : Gz w0 w pa pb t) (hu : Upd S w w') (hn : ∀ b, Sq t b → ¬ S b) : Gz w0 w' pa pb t := by
 match t with
 | none => exact h
 | some (X, Y, V) =>
  obtain ⟨e1, e2, h1, h2, h3⟩ := h
  exact ⟨e1, e2, h1.upd hu fun b hb => hn b (.inl hb), h2.upd hu fun b hb => hn b (.inr hb), h3⟩
structure Game (w0 w : World) (pa pb qa qb : Option Addr) (N : Nat) : Prop where
 out : ∃ (wt : Nl) (st : Twin), Gz w0 w pa pb wt ∧ Fb w0 w qa qb st ∧ (∀ b, Sq wt b → ¬ Nk st b) ∧ Vz wt ≤ N
 grew : Grew w0 w
theorem Game.more {w0 w w' : World} {pa pb qa qb : Option Addr} {N : Nat} (h : Game w0 w pa pb qa qb N) (hg : Grew w w') : Game w0 w' pa pb qa qb N := by
 obtain ⟨⟨wt, st, h1, h2, h3, h4⟩, h5⟩ := h
 exact ⟨⟨wt, st, h1.upd (hg.upd (S := fun _ => False)) (fun _ _ h => h), h2.grew hg, h3, h4⟩, h5.trans hg⟩
theorem Game.up {w0 w : World} {pa pb qa qb : Option Addr} {N N' : Nat} (h : Game w0 w pa pb qa qb N) (hn : N ≤ N') : Game w0 w pa pb qa qb N' := by
 obtain ⟨⟨wt, st, h1, h2, h3, h4⟩, h5⟩ := h
 exact ⟨⟨wt, st, h1, h2, h3, Nat.le_trans h4 hn⟩, h5⟩
theorem Game.steps {w0 w w' : World} {pa pb qa qb : Option Addr} {N : Nat} {wt : Nl} {st : Twin} (h1 : Gz w0 w pa pb wt) (h2 : Fb w0 w qa qb st) (h3 : ∀ b, Sq wt b → ¬ Nk st b) (h4 : Vz wt ≤ N) (h5 : Grew w0 w) (hS : Steps w0 w qa qb st w') : Game w0 w' pa pb qa qb N := by
 obtain ⟨t', m1, m2, m3⟩ := hS
 refine ⟨⟨wt, t', h1.upd m2 h3, m1, fun b hb hb2 => ?_, h4⟩, h5.then_own m2 fun b hb => (h2.foot hb).1⟩
 rcases m3 b hb2 with h | h
 ·exact h3 b hb h
 ·have := (h1.foot hb).2; omega
theorem Ex.nilR (w : World) : Ex w none 0 0 [] := ⟨(Own.nil w 0 0 Enc.msg).reads, fun x hx => (by simp at hx)⟩
def Acs (w0 : World) (pa pb qa qb : Option Addr) (N : Nat) (m : Msg) (u : Value) (w1 : World) : Prop :=
 ∃ a n c e, u = .tuple #[.slice a n c, .int .i64 e] ∧ Aa Tryz.prog 14 [.pointer pb, .pointer qb, m.val] w1 (Rets fun u' w2 => ∃ a' n' c', u' = .tuple #[.slice a' n' c', .int .i64 e] ∧ Game w0 w2 pa pb qa qb (N + 1) ∧
  ∃ xs ys, Ex w2 a n c xs ∧ Ex w2 a' n' c' ys ∧ xs.map (·.c) = ys.map (·.c) ∧ xs.length ≤ 1048576)
theorem Zh {w0 w : World} {pa pb qa qb : Option Addr} {N : Nat} {m : Msg} (hG : Game w0 w pa pb qa qb N) (hm : m.At w0) (hl1 : m.c.ends.length ≤ 9223372036854775806) (hl2 : m.c.keys.length ≤ 9223372036854775806) (hl3 : m.c.pairs.length ≤ 9223372036854775806) (hN : N ≤ 50000) :
  Aa Tryz.prog 13 [.pointer pa, .pointer qa, m.val] w (Rets (Acs w0 pa pb qa qb N m)) := by
 have nilC : ∀ {w1 w2 : World}, Grew w w1 → Grew w1 w2 → Game w0 w2 pa pb qa qb (N + 1) := fun h1 h2 => ((hG.more h1).more h2).up (by omega)
 have nilR : ∀ {w2 : World}, ∃ xs ys, Ex w2 none 0 0 xs ∧ Ex w2 none 0 0 ys ∧ xs.map (·.c) = ys.map (·.c) ∧ xs.length ≤ 1048576 := fun {w2} => ⟨[], [], Ex.nilR w2, Ex.nilR w2, rfl, by simp⟩
 obtain ⟨⟨wt, st, h1, h2, h3, h4⟩, h5⟩ := id hG
 match wt, st, h1, h2, h3, h4 with
 | none, none, h1, h2, h3, h4 =>
  obtain ⟨rfl, rfl⟩ := h1; obtain ⟨rfl, rfl⟩ := h2
  refine (Acr (d := 0) (i := 0)).mono fun e w1 ⟨v, he, hv, hg⟩ => ⟨v, he, none, 0, 0, 2, hv, (Ad5 (d := 0) (i := 0)).mono fun e w2 ⟨v, he, hv, hg2⟩ => ⟨v, he, none, 0, 0, hv, nilC hg hg2, nilR⟩⟩
 | none, some (sx, sy, s), h1, h2, h3, h4 =>
  obtain ⟨rfl, rfl⟩ := h1; obtain ⟨rfl, rfl, -⟩ := h2
  refine (Ae1 (d := 0)).mono fun e w1 ⟨v, he, hv, hg⟩ => ⟨v, he, none, 0, 0, 2, hv, (Ad3 (d := 0)).mono fun e w2 ⟨v, he, hv, hg2⟩ => ⟨v, he, none, 0, 0, hv, nilC hg hg2, nilR⟩⟩
 | some (X, Y, V), none, h1, h2, h3, h4 =>
  obtain ⟨rfl, rfl, -⟩ := h1; obtain ⟨rfl, rfl⟩ := h2
  refine (Acp (i := 0)).mono fun e w1 ⟨v, he, hv, hg⟩ => ⟨v, he, none, 0, 0, 2, hv, (Ad4 (i := 0)).mono fun e w2 ⟨v, he, hv, hg2⟩ => ⟨v, he, none, 0, 0, hv, nilC hg hg2, nilR⟩⟩
 | some (X, Y, V), some (sx, sy, s), h1, h2, h3, h4 =>
  obtain ⟨rfl, rfl, hX, hY, hXY⟩ := h1
  obtain ⟨rfl, rfl, hs, hr, hsr⟩ := h2
  have hV : V.held.length ≤ N := h4
  have zz := h5.size
  refine (T2 (m := m) hX hs (hm.grew h5) hl1 hl2 hl3 zz).mono fun e w1 ⟨v, he, a, n, c, hv, X', xs, hM, hO, hc, ho1, ho2⟩ => ⟨v, he, a, n, c, (V.take s m.c).e, hv, ?_⟩
  have z1 := hM.upd.size
  have g1 : Grew w0 w1 := h5.then_own hM.upd fun b hb => (hX.foot hb).1
  have hY1 := hY.upd hM.upd fun b hb hb2 => hXY b hb2 hb
  have hr1 := hr.upd hM.upd fun b hb hb2 => h3 b (.inl hb2) (.inr hb)
  have hs1 := hs.upd hM.upd fun b hb hb2 => h3 b (.inl hb2) (.inl hb)
  refine (Zb (m := m) hY1 hr1 (hm.grew g1) hl1 hl2 hl3 g1.size (by omega)).mono fun e w2 ⟨v, he, a', n', c', hv, Y', ys, hR, hO', hc'⟩ => ⟨v, he, a', n', c', hv, ?_, xs, ys, ?_, ?_, by rw [hc, hc'], ?_⟩
  ·have hX'Y : ∀ b, C8 X' b → ¬ Lr Y b := fun b hb hb2 => by
    rcases hM.foot b hb with h | h
    ·exact hXY b h hb2
    ·have := (hY.foot hb2).2; omega
   refine ⟨⟨some (X', Y', (V.take s m.c).w), some (sx, sy, s), ⟨by rw [hM.p], by rw [hR.q], hM.at_.upd hR.upd hX'Y, hR.at_, fun b hb hb2 => ?_⟩, ⟨rfl, rfl, hs1.upd hR.upd fun b hb hb2 => h3 b (.inr hb2) (.inl hb), hr1.upd hR.upd fun b hb hb2 => h3 b (.inr hb2) (.inr hb), hsr⟩, fun b hb hb2 => ?_, ?_⟩, g1.then_own hR.upd fun b hb => (hY1.foot hb).1⟩
   ·rcases hR.foot b hb2 with h | h
    ·exact hX'Y b hb h
    ·have := (hM.at_.foot hb).2; omega
   ·have hlt : b < w.heap.size := hb2.elim (fun h => (hs.foot h).2) fun h => (hr.foot h).2
    rcases hb with hb | hb
    ·rcases hM.foot b hb with h | h
     ·exact h3 b (.inl h) hb2
     ·omega
    ·rcases hR.foot b hb with h | h
     ·exact h3 b (.inr h) hb2
     ·omega
   ·have := Zg V s m.c
    show (V.take s m.c).w.held.length ≤ N + 1
    omega
  ·have hsm := Ky hX.ok hs.fits m.c
   refine Qb (hO.upd hR.upd (fun b hb hb2 => by have := (hO.own.blk hb).1; have := (hY.foot hb2).2; omega) fun x hx b hb hb2 => by have := ((hO.each x hx).blk hb).1; have := (hY.foot hb2).2; omega) fun x hx => hsm.2 _ (by rw [← hc]; exact List.mem_map_of_mem (f := (·.c)) hx)
  ·have hsm := Ky hX.ok hs.fits m.c
   exact Qb hO' fun x hx => hsm.2 _ (by rw [← hc']; exact List.mem_map_of_mem (f := (·.c)) hx)
  ·have hsm := (Ky hX.ok hs.fits m.c).1
   rw [← hc, List.length_map] at hsm; exact hsm
structure Xd where
 p : Plan
 r : Sl3
 off : Int
 f : Sl3
def Xd.vals (x : Xd) : List Value := [.int .i64 x.p.c.parts, .int .i64 x.p.c.stores, .int .i64 x.p.c.workers, .slice x.p.o.1 x.p.o.2.1 x.p.o.2.2, .int .i64 x.p.c.agg, .int .i64 x.p.c.batch, .int .i64 x.p.c.window, .int .i64 x.p.c.giveUp, .slice x.r.1 x.r.2.1 x.r.2.2, .int .i64 x.off, .slice x.f.1 x.f.2.1 x.f.2.2]
@[reducible] def Xd.val (x : Xd) : Value := .agg #[.int .i64 x.p.c.parts, .int .i64 x.p.c.stores, .int .i64 x.p.c.workers, .slice x.p.o.1 x.p.o.2.1 x.p.o.2.2, .int .i64 x.p.c.agg, .int .i64 x.p.c.batch, .int .i64 x.p.c.window, .int .i64 x.p.c.giveUp, .slice x.r.1 x.r.2.1 x.r.2.2, .int .i64 x.off, .slice x.f.1 x.f.2.1 x.f.2.2]
theorem Zi : Fq Tryz.prog 8 79 = some [.int .i64, .int .i64, .float .f64] := by kernel_rfl
theorem V0 : Fq Tryz.prog 2 3 = some [.int .i64] := by kernel_rfl
theorem Ae2 {S : TypeId → Value → Prop} (cs : List Value) (h : Kf S [.int .i64, .int .i64, .float .f64] cs) : ∃ x : OpV, cs = Enc.op3.f x ∧ x.Fits := by
 obtain ⟨hl, h⟩ := h
 match cs, hl with
 | [c0, c1, c2], _ =>
  obtain ⟨_, e0, n0, rfl, w0⟩ := h 0 _ rfl
  obtain ⟨_, e1, n1, rfl, w1⟩ := h 1 _ rfl
  obtain ⟨_, e2, n2, rfl, w2⟩ := h 2 _ rfl
  simp at e0 e1 e2; subst e0; subst e1; subst e2
  refine ⟨⟨n0, n1, n2⟩, rfl, ?_⟩
  simp [Lit.wf, IntKind.min, IntKind.max, IntKind.signed, IntKind.bits] at w0 w1 w2
  refine ⟨⟨?_, ?_⟩, ⟨?_, ?_⟩, ?_⟩ <;> simp only <;> omega
theorem Ad6 {S : TypeId → Value → Prop} (cs : List Value) (h : Kf S [.int .i64] cs) : ∃ x : Int, cs = (Enc.int .i64).f x ∧ True := by
 obtain ⟨hl, h⟩ := h
 match cs, hl with
 | [c0], _ =>
  obtain ⟨_, e0, n0, rfl, w0⟩ := h 0 _ rfl
  simp at e0; subst e0
  exact ⟨n0, rfl, trivial⟩
section
open Go.ChangeShapes Go.WideShapes Go.RowKit
variable {H : Type} {enc : TypeId × Value → H}
end
end Go.Proofs.YtcpkneemhfnanaaGreat
