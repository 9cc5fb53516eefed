/- What mark's next and Decode hand back. Conditions: none. -/
import Derived.Test.YteakjjbajjkloaaProg
import Derived.Test.YteakjjbajjkloaaMark1
namespace Go.Proofs.Yteakjjbajjkloaa
open Go.Sx
set_option maxRecDepth 100000
set_option linter.unusedVariables false
set_option linter.unusedSimpArgs false
/- reprise/mark.next -/
def sx34 (b : Nat) (most : Int) (over : Int) (R : Ending → World → Prop) (w : World) : Prop :=
  ∃ (a1 : Option Addr) (l1 c1 : Nat), w.cell? ⟨b, 0, none⟩ = some (.slice a1 l1 c1) ∧ CallsW Try.prog 46 [.slice a1 l1 c1] w (RetR R fun u3 w2 => ∃ (n4 : Int) (n5 : Int) (n6 : Int), u3 = .tuple #[.int .u64 n4, .int .i64 n5,
    .int .i64 n6] ∧ (((n6 == 0) = true → (((decide (n4 > most)) = true → ∃ (a8 : Option Addr) (l8 c8 : Nat), w2.cell? ⟨b, 0, none⟩ = some (.slice a8 l8 c8) ∧ (0 ≤ n5 ∧ n5 ≤ (l8 : Nat)) ∧ RoomAt w2 ⟨b, 0, none⟩ 0 [.slice
    (if c8 = n5.toNat then a8 else Option.map (fun x => Addr.add x (n5.toNat * 1)) a8) (l8 - n5.toNat) (c8 - n5.toNat)] ∧ ∀ w9, w9 = setCells w2 ⟨b, 0, none⟩ 0 [.slice (if c8 = n5.toNat then a8 else Option.map (fun x =>
    Addr.add x (n5.toNat * 1)) a8) (l8 - n5.toNat) (c8 - n5.toNat)] → R (.returned (.tuple #[.int .u64 n4, .int .i64 over])) w9) ∧ ((decide (n4 > most)) = false → ∃ (a10 : Option Addr) (l10 c10 : Nat), w2.cell? ⟨b, 0,
    none⟩ = some (.slice a10 l10 c10) ∧ (0 ≤ n5 ∧ n5 ≤ (l10 : Nat)) ∧ RoomAt w2 ⟨b, 0, none⟩ 0 [.slice (if c10 = n5.toNat then a10 else Option.map (fun x => Addr.add x (n5.toNat * 1)) a10) (l10 - n5.toNat) (c10 -
    n5.toNat)] ∧ ∀ w11, w11 = setCells w2 ⟨b, 0, none⟩ 0 [.slice (if c10 = n5.toNat then a10 else Option.map (fun x => Addr.add x (n5.toNat * 1)) a10) (l10 - n5.toNat) (c10 - n5.toNat)] → R (.returned (.tuple #[.int .u64
    n4, .int .i64 n6])) w11))) ∧ ((n6 == 0) = false → ∃ (a12 : Option Addr) (l12 c12 : Nat), w2.cell? ⟨b, 0, none⟩ = some (.slice a12 l12 c12) ∧ (0 ≤ n5 ∧ n5 ≤ (l12 : Nat)) ∧ RoomAt w2 ⟨b, 0, none⟩ 0 [.slice (if c12 =
    n5.toNat then a12 else Option.map (fun x => Addr.add x (n5.toNat * 1)) a12) (l12 - n5.toNat) (c12 - n5.toNat)] ∧ ∀ w13, w13 = setCells w2 ⟨b, 0, none⟩ 0 [.slice (if c12 = n5.toNat then a12 else Option.map (fun x =>
    Addr.add x (n5.toNat * 1)) a12) (l12 - n5.toNat) (c12 - n5.toNat)] → R (.returned (.tuple #[.int .u64 n4, .int .i64 n6])) w13)))
theorem sx34.ok {b : Nat} {most : Int} {over : Int} {R : Ending → World → Prop} {w : World} (h : sx34 b most over R w) : CallsW Try.prog 34 [.pointer (some ⟨b, 0, none⟩), .int .u64 most, .int .i64 over] w R :=
  callsW_of mix Try.func34 (by kernel_rfl) (by kernel_rfl) (Eq.mpr (by kernel_rfl : denFn Try.prog {} Try.f34 [.pointer (some ⟨b, 0, none⟩), .int .u64 most, .int .i64 over] R w = sx34 b most over R w) h)

/- reprise/mark.Decode -/
def sx16 (d : Option Addr) (d_n d_c : Nat) (R : Ending → World → Prop) (w : World) : Prop :=
  ∀ (b1 : Nat) (w2 : World), Alloc w w2 b1 (.cells [.slice d d_n d_c].toArray 26) → ∀ w3, Grew w2 w3 → CallsW Try.prog 34 [.pointer (some ⟨b1, 0, none⟩), .int .u64 1099511627776, .int .i64 4] w3 (RetR R fun u5 w4 => ∃ (n6 :
    Int) (n7 : Int), u5 = .tuple #[.int .u64 n6, .int .i64 n7] ∧ (((n7 != 0) = true → R (.returned (.tuple #[.agg #[.int .i64 0, .int .i64 0, .slice none 0 0], .int .i64 n7])) w4) ∧ ((n7 != 0) = false → CallsW Try.prog 34
    [.pointer (some ⟨b1, 0, none⟩), .int .u64 1099511627776, .int .i64 4] w4 (RetR R fun u10 w9 => ∃ (n11 : Int) (n12 : Int), u10 = .tuple #[.int .u64 n11, .int .i64 n12] ∧ (((n12 != 0) = true → R (.returned (.tuple
    #[.agg #[.int .i64 0, .int .i64 0, .slice none 0 0], .int .i64 n12])) w9) ∧ ((n12 != 0) = false → CallsW Try.prog 34 [.pointer (some ⟨b1, 0, none⟩), .int .u64 64, .int .i64 6] w9 (RetR R fun u15 w14 => ∃ (n16 : Int)
    (n17 : Int), u15 = .tuple #[.int .u64 n16, .int .i64 n17] ∧ (((n17 != 0) = true → R (.returned (.tuple #[.agg #[.int .i64 0, .int .i64 0, .slice none 0 0], .int .i64 n17])) w14) ∧ ((n17 != 0) = false → ∀ w19, Grew w14
    w19 → ∃ (I20 : Int → Int → Int → Option Addr → Nat → Nat → Int → Int → Option Addr → Nat → Nat → World → Prop) (m20 : Int → Int → Int → Option Addr → Nat → Nat → Int → Int → Option Addr → Nat → Nat → World → Nat), I20
    0 0 0 none 0 0 (IntKind.i64.wrap n6) (IntKind.i64.wrap n11) none 0 0 w19 ∧ ∀ (n21 : Int) (n22 : Int) (n23 : Int) (a24 : Option Addr) (l24 c24 : Nat) (n25 : Int) (n26 : Int) (a27 : Option Addr) (l27 c27 : Nat) (w28 :
    World), I20 n21 n22 n23 a24 l24 c24 n25 n26 a27 l27 c27 w28 → (((decide (n21 < n16)) = true → CallsW Try.prog 34 [.pointer (some ⟨b1, 0, none⟩), .int .u64 18446744073709551615, .int .i64 4] w28 (RetR R fun u30 w29 =>
    ∃ (n31 : Int) (n32 : Int), u30 = .tuple #[.int .u64 n31, .int .i64 n32] ∧ (((n32 != 0) = true → R (.returned (.tuple #[.agg #[.int .i64 0, .int .i64 0, .slice none 0 0], .int .i64 n32])) w29) ∧ ((n32 != 0) = false → ∀
    (b34 : Nat) (w35 : World), Alloc w29 w35 b34 (.cells #[.int .u64 n31] 38) → SemW Try.prog (Builtin.append_ #[22, 22] 22 #[.slice a27 l27 c27, .slice (some ⟨b34, 0, none⟩) 1 1]) (fun u37 w36 => ∃ (a38 : Option Addr)
    (l38 c38 : Nat), u37 = .slice a38 l38 c38 ∧ (I20 (IntKind.u64.wrap (n21 + 1)) n22 n23 a24 l24 c24 n25 n26 a38 l38 c38 w36 ∧ m20 (IntKind.u64.wrap (n21 + 1)) n22 n23 a24 l24 c24 n25 n26 a38 l38 c38 w36 < m20 n21 n22
    n23 a24 l24 c24 n25 n26 a27 l27 c27 w28)) w35)))) ∧ ((decide (n21 < n16)) = false → ∃ (a39 : Option Addr) (l39 c39 : Nat), w28.cell? ⟨b1, 0, none⟩ = some (.slice a39 l39 c39) ∧ (((decide (((l39 : Nat) : Int) > 0)) =
    true → R (.returned (.tuple #[.agg #[.int .i64 0, .int .i64 0, .slice none 0 0], .int .i64 5])) w28) ∧ ((decide (((l39 : Nat) : Int) > 0)) = false → CallsW Try.prog 14 [.agg #[.int .i64 n25, .int .i64 n26, .slice a27
    l27 c27]] w28 (RetR R fun u41 w40 => ∃ (b42 : Bool), u41 = .bool b42 ∧ (((!b42) = true → R (.returned (.tuple #[.agg #[.int .i64 0, .int .i64 0, .slice none 0 0], .int .i64 1])) w40) ∧ ((!b42) = false → R (.returned
    (.tuple #[.agg #[.int .i64 n25, .int .i64 n26, .slice a27 l27 c27], .int .i64 0])) w40))))))))))))))))
theorem sx16.ok {d : Option Addr} {d_n d_c : Nat} {R : Ending → World → Prop} {w : World} (h : sx16 d d_n d_c R w) : CallsW Try.prog 16 [.slice d d_n d_c] w R :=
  callsW_of mix Try.func16 (by kernel_rfl) (by kernel_rfl) (Eq.mpr (by kernel_rfl : denFn Try.prog { locals := [2, 8], sem := [55], loops := [(12, { slots := [(41, .int .u64)], cells := [(2, 24, [.int .i64, .int .i64, .slice]), (8, 24, [.int .i64, .int .i64, .slice])] })] } Try.f16 [.slice d d_n d_c] R w = sx16 d d_n d_c R w) h)


/-- the rest of the bytes stands in a variable of its own -/
abbrev Var (w : World) (b : Nat) (a : Option Addr) (n c : Nat) : Prop := Row w b 26 [.slice a n c]

theorem next_ok {b : Nat} {a : Option Addr} {n c : Nat} {l : List Int} {most over : Int} {w : World} (hv : Var w b a n c) (hr : Reads w (Enc.int .u8) (a, n, c) l) (hb : Bytes l) (hl : l.length ≤ 9223372036854775807) (hab : l ≠ [] → ¬ Blk a b) (h0 : over ≠ 0) :
    CallsW Try.prog 34 [.pointer (some ⟨b, 0, none⟩), .int .u64 most, .int .i64 over] w (Rets fun v w' => v = .tuple #[.int .u64 (nextS most over (l, 0)).1, .int .i64 (nextS most over (l, 0)).2.2] ∧
      Upd (fun x => x = b) w w' ∧ ((nextS most over (l, 0)).2.2 = 0 → ∃ a' n' c', Var w' b a' n' c' ∧ Reads w' (Enc.int .u8) (a', n', c') (nextS most over (l, 0)).2.1 ∧ ∀ x, Blk a' x → Blk a x)) := by
  refine sx34.ok ?_
  unfold sx34
  have hn : n = l.length := hr.2.1
  refine ⟨a, n, c, by rw [hv.cell]; rfl, (Take_ok hr.1 hb hn hl).use fun v w2 ⟨hv2, hw⟩ => ?_⟩
  subst hv2; subst hw
  have hu := takeB_used l
  have hS : nextS most over (l, 0) = ((takeB l).1, if most < (takeB l).1 then failS over (l.drop (takeB l).2.1.toNat, (takeB l).2.2) else (l.drop (takeB l).2.1.toNat, (takeB l).2.2)) := by
    simp only [nextS, checkS, numS_ok, decide_eq_true_eq]
  have hcell : w2.cell? ⟨b, 0, none⟩ = some (.slice a n c) := by rw [hv.cell]; rfl
  obtain ⟨hroom, hrow, hupd⟩ := hv.set1 (o := 0) (by simp) (.slice (if c = (takeB l).2.1.toNat then a else Option.map (fun x => Addr.add x ((takeB l).2.1.toNat * 1)) a) (n - (takeB l).2.1.toNat) (c - (takeB l).2.1.toNat))
  have hcut := fun he' : (takeB l).2.2 = 0 => (hr.from (i := (takeB l).2.1.toNat) (by omega)).upd hupd (fun x hx e => hab (by rintro rfl; simp [takeB, takeGo] at he') (e ▸ blk_cut hx))
  have hcb : ∀ x, Blk (if c = (takeB l).2.1.toNat then a else Option.map (fun x => Addr.add x ((takeB l).2.1.toNat * 1)) a) x → Blk a x := fun x h => blk_cut h
  refine ⟨_, _, _, rfl, fun he => ⟨fun hm => ?_, fun hm => ?_⟩, fun he => ?_⟩
  · have he' : (takeB l).2.2 = 0 := by simpa using he
    have hm' : most < (takeB l).1 := by simpa using hm
    refine ⟨a, n, c, hcell, by omega, hroom, ?_⟩
    rintro w9 rfl
    rw [hS, if_pos hm', he', failS, if_pos rfl]
    exact ⟨_, rfl, rfl, hupd, fun h => absurd h h0⟩
  · have he' : (takeB l).2.2 = 0 := by simpa using he
    have hm' : ¬ most < (takeB l).1 := by simpa using hm
    refine ⟨a, n, c, hcell, by omega, hroom, ?_⟩
    rintro w9 rfl
    rw [hS, if_neg hm']
    exact ⟨_, rfl, rfl, hupd, fun _ => ⟨_, _, _, hrow, hcut he', hcb⟩⟩
  · have he' : (takeB l).2.2 ≠ 0 := by simpa using he
    refine ⟨a, n, c, hcell, by omega, hroom, ?_⟩
    rintro w9 rfl
    have e : nextS most over (l, 0) = ((takeB l).1, (l.drop (takeB l).2.1.toNat, (takeB l).2.2)) := by
      rw [hS]; split
      · rw [failS_err _ he']
      · rfl
    rw [e]
    exact ⟨_, rfl, rfl, hupd, fun h => absurd h he'⟩

def MarkErr (w : World) (r : MarkV × Int) (v : Value) (w' : World) : Prop := ∃ a n c, v = .tuple #[mval r.1 a n c, .int .i64 r.2] ∧ Own w' w.heap.size 38 (Enc.int .u64) a n c r.1.keys ∧ Grew w w'
theorem MarkErr.no {w w' : World} (hg : Grew w w') (e : Int) : MarkErr w (mark0, e) (.tuple #[.agg #[.int .i64 0, .int .i64 0, .slice none 0 0], .int .i64 e]) w' := ⟨none, 0, 0, rfl, Own.nil _ _ _ _, hg⟩
theorem decodeM_err {l : List Int} (h : (markS (l, 0)).2.2 ≠ 0) : decodeM l = (mark0, (markS (l, 0)).2.2) := by rw [decodeM, if_pos h]
theorem markS_eq (s : RdS) : markS s = (⟨(nextS 1099511627776 4 s).1, (nextS 1099511627776 4 (nextS 1099511627776 4 s).2).1, (listGo numS (nextS 64 6 (nextS 1099511627776 4 (nextS 1099511627776 4 s).2).2).1.toNat [] (nextS 64 6 (nextS 1099511627776 4 (nextS 1099511627776 4 s).2).2).2).1⟩,
    (listGo numS (nextS 64 6 (nextS 1099511627776 4 (nextS 1099511627776 4 s).2).2).1.toNat [] (nextS 64 6 (nextS 1099511627776 4 (nextS 1099511627776 4 s).2).2).2).2) := rfl
theorem nextS_bytes {most over : Int} {l : List Int} (hb : Bytes l) : Bytes (nextS most over (l, 0)).2.1 ∧ (nextS most over (l, 0)).2.1.length ≤ l.length ∧ (0 ≤ (nextS most over (l, 0)).1 ∧ (nextS most over (l, 0)).1 < u64m) := by
  have hn := takeB_num hb
  simp only [nextS, checkS, numS_ok]
  refine ⟨?_, ?_, hn⟩
  · split
    · unfold failS; split <;> exact hb.drop _
    · exact hb.drop _
  · split
    · unfold failS; split <;> simp
    · simp
theorem nextS_most {most over : Int} {l : List Int} (h0 : over ≠ 0) (h : (nextS most over (l, 0)).2.2 = 0) : (nextS most over (l, 0)).1 ≤ most := by
  simp only [nextS, checkS] at h ⊢
  split at h
  · exfalso
    unfold failS at h
    split at h
    · exact h0 h
    · exact absurd h (by assumption)
  · rename_i hc
    simpa using hc

set_option maxHeartbeats 1000000 in
theorem MDecode_ok {d : Option Addr} {n c : Nat} {l : List Int} {w : World} (hr : Reads w (Enc.int .u8) (d, n, c) l) (hb : Bytes l) (hl : l.length ≤ 9223372036854775807) (hbw : ∀ x, Blk d x → l ≠ [] → x < w.heap.size) :
    CallsW Try.prog 16 [.slice d n c] w (Rets (MarkErr w (decodeM l))) := by
  refine sx16.ok ?_
  unfold sx16
  intro b w2 hal w3 hg3
  have hg3' := hal.grew.trans hg3
  have hv3 : Var w3 b d n c := Row.grew (show Row w2 b 26 [.slice d n c] from hal.at_) hg3
  have hdb : l ≠ [] → ¬ Blk d b := fun hne h => by have := hbw b h hne; have := hal.new; omega
  have hnew : ∀ {x}, x = b → w.heap.size ≤ x := fun e => by rw [e]; exact hal.new
  have heq := markS_eq (l, 0)
  refine (next_ok (most := 1099511627776) (over := 4) hv3 (hr.grew hg3') hb hl hdb (by decide)).use fun v w4 ⟨hv, hu4, hn1⟩ => ?_
  subst hv
  have hg4 := hg3'.then_own hu4 fun x hx => hnew hx
  obtain ⟨r1, hr1⟩ : ∃ r1, r1 = nextS 1099511627776 4 (l, 0) := ⟨_, rfl⟩
  have hb1 := nextS_bytes (most := 1099511627776) (over := 4) hb
  have hm1 := nextS_most (most := 1099511627776) (over := 4) (l := l) (by decide)
  rw [← hr1] at hn1 heq hb1 hm1 ⊢
  refine ⟨_, _, rfl, fun he => ?_, fun he => ?_⟩
  · have he' : r1.2.2 ≠ 0 := by simpa using he
    have hst : (markS (l, 0)).2 = r1.2 := by rw [heq]; simp only; rw [nextS_stays he', nextS_stays he', listN_stays he']
    exact ⟨_, rfl, by rw [decodeM_err (by rw [hst]; exact he'), hst]; exact .no hg4 _⟩
  have he1 : r1.2.2 = 0 := by simpa using he
  have e1 : r1.2 = (r1.2.1, 0) := Prod.ext rfl he1
  rw [e1] at heq
  obtain ⟨a1, n1, c1, hv4, hr4, hsub1⟩ := hn1 he1
  have hlow1 : ∀ x, Blk a1 x → x < w.heap.size := fun x hx => hbw x (hsub1 x hx) (by rintro rfl; rw [hr1] at he1; simp [nextS, checkS, numS, takeB, takeGo] at he1)
  have hab1 : ¬ Blk a1 b := fun h => by have := hlow1 b h; have := hal.new; omega
  refine (next_ok (most := 1099511627776) (over := 4) hv4 hr4 hb1.1 (by omega) (fun _ => hab1) (by decide)).use fun v w9 ⟨hv, hu9, hn2⟩ => ?_
  subst hv
  have hg9 := hg4.then_own hu9 fun x hx => hnew hx
  obtain ⟨r2, hr2⟩ : ∃ r2, r2 = nextS 1099511627776 4 (r1.2.1, 0) := ⟨_, rfl⟩
  have hb2 := nextS_bytes (most := 1099511627776) (over := 4) hb1.1
  have hm2 := nextS_most (most := 1099511627776) (over := 4) (l := r1.2.1) (by decide)
  rw [← hr2] at hn2 heq hb2 hm2 ⊢
  refine ⟨_, _, rfl, fun he => ?_, fun he => ?_⟩
  · have he' : r2.2.2 ≠ 0 := by simpa using he
    have hst : (markS (l, 0)).2 = r2.2 := by rw [heq]; simp only; rw [nextS_stays he', listN_stays he']
    exact ⟨_, rfl, by rw [decodeM_err (by rw [hst]; exact he'), hst]; exact .no hg9 _⟩
  have he2 : r2.2.2 = 0 := by simpa using he
  have e2 : r2.2 = (r2.2.1, 0) := Prod.ext rfl he2
  rw [e2] at heq
  obtain ⟨a2, n2, c2, hv9, hr9, hsub2⟩ := hn2 he2
  have hlow2 : ∀ x, Blk a2 x → x < w.heap.size := fun x hx => hlow1 x (hsub2 x hx)
  have hab2 : ¬ Blk a2 b := fun h => by have := hlow2 b h; have := hal.new; omega
  refine (next_ok (most := 64) (over := 6) hv9 hr9 hb2.1 (by omega) (fun _ => hab2) (by decide)).use fun v w14 ⟨hv, hu14, hn3⟩ => ?_
  subst hv
  have hg14 := hg9.then_own hu14 fun x hx => hnew hx
  obtain ⟨r3, hr3⟩ : ∃ r3, r3 = nextS 64 6 (r2.2.1, 0) := ⟨_, rfl⟩
  have hb3 := nextS_bytes (most := 64) (over := 6) hb2.1
  have hm3 := nextS_most (most := 64) (over := 6) (l := r2.2.1) (by decide)
  rw [← hr3] at hn3 heq hb3 hm3 ⊢
  refine ⟨_, _, rfl, fun he => ?_, fun he w19 hg19 => ?_⟩
  · have he' : r3.2.2 ≠ 0 := by simpa using he
    have hst : (markS (l, 0)).2 = r3.2 := by rw [heq]; simp only; rw [listN_stays he']
    exact ⟨_, rfl, by rw [decodeM_err (by rw [hst]; exact he'), hst]; exact .no hg14 _⟩
  have he3 : r3.2.2 = 0 := by simpa using he
  have e3 : r3.2 = (r3.2.1, 0) := Prod.ext rfl he3
  rw [e3] at heq
  obtain ⟨a3, n3, c3, hv14, hr14, hsub3⟩ := hn3 he3
  have hlow3 : ∀ x, Blk a3 x → x < w.heap.size := fun x hx => hlow2 x (hsub3 x hx)
  have hab3 : ¬ Blk a3 b := fun h => by have := hlow3 b h; have := hal.new; omega
  obtain ⟨N, hN⟩ : ∃ N : Nat, r3.1 = N := ⟨r3.1.toNat, by omega⟩
  have hN64 : N ≤ 64 := by have := hm3 he3; omega
  have hm1' := hm1 he1; have hm2' := hm2 he2
  have hw1 : IntKind.i64.wrap r1.1 = r1.1 := by rw [IntKind.wrap_i64]; omega
  have hw2 : IntKind.i64.wrap r2.1 = r2.1 := by rw [IntKind.wrap_i64]; omega
  rw [hN] at heq ⊢
  rw [Int.toNat_natCast] at heq
  rw [hw1, hw2]
  have hg19' := hg14.trans hg19
  refine ⟨fun i _ _ _ _ _ x y a n c w' => ∃ (k : Nat) (acc rest : List Int) (a4 : Option Addr) (n4 c4 : Nat), i = k ∧ k ≤ N ∧ x = r1.1 ∧ y = r2.1 ∧ acc.length = k ∧ Var w' b a4 n4 c4 ∧ Reads w' (Enc.int .u8) (a4, n4, c4) rest ∧ (∀ x, Blk a4 x → x < w.heap.size) ∧ Bytes rest ∧ rest.length ≤ l.length ∧ Own w' w.heap.size 38 (Enc.int .u64) a n c acc ∧ ¬ Blk a b ∧ Keys64 acc ∧ Grew w w' ∧ listGo numS N [] (r3.2.1, 0) = listGo numS (N - k) acc (rest, 0),
    fun i _ _ _ _ _ _ _ _ _ _ _ => N - i.toNat, ⟨0, [], r3.2.1, a3, n3, c3, rfl, Nat.zero_le _, rfl, rfl, rfl, Row.grew hv14 hg19, hr14.grew hg19, hlow3, hb3.1, by omega, Own.nil _ _ _ _, fun h => (by obtain ⟨d, h, -⟩ := h; cases h), fun z h => (by simp at h), hg19', rfl⟩, ?_⟩
  rintro i j1 j2 j3 j4 j5 x y a n c w28 ⟨k, acc, rest, a4, n4, c4, rfl, hk, rfl, rfl, hacc, hv28, hr28, hlow, hbr, hrl, ho28, hob, hk64, hg28, hgo⟩
  have hab28 : ¬ Blk a4 b := fun h => by have := hlow b h; have := hal.new; omega
  refine ⟨fun hlt => ?_, fun hge => ?_⟩
  · simp only [decide_eq_true_eq] at hlt
    have hkN : k < N := by omega
    obtain ⟨M, hM⟩ : ∃ M, N - k = M + 1 := ⟨N - k - 1, by omega⟩
    rw [hM, listGo, if_pos rfl] at hgo
    refine (next_ok (most := 18446744073709551615) (over := 4) hv28 hr28 hbr (by omega) (fun _ => hab28) (by decide)).use fun v w29 ⟨hv, hu29, hn4⟩ => ?_
    subst hv
    have hg29 := hg28.then_own hu29 fun x hx => hnew hx
    have hb4 := nextS_bytes (most := 18446744073709551615) (over := 4) hbr
    have hsame : nextS 18446744073709551615 4 (rest, 0) = numS (rest, 0) := by
      have h1 := hb4.2.2
      have h2 : ¬ (18446744073709551615 : Int) < (numS (rest, 0)).1 := by have := numS_num (s := (rest, 0)) hbr; simp only [u64m] at this; omega
      simp only [nextS, checkS, decide_eq_true_eq]
      rw [if_neg h2]
    rw [hsame] at hn4 hb4 ⊢
    obtain ⟨r4, hr4⟩ : ∃ r4, r4 = numS (rest, 0) := ⟨_, rfl⟩
    rw [← hr4] at hn4 hb4 hgo ⊢
    refine ⟨_, _, rfl, fun he => ?_, fun he b34 w35 hal35 => ?_⟩
    · have he' : r4.2.2 ≠ 0 := by simpa using he
      have hst : (markS (l, 0)).2 = r4.2 := by rw [heq]; simp only; rw [hgo, listGo_err _ _ _ he']
      exact ⟨_, rfl, by rw [decodeM_err (by rw [hst]; exact he'), hst]; exact .no hg29 _⟩
    have he4 : r4.2.2 = 0 := by simpa using he
    have e4 : r4.2 = (r4.2.1, 0) := Prod.ext rfl he4
    rw [e4] at hgo
    obtain ⟨a5, n5, c5, hv29, hr29, hsub⟩ := hn4 he4
    have ho29 := ho28.upd hu29 (fun x hx e => hob (e ▸ hx))
    have hb29 : b < w29.heap.size := (hv29 : Row w29 b 26 [.slice a5 n5 c5]).lt
    refine append_new (l2 := [r4.1]) en_U ho29 hal35 rfl rfl hg29.size (by simp only [maxLen, List.length_cons, List.length_nil]; omega) (by simp only [List.length_cons, List.length_nil]; omega) ?_
    rintro v w36 ⟨a38, l38, c38, rfl, ho36, hu36, hb36⟩
    have hwk : IntKind.u64.wrap ((k : Int) + 1) = ((k + 1 : Nat) : Int) := by rw [IntKind.wrap_u64]; omega
    rw [hwk]
    have hlow5 : ∀ x, Blk a5 x → x < w.heap.size := fun x hx => hlow x (hsub x hx)
    have hob36 : ¬ Blk a38 b := fun h => by rcases hb36 b h with h' | h'; exact hob h'; omega
    refine ⟨_, _, _, rfl, ⟨k + 1, acc ++ [r4.1], r4.2.1, a5, n5, c5, rfl, by omega, rfl, rfl, by simp [hacc], Row.upd hv29 hu36 hob, hr29.upd hu36 (fun x hx h => by have := hlow5 x hx; have := (ho29.blk h).1; omega), hlow5, hb4.1, by omega, ho36, hob36, fun z hz => ?_, hg29.then_own hu36 fun x hx => (ho29.blk hx).1, by rw [hgo]; congr 1; omega⟩, by show N - (((k + 1 : Nat) : Int)).toNat < N - ((k : Int)).toNat; omega⟩
    rcases List.mem_append.1 hz with hz | hz
    · exact hk64 z hz
    · simp only [List.mem_singleton] at hz; subst hz; exact hb4.2.2
  · simp only [decide_eq_false_iff_not] at hge
    have hk0 : N - k = 0 := by omega
    rw [hk0, listGo] at hgo
    rw [hgo] at heq
    have hn4 : n4 = rest.length := hr28.2.1
    refine ⟨a4, n4, c4, by rw [Row.cell hv28]; rfl, fun hgt => ?_, fun hle => ?_⟩
    · have hne : rest ≠ [] := by rintro rfl; simp only [decide_eq_true_eq, List.length_nil] at hgt hn4; omega
      refine ⟨_, rfl, ?_⟩
      rw [decodeM, heq, if_neg (by simp), if_pos hne]
      exact .no hg28 _
    · have hre : rest = [] := List.eq_nil_of_length_eq_zero (by simp only [decide_eq_false_iff_not] at hle; omega)
      obtain ⟨mk, hmk⟩ : ∃ mk : MarkV, mk = ⟨r1.1, r2.1, acc⟩ := ⟨_, rfl⟩
      have hd : decodeM l = if soundM mk = false then (mark0, 1) else (mk, 0) := by
        rw [decodeM, heq, if_neg (by simp), if_neg (by simp [hre]), hmk]
      refine (Sound_ok (m := ⟨r1.1, r2.1, acc⟩) ho28.reads (by simp only; omega)).use fun v w40 ⟨hv, hg40⟩ => ?_
      subst hv
      rw [← hmk]
      refine ⟨_, rfl, fun hs => ?_, fun hs => ?_⟩
      · have hs' : soundM mk = false := by simpa using hs
        refine ⟨_, rfl, ?_⟩
        rw [hd, if_pos hs']
        exact .no (hg28.trans hg40) _
      · have hs' : ¬ soundM mk = false := by simpa using hs
        refine ⟨_, rfl, ?_⟩
        rw [hd, if_neg hs', hmk]
        exact ⟨_, _, _, rfl, ho28.grew hg40, hg28.trans hg40⟩
end Go.Proofs.Yteakjjbajjkloaa
