/- A step printed. Conditions: none. -/
import Derived.Test.YtbmmaibbiahkkaaGreatDoorProg
import Derived.Test.YtbmmaibbiahkkaaGreatDoorScrG
namespace Go.Proofs.YtbmmaibbiahkkaaGreatDoor
open Go.Sx
set_option maxRecDepth 100000
set_option linter.unusedVariables false
set_option linter.unusedSimpArgs false
def sx34 (x : Nat) (R : Ending → World → Prop) (w : World) : Prop :=
 Aa Tryz.prog 48 [.float .f64 x] w (RetR R fun u2 w1 => ∃ n3, u2 = .int .u64 n3 ∧ Aa Tryz.prog 52 [.int .u64 n3, .int .i64 16] w1 (RetR R fun u6 w5 => ∃ s7, u6 = .string s7 ∧ ∀ n9 : Int, n9 = IntKind.i64.wrap ((16 : Int) - ((ByteArray.size s7 : Nat) : Int)) → Aa Tryz.prog 53 [.string (ByteArray.mk (#[48]) : ByteArray), .int .i64 n9] w5 (RetR R fun u11 w10 => ∃ s12, u11 = .string s12 ∧ ∃ s14, Am Tryz.prog (eqS .add 9 (.tmp 10) (.tmp 11) (.string s12) (.string s7)) (.string s14) ∧ R (.returned (.string s14)) w10)))
theorem sx34.ok {x : Nat} {R : Ending → World → Prop} {w : World} (h : sx34 x R w) : Aa Tryz.prog 34 [.float .f64 x] w R :=
 okOf { pureTo := [12], named := [9] } mix Tryz.func34 (by kernel_rfl) (by kernel_rfl) (by kernel_rfl) h
def sx35_a (d : Nat) (s30 : ByteArray) (w32 : World) (R : Ending → World → Prop) (s31 : ByteArray) (i_0 i_1 i_2 i_3 : Int) (i_4 : Nat) : Prop :=
 Aa Tryz.prog 29 [.pointer (some ⟨d, 0, none⟩), .string s30] w32 (RetR R fun u34 w33 => ∃ n35 v36, u34 = .tuple #[.int .i64 n35, v36] ∧ (0 ≤ (1 : Int) ∧ (1 : Int) < (2 : Nat)) ∧ ∀ b38 w39, Ar w33 w39 b38 (.stringIter s31 0) → ∃ (I40 : Int → Int → Int → Int → Nat → World → Prop) (m40 : Int → Int → Int → Int → Nat → World → Nat), I40 i_0 i_1 i_2 i_3 i_4 w39 ∧ ∀ n41 n42 n43 n44 x45 w46, I40 n41 n42 n43 n44 x45 w46 → ∃ (s47 : ByteArray) (n48 : Nat), w46.heap[b38]? = some (.stringIter s47 n48) ∧ ((n48 < s47.size → ∀ w49, w49 = Au w46 b38 (.stringIter s47 (n48 + (Utf8.decode s47 n48).2)) → Aa Tryz.prog 31 [.pointer (some ⟨d, 0, none⟩), .int .u8 32] w49 (RetR R fun u51 w50 => ∃ v52, u51 = v52 ∧ ifB (((Utf8.decode s47 n48).1 : Int) == 110) (Aa Tryz.prog 30 [.int .i64 n42] w50 (RetR R fun u55 w54 => ∃ s56, u55 = .string s56 ∧ Aa Tryz.prog 29 [.pointer (some ⟨d, 0, none⟩), .string s56] w54 (RetR R fun u59 w58 => ∃ n60 v61, u59 = .tuple #[.int .i64 n60, v61] ∧ (I40 n41 0 n43 n44 x45 w58 ∧ m40 n41 0 n43 n44 x45 w58 < m40 n41 n42 n43 n44 x45 w46)))) (ifB (((Utf8.decode s47 n48).1 : Int) == 107) (Aa Tryz.prog 30 [.int .i64 n43] w50 (RetR R fun u64 w63 => ∃ s65, u64 = .string s65 ∧ Aa Tryz.prog 29 [.pointer (some ⟨d, 0, none⟩), .string s65] w63 (RetR R fun u68 w67 => ∃ n69 v70, u68 = .tuple #[.int .i64 n69, v70] ∧ (I40 n41 n42 0 n44 x45 w67 ∧ m40 n41 n42 0 n44 x45 w67 < m40 n41 n42 n43 n44 x45 w46)))) (ifB (((Utf8.decode s47 n48).1 : Int) == 117) (Aa Tryz.prog 52 [.int .u64 n44, .int .i64 10] w50 (RetR R fun u73 w72 => ∃ s74, u73 = .string s74 ∧ Aa Tryz.prog 29 [.pointer (some ⟨d, 0, none⟩), .string s74] w72 (RetR R fun u77 w76 => ∃ n78 v79, u77 = .tuple #[.int .i64 n78, v79] ∧ (I40 n41 n42 n43 0 x45 w76 ∧ m40 n41 n42 n43 0 x45 w76 < m40 n41 n42 n43 n44 x45 w46)))) (ifB (((Utf8.decode s47 n48).1 : Int) == 118) (Aa Tryz.prog 34 [.float .f64 x45] w50 (RetR R fun u82 w81 => ∃ s83, u82 = .string s83 ∧ Aa Tryz.prog 29 [.pointer (some ⟨d, 0, none⟩), .string s83] w81 (RetR R fun u86 w85 => ∃ n87 v88, u86 = .tuple #[.int .i64 n87, v88] ∧ (I40 n41 n42 n43 n44 0 w85 ∧ m40 n41 n42 n43 n44 0 w85 < m40 n41 n42 n43 n44 x45 w46)))) ((I40 n41 n42 n43 n44 x45 w50 ∧ m40 n41 n42 n43 n44 x45 w50 < m40 n41 n42 n43 n44 x45 w46))))))) ∧ (¬ n48 < s47.size → Aa Tryz.prog 31 [.pointer (some ⟨d, 0, none⟩), .int .u8 10] w46 (RetR R fun u91 w90 => ∃ v92, u91 = v92 ∧ ifB (n42 != 0) (R (.returned (.int .i64 1)) w90) (ifB (n43 != 0) (R (.returned (.int .i64 1)) w90) (ifB (n44 != 0) (R (.returned (.int .i64 1)) w90) (Aa Tryz.prog 48 [.float .f64 x45] w90 (RetR R fun u95 w94 => ∃ n96, u95 = .int .u64 n96 ∧ ifB (n96 != 0) (R (.returned (.int .i64 1)) w94) (R (.returned (.int .i64 0)) w94)))))))))
def sx35 (d : Nat) (i_0 i_1 i_2 i_3 : Int) (i_4 : Nat) (R : Ending → World → Prop) (w : World) : Prop :=
 ∀ w1, Grew w w1 → ifB (decide (i_0 < 1)) (R (.returned (.int .i64 200)) w1) (ifB (decide (i_0 > 11)) (R (.returned (.int .i64 200)) w1) (∀ w2, Grew w1 w2 → ((Aa Tryz.prog 54 [] w2 (RetR R fun u4 w3 => ∃ s5 s6 s7 s8 s9 s10 s11 s12 s13 s14 s15 s16 s17 s18 s19 s20 s21 s22 s23 s24 s25 s26 s27 s28, u4 = .agg #[.string s5, .string s6, .string s7, .string s8, .string s9, .string s10, .string s11, .string s12, .string s13, .string s14, .string s15, .string s16, .string s17, .string s18, .string s19, .string s20, .string s21, .string s22, .string s23, .string s24, .string s25, .string s26, .string s27, .string s28] ∧ Bb w2 w3 [] ∧ ∃ s30 s31, Am Tryz.prog (Instr.index 107 (.agg #[.string s5, .string s6, .string s7, .string s8, .string s9, .string s10, .string s11, .string s12, .string s13, .string s14, .string s15, .string s16, .string s17, .string s18, .string s19, .string s20, .string s21, .string s22, .string s23, .string s24, .string s25, .string s26, .string s27, .string s28]) (.int .i64 i_0)) (.agg #[.string s30, .string s31]) ∧ ∀ w32, Grew w3 w32 → Bb w3 w32 [] ∧ (0 ≤ (0 : Int) ∧ (0 : Int) < (2 : Nat)) ∧ sx35_a d s30 w32 R s31 i_0 i_1 i_2 i_3 i_4)) ∧ (∀ w98, Grew w2 w98 → Bb w2 w98 [] ∧ Aa Tryz.prog 54 [] w98 (RetR R fun u100 w99 => ∃ s101 s102 s103 s104 s105 s106 s107 s108 s109 s110 s111 s112 s113 s114 s115 s116 s117 s118 s119 s120 s121 s122 s123 s124, u100 = .agg #[.string s101, .string s102, .string s103, .string s104, .string s105, .string s106, .string s107, .string s108, .string s109, .string s110, .string s111, .string s112, .string s113, .string s114, .string s115, .string s116, .string s117, .string s118, .string s119, .string s120, .string s121, .string s122, .string s123, .string s124] ∧ Bb w98 w99 [] ∧ ∃ s126 s127, Am Tryz.prog (Instr.index 107 (.agg #[.string s101, .string s102, .string s103, .string s104, .string s105, .string s106, .string s107, .string s108, .string s109, .string s110, .string s111, .string s112, .string s113, .string s114, .string s115, .string s116, .string s117, .string s118, .string s119, .string s120, .string s121, .string s122, .string s123, .string s124]) (.int .i64 i_0)) (.agg #[.string s126, .string s127]) ∧ (0 ≤ (0 : Int) ∧ (0 : Int) < (2 : Nat)) ∧ sx35_a d s126 w99 R s127 i_0 i_1 i_2 i_3 i_4)))))
theorem sx35.ok {d : Nat} {i_0 i_1 i_2 i_3 : Int} {i_4 : Nat} {R : Ending → World → Prop} {w : World} (h : sx35 d i_0 i_1 i_2 i_3 i_4 R w) : Aa Tryz.prog 35 [.pointer (some ⟨d, 0, none⟩), .agg #[.int .i64 i_0, .int .i64 i_1, .int .i64 i_2, .int .u64 i_3, .float .f64 i_4]] w R :=
 okOf { locals := [3, 5], known := [28], pureTo := [19], draws := [(3, { order := (ol [1,2] (.alt (ol [0,3,4,5] .nil) (ol [4,0,3,5] .nil))), bars := [5] })], loops := [(6, { slots := [], cells := [(3, 46, [.int .i64, .int .i64, .int .i64, .int .u64, .float .f64])] })] } mix Tryz.func35 (by kernel_rfl) (by kernel_rfl) (by kernel_rfl) h
theorem O0 {x : Nat} {w : World} (hG : Glob w) (hx : x < 18446744073709551616) : Aa Tryz.prog 34 [.float .f64 x] w (Rets fun v w' => v = .string (bs (hexK 16 x)) ∧ Grew w w') := by
 refine sx34.ok ?_
 unfold sx34
 refine Gn.use fun v w1 ⟨hv, hw⟩ => ?_
 subst hv; subst hw
 refine ⟨_, rfl, (Hf hG hx).use fun v w5 ⟨hv, hg5⟩ => ?_⟩
 subst hv
 obtain ⟨h1, h2⟩ := Jg 15 x (Nat.lt_of_lt_of_le hx (by decide))
 refine ⟨_, rfl, ?_⟩
 rintro n9 rfl
 have e : IntKind.i64.wrap ((16 : Int) - ((ByteArray.size (bs (hexm x)) : Nat) : Int)) = ((16 - (hexm x).length : Nat) : Int) := by rw [A1, IntKind.wrap_i64]; omega
 rw [e]
 refine (Nb (by omega)).use fun v w10 ⟨hv, hg10⟩ => ?_
 subst hv
 refine ⟨_, rfl, _, E2 (by simp; omega), _, rfl, ?_, hg5.trans hg10⟩
 rw [h1]
theorem Pw {k : Nat} {a b : L8} (h : tabW[k]? = some (a, b)) : a.length ≤ 7 ∧ b.length ≤ 3 := by
 have : ∀ x ∈ tabW, x.1.length ≤ 7 ∧ x.2.length ≤ 3 := by decide
 exact this _ (List.mem_of_getElem? h)
theorem Mc {w : World} {B b b38 pos : Nat} {x : BldX} {l : L8} {s : ByteArray} (h : BA w B b x l) (hi : w.heap[b38]? = some (.stringIter s pos)) : ∀ k, x.Foot b k → k ≠ b38 := by
 rintro k hk rfl
 rcases hk with rfl | ⟨d, hd, hb⟩
 ·have := h.row; unfold Row at this; rw [this] at hi; cases hi
 ·rcases h.own.row with ⟨h1, -⟩ | ⟨g, cs', h1, -, h2, -⟩
  ·rw [h1] at hd; cases hd
  ·rw [h1] at hd; cases hd
   subst hb; unfold Row at h2; rw [h2] at hi; cases hi
def O1 (asks : L8) (s : Af) (l : L8) (w : World) (B b : Nat) (x : BldX) (b38 : Nat) (kind node n key : Int) (val : Nat) (w' : World) : Prop :=
 ∃ (j : Nat) (cur : Af) (pre : L8) (x' : BldX), kind = cur.kind ∧ node = cur.node ∧ n = cur.n ∧ key = cur.r.key ∧ val = cur.r.val ∧ cur.Fits ∧ j ≤ asks.length ∧ pre.length ≤ 21 * j ∧
  emit asks s = (pre ++ (emit (asks.drop j) cur).1, (emit (asks.drop j) cur).2) ∧ w'.heap[b38]? = some (.stringIter (bs asks) j) ∧ BA w' B b x' (l ++ pre) ∧ Upd (x.Foot b) w w' ∧ (∀ k, x'.Foot b k → x.Foot b k ∨ w.heap.size ≤ k)
theorem Ir {c : UInt8} {s : Af} (h : s.Fits) : (B7 c s).2.Fits ∧ (B7 c s).1.length ≤ 21 := by
 obtain ⟨h1, h2, h3, h4, h5⟩ := h
 have z : -9223372036854775808 ≤ (0 : Int) ∧ (0 : Int) < 9223372036854775808 := by omega
 unfold B7
 split
 ·exact ⟨⟨h1, z, h3, h4, h5⟩, by have := Ck h2; show (Lib.itoa s.node).length + 1 ≤ 21; omega⟩
 ·split
  ·exact ⟨⟨h1, h2, z, h4, h5⟩, by have := Ck h3; show (Lib.itoa s.n).length + 1 ≤ 21; omega⟩
  ·split
   ·refine ⟨⟨h1, h2, h3, ⟨by show (0 : Int) ≤ 0; omega, by show (0 : Int) < u64m; decide⟩, h5⟩, ?_⟩
    have := Jr (n := s.r.key.toNat) (by have := h4.2; simp only [u64m] at this; omega)
    show (Lib.decDigits s.r.key.toNat).length + 1 ≤ 21; omega
   ·exact ⟨⟨h1, h2, h3, h4, by show (0 : Nat) < 18446744073709551616; decide⟩, by show (hexK 16 s.r.val).length + 1 ≤ 21; rw [C5]; omega⟩
def E9 (s : Af) (l : L8) (w : World) (B b : Nat) (x : BldX) (code : Int) (w' : World) : Prop := match Go.Sx.stepT s with
 | .ok t => code = 0 ∧ BM w B b x (l ++ (t ++ [10])) w'
 | .error e => code = e ∧ Upd (x.Foot b) w w'
theorem Is {w0 w w32 : World} {b : Nat} {x : BldX} {l word asks : L8} {s : Af} {k : Nat} (hG : Glob w0) (hg0 : Grew w0 w) (h : BA w w0.heap.size b x l) (hl : l.length ≤ 1000000000) (hf : s.Fits) (ht : tabW[k]? = some (word, asks)) (hk : s.kind = k) (hk1 : 1 ≤ k) (hg : Grew w w32) :
  sx35_a b (bs word) w32 (Rets fun v w' => ∃ code : Int, v = .int .i64 code ∧ E9 s l w w0.heap.size b x code w') (bs asks) s.kind s.node s.n s.r.key s.r.val := by
 unfold sx35_a
 have hst : Go.Sx.stepT s = if (emit asks s).2.bare then .ok (word ++ (emit asks s).1) else .error 1 := by
  obtain ⟨j, rfl⟩ : ∃ j, k = j + 1 := ⟨k - 1, by omega⟩
  have ht' : Df[j]? = some (word, asks) := by simpa [tabW] using ht
  have : Fs s.kind = some (word, asks) := by
   unfold Fs; rw [hk, if_pos (by omega), show (((j + 1 : Nat) : Int) - 1).toNat = j from by omega]; exact ht'
  unfold Go.Sx.stepT; rw [this]
 obtain ⟨lw, la⟩ := Pw ht
 have hB : w0.heap.size ≤ w32.heap.size := Nat.le_trans hg0.size hg.size
 refine (Bo (h.grew hg) hB (by omega)).use fun v w33 ⟨⟨nn, uu, hv⟩, x1, h1, hu1, hf1⟩ => ?_
 subst hv
 refine ⟨_, _, rfl, by decide, fun b38 w39 hal => ⟨O1 asks s (l ++ word) w w0.heap.size b x b38, fun _ _ _ _ _ w' => E5 asks b38 w', ?_, ?_⟩⟩
 ·refine ⟨0, s, [], x1, rfl, rfl, rfl, rfl, rfl, hf, Nat.zero_le _, by simp, by simp, hal.at_, ?_, (hg.then_upd hu1).then_grew hal.grew, fun k hk => ?_⟩
  ·rw [List.append_nil]; exact h1.grew hal.grew
  ·rcases hf1 k hk with h' | h'
   ·exact .inl h'
   ·exact .inr (Nat.le_trans hg.size h')
 rintro kd nd nn ky vl w46 ⟨j, cur, pre, x', rfl, rfl, rfl, rfl, rfl, hcf, hj, hpl, hem, hit, hb, hu, hft⟩
 have hlow : ∀ k, x.Foot b k → w0.heap.size ≤ k := fun k hk => (h.lt hk).1
 have hlow' : ∀ {x'' : BldX}, (∀ k, x''.Foot b k → x.Foot b k ∨ w.heap.size ≤ k) → ∀ k, x''.Foot b k → w0.heap.size ≤ k := fun hh k hk => by
  rcases hh k hk with h' | h'
  ·exact hlow k h'
  ·exact Nat.le_trans hg0.size h'
 have hg46 : Grew w0 w46 := hg0.then_own hu hlow
 refine ⟨_, _, hit, ?_, ?_⟩
 ·rw [A1]
  rintro hjl w49 rfl
  have hqc : asks[j]? = some asks[j] := List.getElem?_eq_getElem hjl
  have hqs := Lc ht asks[j] (List.getElem_mem _)
  have h128 : (asks[j]).toNat < 128 := by rcases hqs with h | h | h | h <;> rw [h] <;> decide
  rw [Om hqc h128]
  have hbl : b38 < w46.heap.size := lt_of_heap hit
  have hat := Jt (o := .stringIter (bs asks) (j + 1)) hbl
  have hup := Ii w46 b38 (.stringIter (bs asks) (j + 1))
  have hne := Mc hb hit
  have hb49 := hb.upd hup hne
  have hnew : w.heap.size ≤ b38 := by
   have := hal.new; have := hu1.size; have := hg.size; omega
  have hu49 : Upd (x.Foot b) w (Au w46 b38 (.stringIter (bs asks) (j + 1))) :=
   ⟨hup.os.trans hu.os, hup.tape.trans hu.tape, hup.output.trans hu.output, Nat.le_trans hu.size hup.size, fun k hk hn => (hup.block k (Nat.lt_of_lt_of_le hk hu.size) (by omega)).trans (hu.block k hk hn)⟩
  have hB49 : w0.heap.size ≤ (Au w46 b38 (.stringIter (bs asks) (j + 1))).heap.size := Nat.le_trans hg46.size hup.size
  have hlp : (l ++ word ++ pre).length ≤ 1000001000 := by simp only [List.length_append]; omega
  have e32 : (32 : Int) = (((32 : UInt8).toNat : Nat) : Int) := rfl
  rw [e32]
  refine (Ed hb49 hB49 (by omega)).use fun v w50 ⟨x2, h2, hu2, hf2⟩ => ?_
  have hit50 : w50.heap[b38]? = some (.stringIter (bs asks) (j + 1)) := by
   rw [hu2.block b38 (by simpa [Au] using hbl) fun hk => hne b38 hk rfl]; exact hat
  have c2 : ∀ k, x2.Foot b k → x.Foot b k ∨ w.heap.size ≤ k := fun k hk => by
   rcases hf2 k hk with h' | h'
   ·exact hft k h'
   ·exact .inr (Nat.le_trans hu49.size h')
  have hu50 : Upd (x.Foot b) w w50 :=
   ⟨hu2.os.trans hu49.os, hu2.tape.trans hu49.tape, hu2.output.trans hu49.output, Nat.le_trans hu49.size hu2.size, fun k hk hn => (hu2.block k (Nat.lt_of_lt_of_le hk hu49.size) fun hk' => by
    rcases hft k hk' with h' | h'
    ·exact hn h'
    ·omega).trans (hu49.block k hk hn)⟩
  have hg50 : Grew w0 w50 := hg0.then_own hu50 hlow
  have hemj : emit (asks.drop j) cur = ((B7 asks[j] cur).1 ++ (emit (asks.drop (j + 1)) (B7 asks[j] cur).2).1, (emit (asks.drop (j + 1)) (B7 asks[j] cur).2).2) := by
   rw [List.drop_eq_getElem_cons hjl]; rfl
  obtain ⟨ef, eln⟩ := Ir (c := asks[j]) hcf
  have fin : ∀ (t : L8) (w54 : World), (B7 asks[j] cur).1 = 32 :: t → Grew w50 w54 → Aa Tryz.prog 29 [.pointer (some ⟨b, 0, none⟩), .string (bs t)] w54 (Rets fun v w' => (∃ n u, v = .tuple #[.int .i64 n, u]) ∧
    O1 asks s (l ++ word) w w0.heap.size b x b38 (B7 asks[j] cur).2.kind (B7 asks[j] cur).2.node (B7 asks[j] cur).2.n (B7 asks[j] cur).2.r.key (B7 asks[j] cur).2.r.val w' ∧ E5 asks b38 w' < E5 asks b38 w46) := fun t w54 het hg54 => by
   rw [het] at eln
   simp only [List.length_cons] at eln
   refine (Bo (h2.grew hg54) (Nat.le_trans hg50.size hg54.size) (by simp only [List.length_append, List.length_singleton] at hlp ⊢; omega)).mono fun en w58 ⟨v, hv, ⟨nu, x3, h3, hu3, hf3⟩⟩ => ⟨v, hv, nu, ?_, ?_⟩
   ·have hne2 := Mc h2 hit50
    refine ⟨j + 1, _, pre ++ (B7 asks[j] cur).1, x3, rfl, rfl, rfl, rfl, rfl, ef, hjl, by rw [het]; simp only [List.length_append, List.length_cons]; omega, by rw [hem, hemj]; simp, ?_, ?_, ?_, fun k hk => ?_⟩
    ·rw [hu3.block b38 (Nat.lt_of_lt_of_le (lt_of_heap hit50) hg54.size) fun hk => hne2 b38 hk rfl, hg54.block b38 (lt_of_heap hit50)]; exact hit50
    ·have e : l ++ word ++ pre ++ [32] ++ t = l ++ word ++ (pre ++ (B7 asks[j] cur).1) := by rw [het]; simp
     rw [e] at h3; exact h3
    ·exact ⟨hu3.os.trans (hg54.os.trans hu50.os), hu3.tape.trans (hg54.tape.trans hu50.tape), hu3.output.trans (hg54.output.trans hu50.output), Nat.le_trans hu50.size (Nat.le_trans hg54.size hu3.size), fun k hk hn => (hu3.block k (Nat.lt_of_lt_of_le hk (Nat.le_trans hu50.size hg54.size)) fun hk' => by
      rcases c2 k hk' with h' | h'
      ·exact hn h'
      ·omega).trans ((hg54.block k (Nat.lt_of_lt_of_le hk hu50.size)).trans (hu50.block k hk hn))⟩
    ·rcases hf3 k hk with h' | h'
     ·exact c2 k h'
     ·exact .inr (Nat.le_trans hu50.size (Nat.le_trans hg54.size h'))
   ·have hne2 := Mc h2 hit50
    have : w58.heap[b38]? = some (.stringIter (bs asks) (j + 1)) := by
     rw [hu3.block b38 (Nat.lt_of_lt_of_le (lt_of_heap hit50) hg54.size) fun hk => hne2 b38 hk rfl, hg54.block b38 (lt_of_heap hit50)]; exact hit50
    unfold E5; rw [this, hit]; show asks.length - (j + 1) < asks.length - j; omega
  obtain ⟨f1, f2, f3, f4, f5⟩ := hcf
  refine ⟨_, rfl, fun h110 => ?_, fun n110 => ⟨fun h107 => ?_, fun n107 => ⟨fun h117 => ?_, fun n117 => ⟨fun h118 => ?_, fun n118 => ?_⟩⟩⟩⟩
  ·have hq : asks[j] = 110 := by rcases hqs with h | h | h | h <;> rw [h] at h110 ⊢ <;> revert h110 <;> decide
   refine (Hl (hG.grew hg50) ⟨f2.1, by omega⟩).use fun v w54 ⟨hv, hg54⟩ => ?_
   subst hv
   refine ⟨_, rfl, (fin (Lib.itoa cur.node) w54 (by rw [hq]; rfl) hg54).use fun v w58 ⟨⟨q1, q2, hv⟩, hi⟩ => ⟨q1, q2, hv, ?_⟩⟩
   rw [hq] at hi; exact hi
  ·have hq : asks[j] = 107 := by rcases hqs with h | h | h | h <;> rw [h] at h107 n110 ⊢ <;> revert h107 n110 <;> decide
   refine (Hl (hG.grew hg50) ⟨f3.1, by omega⟩).use fun v w54 ⟨hv, hg54⟩ => ?_
   subst hv
   refine ⟨_, rfl, (fin (Lib.itoa cur.n) w54 (by rw [hq]; rfl) hg54).use fun v w58 ⟨⟨q1, q2, hv⟩, hi⟩ => ⟨q1, q2, hv, ?_⟩⟩
   rw [hq] at hi; exact hi
  ·have hq : asks[j] = 117 := by rcases hqs with h | h | h | h <;> rw [h] at h117 ⊢ <;> revert h117 <;> decide
   have hkn : cur.r.key = ((cur.r.key.toNat : Nat) : Int) := by have := f4.1; omega
   rw [hkn]
   refine (Ej (hG.grew hg50) (n := cur.r.key.toNat) (by have := f4.2; simp only [u64m] at this; omega)).use fun v w54 ⟨hv, hg54⟩ => ?_
   subst hv
   refine ⟨_, rfl, (fin (Lib.decDigits cur.r.key.toNat) w54 (by rw [hq]; rfl) hg54).use fun v w58 ⟨⟨q1, q2, hv⟩, hi⟩ => ⟨q1, q2, hv, ?_⟩⟩
   rw [hq] at hi; exact hi
  ·have hq : asks[j] = 118 := by rcases hqs with h | h | h | h <;> rw [h] at h118 ⊢ <;> revert h118 <;> decide
   refine (O0 (hG.grew hg50) f5).use fun v w54 ⟨hv, hg54⟩ => ?_
   subst hv
   refine ⟨_, rfl, (fin (hexK 16 cur.r.val) w54 (by rw [hq]; rfl) hg54).use fun v w58 ⟨⟨q1, q2, hv⟩, hi⟩ => ⟨q1, q2, hv, ?_⟩⟩
   rw [hq] at hi; exact hi
  ·exfalso
   rcases hqs with h | h | h | h <;> rw [h] at n110 n107 n117 n118
   ·exact absurd n110 (by decide)
   ·exact absurd n107 (by decide)
   ·exact absurd n117 (by decide)
   ·exact absurd n118 (by decide)
 ·rw [A1]
  intro hjl
  have hjq : j = asks.length := by omega
  have he : emit asks s = (pre, cur) := by
   rw [hem, List.drop_eq_nil_of_le (by omega)]; simp [emit]
  rw [he] at hst
  have e10 : (10 : Int) = (((10 : UInt8).toNat : Nat) : Int) := rfl
  rw [e10]
  refine (Ed hb hg46.size (by simp only [List.length_append]; omega)).use fun v w90 ⟨x2, h2, hu2, hf2⟩ => ⟨_, rfl, ?_⟩
  have hu90 : Upd (x.Foot b) w w90 :=
   ⟨hu2.os.trans hu.os, hu2.tape.trans hu.tape, hu2.output.trans hu.output, Nat.le_trans hu.size hu2.size, fun k hk hn => (hu2.block k (Nat.lt_of_lt_of_le hk hu.size) fun hk' => by
    rcases hft k hk' with h' | h'
    ·exact hn h'
    ·omega).trans (hu.block k hk hn)⟩
  have bad : ¬ cur.bare → ∀ w', w' = w90 → Rets (fun v w' => ∃ code : Int, v = .int .i64 code ∧ E9 s l w w0.heap.size b x code w') (.returned (.int .i64 1)) w' := fun hb w' hw => by
   subst hw
   refine ⟨_, rfl, 1, rfl, ?_⟩
   unfold E9; rw [hst, if_neg hb]; exact ⟨rfl, hu90⟩
  refine ⟨fun hne => bad (fun hb => ?_) _ rfl, fun e1 => ⟨fun hne => bad (fun hb => ?_) _ rfl, fun e2 => ⟨fun hne => bad (fun hb => ?_) _ rfl, fun e3 => Gn.use fun v w94 ⟨hv, hw⟩ => ?_⟩⟩⟩
  ·rw [hb.1] at hne; cases hne
  ·rw [hb.2.1] at hne; cases hne
  ·rw [hb.2.2.1] at hne; cases hne
  subst hv; subst hw
  refine ⟨_, rfl, fun hne => bad (fun hb => ?_) _ rfl, fun e4 => ?_⟩
  ·rw [hb.2.2.2] at hne; cases hne
  ·have hbare : cur.bare := ⟨by simpa using e1, by simpa using e2, by simpa using e3, by simpa using e4⟩
   refine ⟨_, rfl, 0, rfl, ?_⟩
   unfold E9; rw [hst, if_pos hbare]
   refine ⟨rfl, x2, ?_, hu90, fun k hk => ?_⟩
   ·have e : l ++ word ++ pre ++ [10] = l ++ (word ++ pre ++ [10]) := by simp
    rw [e] at h2; exact h2
   ·rcases hf2 k hk with h' | h'
    ·exact hft k h'
    ·exact .inr (Nat.le_trans hu.size h')
theorem O2 {w0 w : World} {b : Nat} {x : BldX} {l : L8} {s : Af} (hG : Glob w0) (hg0 : Grew w0 w) (h : BA w w0.heap.size b x l) (hl : l.length ≤ 1000000000) (hf : s.Fits) :
  Aa Tryz.prog 35 [.pointer (some ⟨b, 0, none⟩), s.val] w (Rets fun v w' => ∃ code : Int, v = .int .i64 code ∧ E9 s l w w0.heap.size b x code w') := by
 refine sx35.ok ?_
 unfold sx35
 intro w1 hg1
 have bad : ¬ (1 ≤ s.kind ∧ s.kind ≤ 11) → Rets (fun v w' => ∃ code : Int, v = .int .i64 code ∧ E9 s l w w0.heap.size b x code w') (.returned (.int .i64 200)) w1 := fun hk => by
  refine ⟨_, rfl, 200, rfl, ?_⟩
  have : Fs s.kind = none := by
   unfold Fs
   split
   ·rename_i h1
    rw [List.getElem?_eq_none]
    show 11 ≤ _; omega
   ·rfl
  unfold E9 Go.Sx.stepT; rw [this]; exact ⟨rfl, hg1.upd⟩
 refine ⟨fun hlt => bad fun h => ?_, fun hge => ⟨fun hgt => bad fun h => ?_, fun hle w2 hg2 => ?_⟩⟩
 ·simp only [decide_eq_true_eq] at hlt; omega
 ·simp only [decide_eq_true_eq] at hgt; omega
 simp only [decide_eq_false_iff_not] at hge hle
 obtain ⟨k, hk⟩ : ∃ k : Nat, s.kind = k := ⟨s.kind.toNat, by omega⟩
 obtain ⟨word, asks, ht⟩ : ∃ p q, tabW[k]? = some (p, q) := by
  have hl : k < tabW.length := by show k < 12; omega
  exact ⟨tabW[k].1, tabW[k].2, by rw [List.getElem?_eq_getElem hl]⟩
 refine ⟨Ij.use fun v w3 ⟨hv, hg3⟩ => ?_, fun w98 hg98 => ⟨trivial, Ij.use fun v w99 ⟨hv, hg99⟩ => ?_⟩⟩
 ·subst hv
  refine ⟨_, _, _, _, _, _, _, _, _, _, _, _, _, _, _, _, _, _, _, _, _, _, _, _, rfl, trivial, _, _, by rw [hk]; exact Ik ht, fun w32 hg32 => ⟨trivial, by decide, ?_⟩⟩
  exact Is hG hg0 h hl hf ht hk (by omega) (hg1.trans (hg2.trans (hg3.trans hg32)))
 ·subst hv
  refine ⟨_, _, _, _, _, _, _, _, _, _, _, _, _, _, _, _, _, _, _, _, _, _, _, _, rfl, trivial, _, _, by rw [hk]; exact Ik ht, by decide, ?_⟩
  exact Is hG hg0 h hl hf ht hk (by omega) (hg1.trans (hg2.trans (hg98.trans hg99)))
end Go.Proofs.YtbmmaibbiahkkaaGreatDoor
