/- A step's line read. Conditions: none. -/
import Derived.Test.YtbmmaibbiahkkaaGreatDoorProg
import Derived.Test.YtbmmaibbiahkkaaGreatDoorScrF
import Derived.Lib.TrimUEq
namespace Go.Proofs.YtbmmaibbiahkkaaGreatDoor
open Go.Sx
set_option maxRecDepth 100000
set_option linter.unusedVariables false
set_option linter.unusedSimpArgs false
def sx54  (R : Ending → World → Prop) (w : World) : Prop :=
 ∀ w1, Grew w w1 → R (.returned (.agg #[.string (ByteArray.mk (#[]) : ByteArray), .string (ByteArray.mk (#[]) : ByteArray), .string (ByteArray.mk (#[112, 114, 111, 100, 117, 99, 101]) : ByteArray), .string (ByteArray.mk (#[110, 117, 118]) : ByteArray), .string (ByteArray.mk (#[115, 119, 105, 116, 99, 104]) : ByteArray), .string (ByteArray.mk (#[110, 107]) : ByteArray), .string (ByteArray.mk (#[116, 105, 99, 107]) : ByteArray), .string (ByteArray.mk (#[]) : ByteArray), .string (ByteArray.mk (#[100, 101, 108, 105, 118, 101, 114]) : ByteArray), .string (ByteArray.mk (#[107]) : ByteArray), .string (ByteArray.mk (#[100, 114, 111, 112]) : ByteArray), .string (ByteArray.mk (#[107]) : ByteArray), .string (ByteArray.mk (#[99, 111, 112, 121]) : ByteArray), .string (ByteArray.mk (#[107]) : ByteArray), .string (ByteArray.mk (#[99, 117, 116]) : ByteArray), .string (ByteArray.mk (#[110, 107]) : ByteArray), .string (ByteArray.mk (#[99, 114, 97, 115, 104]) : ByteArray), .string (ByteArray.mk (#[110]) : ByteArray), .string (ByteArray.mk (#[114, 101, 115, 116, 97, 114, 116]) : ByteArray), .string (ByteArray.mk (#[110]) : ByteArray), .string (ByteArray.mk (#[113, 117, 101, 114, 121]) : ByteArray), .string (ByteArray.mk (#[117]) : ByteArray), .string (ByteArray.mk (#[114, 111, 117, 110, 100]) : ByteArray), .string (ByteArray.mk (#[]) : ByteArray)])) w1
theorem sx54.ok  {R : Ending → World → Prop} {w : World} (h : sx54  R w) : Aa Tryz.prog 54 [] w R :=
 okOf { locals := [0] } mix Tryz.func54 (by kernel_rfl) (by kernel_rfl) (by kernel_rfl) h
def sx44 (d : ByteArray) (i : Option Addr) (i_n i_c : Nat) (R : Ending → World → Prop) (w : World) : Prop :=
  ∀ w1, Grew w w1 → Aa Tryz.prog 54 [] w1 (RetR R fun u3 w2 => ∃ s4 s5 s6 s7 s8 s9 s10 s11 s12 s13 s14 s15 s16 s17 s18 s19 s20 s21 s22 s23 s24 s25 s26 s27, u3 = .agg #[.string s4, .string s5, .string s6, .string s7, .string s8, .string s9, .string s10, .string s11, .string s12, .string s13, .string s14, .string s15, .string s16, .string s17, .string s18, .string s19, .string s20, .string s21, .string s22, .string s23, .string s24, .string s25, .string s26, .string s27] ∧ ∃ (I29 : Int → Int → Int → Int → Int → Nat → World → Prop) (m29 : Int → Int → Int → Int → Int → Nat → World → Nat), I29 0 0 0 0 0 0 w2 ∧ ∀ n30 n31 n32 n33 n34 x35 w36, I29 n30 n31 n32 n33 n34 x35 w36 → ifB (decide (n30 < 12)) (∃ s37 s38, Am Tryz.prog (Instr.index 107 (.agg #[.string s4, .string s5, .string s6, .string s7, .string s8, .string s9, .string s10, .string s11, .string s12, .string s13, .string s14, .string s15, .string s16, .string s17, .string s18, .string s19, .string s20, .string s21, .string s22, .string s23, .string s24, .string s25, .string s26, .string s27]) (.int .i64 n30)) (.agg #[.string s37, .string s38]) ∧ ∀ w39, Grew w36 w39 → (0 ≤ (0 : Int) ∧ (0 : Int) < (2 : Nat)) ∧ ∃ b40, Am Tryz.prog (eqS .neq 9 (.tmp 16) (.tmp 17) (.string s37) (.string d)) (.bool b40) ∧ ifB b40 ((I29 (IntKind.i64.wrap (n30 + 1)) n31 n32 n33 n34 x35 w39 ∧ m29 (IntKind.i64.wrap (n30 + 1)) n31 n32 n33 n34 x35 w39 < m29 n30 n31 n32 n33 n34 x35 w36)) (∃ b41, Am Tryz.prog (eqS .eql 9 (.tmp 20) (.const (.string (ByteArray.mk (#[]) : ByteArray))) (.string d) (.string (ByteArray.mk (#[]) : ByteArray))) (.bool b41) ∧ ifB b41 ((I29 (IntKind.i64.wrap (n30 + 1)) n31 n32 n33 n34 x35 w39 ∧ m29 (IntKind.i64.wrap (n30 + 1)) n31 n32 n33 n34 x35 w39 < m29 n30 n31 n32 n33 n34 x35 w36)) ((0 ≤ (1 : Int) ∧ (1 : Int) < (2 : Nat)) ∧ Aa Tryz.prog 21 [.bool (((i_n : Nat) : Int) == ((ByteArray.size s38 : Nat) : Int)), .int .i64 211] w39 (RetR R fun u43 w42 => u43 = .tuple #[] ∧ ∀ w45, Grew w42 w45 → (0 ≤ (1 : Int) ∧ (1 : Int) < (2 : Nat)) ∧ ∀ b46 w47, Ar w45 w47 b46 (.stringIter s38 0) → ∃ (I48 : Int → Int → Int → Int → Nat → World → Prop) (m48 : Int → Int → Int → Int → Nat → World → Nat), I48 n30 0 0 0 0 w47 ∧ ∀ n49 n50 n51 n52 x53 w54, I48 n49 n50 n51 n52 x53 w54 → ∃ (s55 : ByteArray) (n56 : Nat), w54.heap[b46]? = some (.stringIter s55 n56) ∧ ((n56 < s55.size → ∀ w57, w57 = Au w54 b46 (.stringIter s55 (n56 + (Utf8.decode s55 n56).2)) → ifB (((Utf8.decode s55 n56).1 : Int) == 110) (Ac i (fun d58 => (0 ≤ (n56 : Int) ∧ (n56 : Int) < (i_n : Nat)) ∧ ∃ s59, w57.cell? (Addr.add d58 ((n56 : Int).toNat * 1)) = some (.string s59) ∧ Aa Tryz.prog 42 [.string s59] w57 (RetR R fun u61 w60 => ∃ n62, u61 = .int .i64 n62 ∧ (I48 n49 n62 n51 n52 x53 w60 ∧ m48 n49 n62 n51 n52 x53 w60 < m48 n49 n50 n51 n52 x53 w54)))) (ifB (((Utf8.decode s55 n56).1 : Int) == 107) (Ac i (fun d64 => (0 ≤ (n56 : Int) ∧ (n56 : Int) < (i_n : Nat)) ∧ ∃ s65, w57.cell? (Addr.add d64 ((n56 : Int).toNat * 1)) = some
 (.string s65) ∧ Aa Tryz.prog 42 [.string s65] w57 (RetR R fun u67 w66 => ∃ n68, u67 = .int .i64 n68 ∧ (I48 n49 n50 n68 n52 x53 w66 ∧ m48 n49 n50 n68 n52 x53 w66 < m48 n49 n50 n51 n52 x53 w54)))) (ifB (((Utf8.decode s55 n56).1 : Int) == 117) (Ac i (fun d70 => (0 ≤ (n56 : Int) ∧ (n56 : Int) < (i_n : Nat)) ∧ ∃ s71, w57.cell? (Addr.add d70 ((n56 : Int).toNat * 1)) = some (.string s71) ∧ Aa Tryz.prog 66 [.string s71] w57 (RetR R fun u73 w72 => ∃ n74, u73 = .int .u64 n74 ∧ (I48 n49 n50 n51 n74 x53 w72 ∧ m48 n49 n50 n51 n74 x53 w72 < m48 n49 n50 n51 n52 x53 w54)))) (ifB (((Utf8.decode s55 n56).1 : Int) == 118) (Ac i (fun d76 => (0 ≤ (n56 : Int) ∧ (n56 : Int) < (i_n : Nat)) ∧ ∃ s77, w57.cell? (Addr.add d76 ((n56 : Int).toNat * 1)) = some (.string s77) ∧ Aa Tryz.prog 43 [.string s77] w57 (RetR R fun u79 w78 => ∃ x80, u79 = .float .f64 x80 ∧ (I48 n49 n50 n51 n52 x80 w78 ∧ m48 n49 n50 n51 n52 x80 w78 < m48 n49 n50 n51 n52 x53 w54)))) ((I48 n49 n50 n51 n52 x53 w57 ∧ m48 n49 n50 n51 n52 x53 w57 < m48 n49 n50 n51 n52 x53 w54)))))) ∧ (¬ n56 < s55.size → R (.returned (.agg #[.int .i64 n49, .int .i64 n50, .int .i64 n51, .int .u64 n52, .float .f64 x53])) w54)))))) (Aa Tryz.prog 21 [.bool false, .int .i64 210] w36 (RetR R fun u83 w82 => u83 = .tuple #[] ∧ R (.returned (.agg #[.int .i64 0, .int .i64 0, .int .i64 0, .int .u64 0, .float .f64 0])) w82)))
theorem sx44.ok {d : ByteArray} {i : Option Addr} {i_n i_c : Nat} {R : Ending → World → Prop} {w : World} (h : sx44 d i i_n i_c R w) : Aa Tryz.prog 44 [.string d, .slice i i_n i_c] w R :=
 okOf { locals := [4, 6, 7], known := [36], pureTo := [14, 18, 21], loops := [(8, { slots := [], cells := [(7, 46, [.int .i64, .int .i64, .int .i64, .int .u64, .float .f64])] }), (1002, { slots := [(11, .int .i64)], cells := [(4, 46, [.int .i64, .int .i64, .int .i64, .int .u64, .float .f64])] })] } mix Tryz.func44 (by kernel_rfl) (by kernel_rfl) (by kernel_rfl) h
theorem Om {l : L8} {j : Nat} {c : UInt8} (h : l[j]? = some c) (hc : c.toNat < 128) : Utf8.decode (bs l) j = (c.toNat, 1) := by
 rw [Lib.decode_N, A8, show l.getD j 0 = c from by rw [List.getD_eq_getElem?_getD, h]; rfl, Lib.decodeN_ascii _ _ _ _ _ hc]
theorem Jt {w : World} {b : Nat} {o : Obj} (h : b < w.heap.size) : (Au w b o).heap[b]? = some o := by
 simp only [Au, Array.getElem?_setIfInBounds, if_true, if_pos h]
theorem Ii (w : World) (b : Nat) (o : Obj) : Upd (fun k => k = b) w (Au w b o) :=
 ⟨rfl, rfl, rfl, by simp [Au], fun k _ hk => by simp only [Au, Array.getElem?_setIfInBounds, if_neg (fun e : b = k => hk e.symm)]⟩
def tabW : List (L8 × L8) := ([], []) :: Df
def On : Value := .agg (tabW.flatMap fun x => [.string (bs x.1), .string (bs x.2)]).toArray
theorem Ij {w : World} : Aa Tryz.prog 54 [] w (Rets fun v w' => v = On ∧ Grew w w') := by
 refine sx54.ok ?_
 unfold sx54
 exact fun w1 hg => ⟨_, rfl, rfl, hg⟩
theorem Ik {k : Nat} {a b : L8} (h : tabW[k]? = some (a, b)) : Am Tryz.prog (Instr.index 107 On (.int .i64 (k : Int))) (.agg #[.string (bs a), .string (bs b)]) := by
 have hk : k < 12 := (List.getElem?_eq_some_iff.1 h).1
 have : k = 0 ∨ k = 1 ∨ k = 2 ∨ k = 3 ∨ k = 4 ∨ k = 5 ∨ k = 6 ∨ k = 7 ∨ k = 8 ∨ k = 9 ∨ k = 10 ∨ k = 11 := by omega
 rcases this with rfl | rfl | rfl | rfl | rfl | rfl | rfl | rfl | rfl | rfl | rfl | rfl <;> (cases h; exact fun w => by kernel_rfl)
theorem Il : ∀ (cs : L8) (xs : List L8) (s : Af), cs.length ≠ xs.length → Cd cs xs s = none
 | [], [], _, h => (h rfl).elim
 | [], _ :: _, _, _ => rfl
 | _ :: _, [], _, _ => rfl
 | c :: cs, a :: xs, s, h => by
  simp only [Cd]
  cases setA c a s with
  | none => rfl
  | some t => exact Il cs xs t (by simpa using h)
theorem Oo {k : Nat} {a b : L8} (h : tabW[k]? = some (a, b)) (h0 : a ≠ []) : Ee a = some (k, b) := by
 have hk : k < 12 := (List.getElem?_eq_some_iff.1 h).1
 have : ∀ i : Fin 12, ∀ x, tabW[i.val]? = some x → x.1 ≠ [] → Ee x.1 = some (i.val, x.2) := by decide
 exact this ⟨k, hk⟩ _ h h0
theorem Lc {k : Nat} {a b : L8} (h : tabW[k]? = some (a, b)) : ∀ c ∈ b, c = 110 ∨ c = 107 ∨ c = 117 ∨ c = 118 := by
 have : ∀ x ∈ tabW, ∀ c ∈ x.2, c = 110 ∨ c = 107 ∨ c = 117 ∨ c = 118 := by decide
 exact this _ (List.mem_of_getElem? h)
theorem Oq {w asks : L8} {k : Nat} (h : Ee w = some (k, asks)) : tabW[k]? = some (w, asks) ∧ w ≠ [] := by
 have h1 := K4 h
 obtain ⟨hm, h2, h3, -⟩ := F1 h1
 unfold Fs at h1
 rw [if_pos h2] at h1
 have hne : ∀ x ∈ Df, x.1 ≠ [] := by decide
 refine ⟨?_, hne _ hm⟩
 obtain ⟨j, rfl⟩ : ∃ j, k = j + 1 := ⟨k - 1, by omega⟩
 rw [show (((j + 1 : Nat) : Int) - 1).toNat = j by omega] at h1
 exact h1
def Ot (asks : L8) (args : List L8) (k : Nat) (w0 : World) (b : Nat) (kind node n key : Int) (val : Nat) (w' : World) : Prop :=
 ∃ (j : Nat) (cur : Af), kind = cur.kind ∧ node = cur.node ∧ n = cur.n ∧ key = cur.r.key ∧ val = cur.r.val ∧ j ≤ asks.length ∧ Cd asks args (step0 k) = Cd (asks.drop j) (args.drop j) cur ∧
  w'.heap[b]? = some (.stringIter (bs asks) j) ∧ Upd (fun x => x = b) w0 w'
def E5 (asks : L8) (b : Nat) (w' : World) : Nat := match w'.heap[b]? with
 | some (.stringIter _ p) => asks.length - p
 | _ => 0
theorem step_ok {word : L8} {args : List L8} {a : Option Addr} {n c : Nat} {w : World} (hG : Glob w) (hr : Reads w Enc.text (a, n, c) args) (hs : ∀ x ∈ args, x.length ≤ 281474976710656) :
  Aa Tryz.prog 44 [.string (bs word), .slice a n c] w (OrG (Ft (word :: args)) (fun s v w' => v = s.val ∧ Grew w w') (Grew w)) := by
 refine sx44.ok ?_
 unfold sx44
 have hn : n = args.length := hr.2.1
 subst hn
 intro w1 hg1
 refine Ij.use fun v w2 ⟨hv, hg2⟩ => ?_
 subst hv
 refine ⟨_, _, _, _, _, _, _, _, _, _, _, _, _, _, _, _, _, _, _, _, _, _, _, _, rfl,
  fun k n31 n32 n33 n34 x35 w' => ∃ i : Nat, k = i ∧ i ≤ 12 ∧ (∀ j p q, j < i → tabW[j]? = some (p, q) → p ≠ word ∨ word = []) ∧ Grew w w', fun k _ _ _ _ _ _ => 12 - k.toNat,
  ⟨0, rfl, by omega, fun j p q h => (by omega), hg1.trans hg2⟩, ?_⟩
 rintro k n31 n32 n33 n34 x35 w36 ⟨i, rfl, hi, hnot, hg36⟩
 refine ⟨fun hlt => ?_, fun hge => ?_⟩
 ·simp only [decide_eq_true_eq] at hlt
  have hi12 : i < 12 := by omega
  obtain ⟨p, q, hpq⟩ : ∃ p q, tabW[i]? = some (p, q) := by
   have hl : i < tabW.length := by show i < 12; exact hi12
   exact ⟨tabW[i].1, tabW[i].2, by rw [List.getElem?_eq_getElem hl]⟩
  have nxt : ∀ w39, Grew w w39 → (p ≠ word ∨ word = []) → (∃ i' : Nat, IntKind.i64.wrap ((i : Int) + 1) = i' ∧ i' ≤ 12 ∧ (∀ j p q, j < i' → tabW[j]? = some (p, q) → p ≠ word ∨ word = []) ∧ Grew w w39) ∧ 12 - (IntKind.i64.wrap ((i : Int) + 1)).toNat < 12 - ((i : Int)).toNat := fun w39 hg hw => by
   have ew := G1 i (by omega)
   rw [ew, Int.toNat_natCast, Int.toNat_natCast]
   refine ⟨⟨i + 1, rfl, by omega, fun j p' q' hj hp => ?_, hg⟩, by omega⟩
   rcases Nat.lt_or_ge j i with h | h
   ·exact hnot j p' q' h hp
   ·have : j = i := by omega
    subst this; rw [hpq] at hp; cases hp; exact hw
  refine ⟨_, _, Ik hpq, fun w39 hg39 => ⟨by decide, _, P4, fun hne => ?_, fun heq => ⟨_, Ha (b := []), fun h0 => ?_, fun h0 => ⟨by decide, ?_⟩⟩⟩⟩
  ·exact nxt w39 (hg36.trans hg39) (.inl (by simpa using hne))
  ·exact nxt w39 (hg36.trans hg39) (.inr (by simpa using h0))
  have hw : p = word := by simpa using heq
  have hw0 : word ≠ [] := by simpa using h0
  subst hw
  have hst : Ft (p :: args) = match Cd q args (step0 i) with | none => .error 211 | some s => .ok s := by
   simp only [Ft, Oo hpq hw0]
   cases Cd q args (step0 i) <;> rfl
  have hg39' := hg36.trans hg39
  have hsz : ((ByteArray.size (bs q) : Nat) : Int) = q.length := by rw [A1]
  rw [hsz]
  refine A9.useF (fun _ v w42 ho ⟨hv, hw⟩ => ?_) (fun c w42 ho hw => ?_)
  ·subst hv; subst hw
   have hlen : q.length = args.length := by
    by_cases e : ((args.length : Int) == (q.length : Int)) = true
    ·simp only [beq_iff_eq] at e; omega
    ·simp only [Bool.not_eq_true] at e; rw [e] at ho; cases ho
   refine ⟨rfl, fun w45 hg45 => ⟨by decide, fun b46 w47 hal => ⟨Ot q args i w47 b46, fun _ _ _ _ _ w' => E5 q b46 w', ⟨0, step0 i, rfl, rfl, rfl, rfl, rfl, Nat.zero_le _, rfl, hal.at_, Upd.refl _ _⟩, ?_⟩⟩⟩
   rintro kd nd nn ky vl w54 ⟨j, cur, rfl, rfl, rfl, rfl, rfl, hj, hset, hit, hu⟩
   refine ⟨_, _, hit, ?_, ?_⟩
   ·rw [A1]
    rintro hjl w57 rfl
    have hjl' : j < args.length := by omega
    have hqc : q[j]? = some q[j] := List.getElem?_eq_getElem hjl
    have hqs := Lc hpq q[j] (List.getElem_mem _)
    have h128 : (q[j]).toNat < 128 := by rcases hqs with h | h | h | h <;> rw [h] <;> decide
    rw [Om hqc h128]
    have hb : b46 < w54.heap.size := lt_of_heap hit
    have hat := Jt (o := .stringIter (bs q) (j + 1)) hb
    have hup := Ii w54 b46 (.stringIter (bs q) (j + 1))
    have hg47 : Grew w w47 := hg39'.trans (hg45.trans hal.grew)
    have hnew : w.heap.size ≤ b46 := Nat.le_trans (hg39'.trans hg45).size hal.new
    have hg57 : Grew w (Au w54 b46 (.stringIter (bs q) (j + 1))) := hg47.then_own (hu.trans hup) fun x hx => by subst hx; exact hnew
    have hred : Cd (q.drop j) (args.drop j) cur = (setA q[j] args[j] cur).bind (Cd (q.drop (j + 1)) (args.drop (j + 1))) := by
     rw [List.drop_eq_getElem_cons hjl, List.drop_eq_getElem_cons hjl']; rfl
    rw [hred] at hset
    have hlx : args[j].length ≤ 281474976710656 := hs _ (List.getElem_mem _)
    obtain ⟨d, hd, hc⟩ := (hr.grew hg57).1 j args[j] (List.getElem?_eq_getElem hjl')
    change a = some d at hd
    have hc : (Au w54 b46 (.stringIter (bs q) (j + 1))).cell? (Addr.add d (((j : Nat) : Int).toNat * 1)) = some (.string (bs args[j])) := by
     simpa [Enc.text, Ah, Addr.add] using hc
    have hG57 := hG.grew hg57
    have fin : ∀ (cur' : Af) (w60 : World), setA q[j] args[j] cur = some cur' → Grew (Au w54 b46 (.stringIter (bs q) (j + 1))) w60 → Ot q args i w47 b46 cur'.kind cur'.node cur'.n cur'.r.key cur'.r.val w60 ∧ E5 q b46 w60 < E5 q b46 w54 := fun cur' w60 he hg60 => by
     have hat60 : w60.heap[b46]? = some (.stringIter (bs q) (j + 1)) := by rw [hg60.block _ (lt_of_heap hat)]; exact hat
     refine ⟨⟨j + 1, cur', rfl, rfl, rfl, rfl, rfl, hjl, by rw [hset, he]; rfl, hat60, (hu.trans hup).then_grew hg60⟩, ?_⟩
     unfold E5; rw [hat60, hit]; show q.length - (j + 1) < q.length - j; omega
    have bad : setA q[j] args[j] cur = none → Ft (p :: args) = .error 211 := fun h => by rw [hst, hset, h]; rfl
    refine ⟨fun h110 => ?_, fun n110 => ⟨fun h107 => ?_, fun n107 => ⟨fun h117 => ?_, fun n117 => ⟨fun h118 => ?_, fun n118 => ?_⟩⟩⟩⟩
    ·have hq : q[j] = 110 := by rcases hqs with h | h | h | h <;> rw [h] at h110 ⊢ <;> revert h110 <;> decide
     rw [hd, Ac]
     refine ⟨⟨by omega, by omega⟩, _, hc, (Dz hG57 hlx).useF (fun x v w60 ho ⟨hv, hg60⟩ => ?_) (fun c w60 ho hg60 => ?_)⟩
     all_goals
      have hA : setA q[j] args[j] cur = (numL args[j]).map fun v => { cur with node := v } := by rw [hq]; first | exact J6 _ _ | exact J7 _ _ | exact J8 _ _ | exact J9 _ _
      cases hnl : numL args[j] with
      | none => rw [hnl] at ho hA; cases ho <;> (rw [bad hA]; exact ⟨rfl, hg57.trans hg60⟩)
      | some y => rw [hnl] at ho hA; cases ho <;> (subst hv; exact ⟨_, rfl, fin _ _ hA hg60⟩)
    ·have hq : q[j] = 107 := by rcases hqs with h | h | h | h <;> rw [h] at h107 n110 ⊢ <;> revert h107 n110 <;> decide
     rw [hd, Ac]
     refine ⟨⟨by omega, by omega⟩, _, hc, (Dz hG57 hlx).useF (fun x v w60 ho ⟨hv, hg60⟩ => ?_) (fun c w60 ho hg60 => ?_)⟩
     all_goals
      have hA : setA q[j] args[j] cur = (numL args[j]).map fun v => { cur with n := v } := by rw [hq]; first | exact J6 _ _ | exact J7 _ _ | exact J8 _ _ | exact J9 _ _
      cases hnl : numL args[j] with
      | none => rw [hnl] at ho hA; cases ho <;> (rw [bad hA]; exact ⟨rfl, hg57.trans hg60⟩)
      | some y => rw [hnl] at ho hA; cases ho <;> (subst hv; exact ⟨_, rfl, fin _ _ hA hg60⟩)
    ·have hq : q[j] = 117 := by rcases hqs with h | h | h | h <;> rw [h] at h117 ⊢ <;> revert h117 <;> decide
     rw [hd, Ac]
     refine ⟨⟨by omega, by omega⟩, _, hc, (Qh hG57 hlx).useF (fun x v w60 ho ⟨hv, hg60⟩ => ?_) (fun c w60 ho hg60 => ?_)⟩
     all_goals
      have hA : setA q[j] args[j] cur = (keyL args[j]).map fun v => { cur with r := { cur.r with key := v } } := by rw [hq]; first | exact J6 _ _ | exact J7 _ _ | exact J8 _ _ | exact J9 _ _
      cases hnl : keyL args[j] with
      | none => rw [hnl] at ho hA; cases ho <;> (rw [bad hA]; exact ⟨rfl, hg57.trans hg60⟩)
      | some y => rw [hnl] at ho hA; cases ho <;> (subst hv; exact ⟨_, rfl, fin _ _ hA hg60⟩)
    ·have hq : q[j] = 118 := by rcases hqs with h | h | h | h <;> rw [h] at h118 ⊢ <;> revert h118 <;> decide
     rw [hd, Ac]
     refine ⟨⟨by omega, by omega⟩, _, hc, (Lb hG57 hlx).useF (fun x v w60 ho ⟨hv, hg60⟩ => ?_) (fun c w60 ho hg60 => ?_)⟩
     all_goals
      have hA : setA q[j] args[j] cur = (fltL args[j]).map fun v => { cur with r := { cur.r with val := v } } := by rw [hq]; first | exact J6 _ _ | exact J7 _ _ | exact J8 _ _ | exact J9 _ _
      cases hnl : fltL args[j] with
      | none => rw [hnl] at ho hA; cases ho <;> (rw [bad hA]; exact ⟨rfl, hg57.trans hg60⟩)
      | some y => rw [hnl] at ho hA; cases ho <;> (subst hv; exact ⟨_, rfl, fin _ _ hA hg60⟩)
    ·exfalso
     rcases hqs with h | h | h | h <;> rw [h] at n110 n107 n117 n118
     ·exact absurd n110 (by decide)
     ·exact absurd n107 (by decide)
     ·exact absurd n117 (by decide)
     ·exact absurd n118 (by decide)
   ·rw [A1]
    intro hjl
    have hjq : j = q.length := by omega
    have he : Cd (q.drop j) (args.drop j) cur = some cur := by
     rw [List.drop_eq_nil_of_le (by omega), List.drop_eq_nil_of_le (by omega)]; rfl
    rw [hst, hset, he]
    exact ⟨_, rfl, rfl, (hg39'.trans (hg45.trans hal.grew)).then_own hu fun x hx => by subst hx; exact Nat.le_trans (hg39'.trans hg45).size hal.new⟩
  ·subst hw
   have hne : q.length ≠ args.length := fun e => by
    rw [e] at ho; simp at ho
   have : c = 211 := by
    by_cases e : ((args.length : Int) == (q.length : Int)) = true
    ·rw [e] at ho; cases ho
    ·simp only [Bool.not_eq_true] at e; rw [e] at ho; cases ho; rfl
   subst this
   rw [hst, Il q args _ hne]; exact ⟨rfl, hg39'⟩
 ·simp only [decide_eq_false_iff_not] at hge
  have : i = 12 := by omega
  subst this
  have hno : Ee word = none := by
   cases h : Ee word with
   | none => rfl
   | some x =>
    obtain ⟨k, asks⟩ := x
    obtain ⟨h1, h2⟩ := Oq h
    have hk : k < 12 := (List.getElem?_eq_some_iff.1 h1).1
    rcases hnot k _ _ hk h1 with h | h
    ·exact (h rfl).elim
    ·exact (h2 h).elim
  have hst : Ft (word :: args) = .error 210 := by
   simp only [Ft, hno]
  exact A9.useF (fun _ v w42 ho _ => (by cases ho)) (fun c w42 ho hw => by
   cases ho; subst hw; rw [hst]; exact ⟨rfl, hg36⟩)
end Go.Proofs.YtbmmaibbiahkkaaGreatDoor
