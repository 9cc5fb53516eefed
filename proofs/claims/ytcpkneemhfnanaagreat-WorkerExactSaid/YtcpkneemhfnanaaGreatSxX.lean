/- Messages in lists. Conditions: none. -/
import Derived.Test.YtcpkneemhfnanaaGreatSxP
import Derived.ProofKit
import Derived.Deep.Slices
import Derived.OpenShut
import Derived.Deep.Fields
import Derived.SizedLaws
namespace Go.Sx
set_option linter.unusedSimpArgs false
set_option linter.unusedVariables false
structure Am where
 key : Int
 has : Bool
 bits : Int
deriving DecidableEq
def Enc.pair : Enc Am := ⟨3, fun x => [.int .u64 x.key, .bool x.has, .int .u64 x.bits], fun _ => rfl, by decide, fun x v h => by simp at h; rcases h with rfl | rfl | rfl <;> rfl⟩
def Am.Fits (x : Am) : Prop := (0 ≤ x.key ∧ x.key < u64m) ∧ (0 ≤ x.bits ∧ x.bits < u64m)
structure MsgV where
 kind : Int
 frm : Int
 to : Int
 batch : Int
 att : Int
 code : Int
 ends : List Int
 keys : List Int
 pairs : List Am
abbrev Sl3 := Option Addr × Nat × Nat
structure Msg where
 c : MsgV
 e : Sl3
 k : Sl3
 p : Sl3
def Msg.vals (x : Msg) : List Value := [.int .i64 x.c.kind, .int .i64 x.c.frm, .int .i64 x.c.to, .int .i64 x.c.batch, .int .i64 x.c.att, .int .i64 x.c.code, .slice x.e.1 x.e.2.1 x.e.2.2, .slice x.k.1 x.k.2.1 x.k.2.2, .slice x.p.1 x.p.2.1 x.p.2.2]
@[reducible] def Msg.val (x : Msg) : Value := .agg #[.int .i64 x.c.kind, .int .i64 x.c.frm, .int .i64 x.c.to, .int .i64 x.c.batch, .int .i64 x.c.att, .int .i64 x.c.code, .slice x.e.1 x.e.2.1 x.e.2.2, .slice x.k.1 x.k.2.1 x.k.2.2, .slice x.p.1 x.p.2.1 x.p.2.2]
def Enc.msg : Enc Msg := ⟨9, Msg.vals, fun _ => rfl, by decide, fun x v h => by simp [Msg.vals] at h; rcases h with rfl | rfl | rfl | rfl | rfl | rfl | rfl | rfl | rfl <;> rfl⟩
structure Msg.At (w : World) (x : Msg) : Prop where
 e : Reads w (Enc.int .i64) x.e x.c.ends
 k : Reads w (Enc.int .u64) x.k x.c.keys
 p : Reads w Enc.pair x.p x.c.pairs
def Msg.Blk (x : Msg) (b : Nat) : Prop := Go.Sx.Blk x.e.1 b ∨ Go.Sx.Blk x.k.1 b ∨ Go.Sx.Blk x.p.1 b
theorem Msg.At.grew {w w' : World} {x : Msg} (h : x.At w) (hg : Grew w w') : x.At w' := ⟨h.e.grew hg, h.k.grew hg, h.p.grew hg⟩
structure MsgV.Fits (m : MsgV) : Prop where
 i : ∀ x ∈ [m.kind, m.frm, m.to, m.batch, m.att, m.code], -9223372036854775808 ≤ x ∧ x < 9223372036854775808
 e : ∀ x ∈ m.ends, -9223372036854775808 ≤ x ∧ x < 9223372036854775808
 k : ∀ x ∈ m.keys, 0 ≤ x ∧ x < u64m
 p : ∀ x ∈ m.pairs, x.Fits
theorem Reads.nil {α : Type} {w : World} {E : Enc α} : Reads w E (none, 0, 0) ([] : List α) := ⟨Sl.nil _ _ _, rfl, fun _ => rfl, Nat.le_refl _⟩
def Co (k : Int) : Int := if k = 1 ∨ k = 2 ∨ k = 3 ∨ k = 8 then 1 else if k = 4 then 2 else if k = 6 then 3 else if k = 5 ∨ k = 7 then 4 else 0
def Do : List Am → Bool
 | [] => true
 | [x] => x.has
 | x :: y :: r => x.has && (decide (x.key < y.key) && Do (y :: r))
theorem Ec : ∀ l : List Am, Do l = true ↔ (∀ (i : Nat) (x : Am), l[i]? = some x → x.has = true) ∧ ∀ (i : Nat) (x y : Am), l[i]? = some x → l[i + 1]? = some y → x.key < y.key
 | [] => by simp [Do]
 | [x] => by
  simp only [Do]
  constructor
  ·intro h; refine ⟨fun i y hy => ?_, fun i y z hy hz => by simp at hz⟩
   cases i with
   | zero => simp at hy; subst hy; exact h
   | succ i => simp at hy
  ·intro h; exact h.1 0 x rfl
 | x :: y :: r => by
  rw [Do, Bool.and_eq_true, Bool.and_eq_true, decide_eq_true_eq, Ec (y :: r)]
  constructor
  ·rintro ⟨h1, h2, h3, h4⟩
   refine ⟨fun i z hz => ?_, fun i u v hu hv => ?_⟩
   ·cases i with
    | zero => simp at hz; subst hz; exact h1
    | succ i => exact h3 i z (by simpa using hz)
   ·cases i with
    | zero => simp at hu hv; subst hu; subst hv; exact h2
    | succ i => exact h4 i u v (by simpa using hu) (by simpa using hv)
  ·rintro ⟨h1, h2⟩
   exact ⟨h1 0 x rfl, h2 0 x y rfl rfl, fun i z hz => h1 (i + 1) z (by simpa using hz), fun i u v hu hv => h2 (i + 1) u v (by simpa using hu) (by simpa using hv)⟩
def Kd (l : List Int) : Bool := l.all fun e => decide (0 ≤ e ∧ e ≤ 256)
def Bl (m : MsgV) : Bool :=
 decide (Co m.kind ≠ 0 ∧ (0 ≤ m.frm ∧ m.frm ≤ 8) ∧ (0 ≤ m.to ∧ m.to ≤ 8) ∧ (1 ≤ m.batch ∧ m.batch ≤ 1099511627776) ∧ (1 ≤ m.att ∧ m.att ≤ 1099511627776) ∧
  (Co m.kind ≠ 1 → m.ends.length = 0) ∧ (Co m.kind ≠ 2 → m.keys.length = 0) ∧ (Co m.kind ≠ 3 → m.pairs.length = 0) ∧ (Co m.kind ≠ 4 → m.code = 0) ∧
  (Co m.kind = 1 → 1 ≤ m.ends.length ∧ m.ends.length ≤ 4) ∧ Kd m.ends = true ∧ m.keys.length ≤ 64 ∧ Dc m.keys = true ∧ m.pairs.length ≤ 64 ∧ Do m.pairs = true ∧ (0 ≤ m.code ∧ m.code ≤ 1000))
theorem F1 (m : MsgV) : Bl m = true ↔ (Co m.kind ≠ 0 ∧ (0 ≤ m.frm ∧ m.frm ≤ 8) ∧ (0 ≤ m.to ∧ m.to ≤ 8) ∧ (1 ≤ m.batch ∧ m.batch ≤ 1099511627776) ∧ (1 ≤ m.att ∧ m.att ≤ 1099511627776) ∧
  (Co m.kind ≠ 1 → m.ends.length = 0) ∧ (Co m.kind ≠ 2 → m.keys.length = 0) ∧ (Co m.kind ≠ 3 → m.pairs.length = 0) ∧ (Co m.kind ≠ 4 → m.code = 0) ∧
  (Co m.kind = 1 → 1 ≤ m.ends.length ∧ m.ends.length ≤ 4) ∧ Kd m.ends = true ∧ m.keys.length ≤ 64 ∧ Dc m.keys = true ∧ m.pairs.length ≤ 64 ∧ Do m.pairs = true ∧ (0 ≤ m.code ∧ m.code ≤ 1000)) := by
 unfold Bl; rw [decide_eq_true_eq]
end Go.Sx
namespace Go.Sx
set_option linter.unusedSimpArgs false
open Go.ChangeShapes Go.WideShapes Go.RowKit
set_option linter.unusedVariables false
section
variable {P : Program} {H : Type} {enc : TypeId × Value → H}
theorem Aaq {W w' w₀' : World} (hg : Grew W w') (hh : A5 w' w₀') (hk : Kept W W w' w₀') : Below W.heap.size W w₀' := by
 refine ⟨by rw [← hh.os]; exact hg.os, by rw [← hh.tape]; exact hg.tape, by rw [← hh.output]; exact hg.output, by rw [← hh.size]; exact hg.size, fun k hlt => ?_⟩
 rcases hh.block k with e | e
 ·rw [← e]; exact hg.block k hlt
 ·by_cases hW : W.heap[k]? = some hole
  ·exact hk.same k hW
  ·rw [hg.block k hlt] at e; exact absurd e hW
theorem Ke (hl : laidOutB P = true) {W W' : World} (hb : Below W.heap.size W W') : ∀ {ts : List TypeId} {vs : List Value} {ds : List (DataW H)} {ps : List MemPlace}, (∀ t ∈ ts, P.readableRec t = true ∧ t < P.types.size) →
  DataW.TrodAll enc P W 0 (fun _ => true) true ts vs ds ps → (∀ x ∈ ps, x.block < W.heap.size) → ∀ sp : Nat → Bool, (∀ x ∈ ps, sp x.block = true) → DataW.TrodAll enc P W' 0 sp true ts vs ds ps
 | [], vs, ds, ps, _, h, _, _, _ => by obtain ⟨rfl, rfl, rfl⟩ := trodAll_nil h; exact trodAll_mk0
 | t :: ts, vs, ds, ps, ht, h, hlt, sp, hs => by
  obtain ⟨v, vs', d, ds', p, q, rfl, rfl, rfl, h1, h2⟩ := trodAll_cons h
  have ht0 := ht t (by simp)
  exact trodAll_cons_mk (WideElems.Trod_stays hl ht0.1 ht0.2 h1 (fun x hx => hb.same (hlt x (by simp [hx]))) (fun x hx => hs x (by simp [hx])))
   (Ke hl hb (fun t' h' => ht t' (by simp [h'])) h2 (fun x hx => hlt x (by simp [hx])) sp (fun x hx => hs x (by simp [hx])))
theorem Xw {f : Func} {s : ChangeSpec} {apart fresh handsOn again : Bool} {W W' : World} {args : Array Value} {ds gs : List (DataW H)} {before : List MemPlace} {tb : TypeId}
  (hl : laidOutB P = true) (hvars : s.vars = []) (hres : f.resultTypes = #[tb]) (htb : P.underlying tb = some .bool)
  (hfn : (s.fn H ds).results = [.lit (.bool true)] ∧ (s.fn H ds).args = ds ∧ (s.fn H ds).vars = [])
  (hts : ∀ t ∈ f.params.toList, P.readableRec t = true ∧ t < P.types.size)
  (hW : DataW.Whole enc P f.params.toList s.vars apart W args.toList ds gs before) (hb : Below W.heap.size W W') :
  s.post enc P f apart fresh handsOn again W args (.bool true) W' := by
 have hlt := hW.lt
 have hW0 := hW
 obtain ⟨p, q, hA, hV, hpq, hz, hn⟩ := hW
 rw [hvars] at hV
 obtain ⟨rfl, rfl⟩ := trodVars_none hV
 simp only [List.append_nil] at hpq
 subst hpq
 have hsz : f.resultTypes.size = 1 := by rw [hres]; rfl
 have hr1 : ∀ (b : Nat) (sp : Nat → Bool) (hd : Bool), DataW.TrodAll enc P W' b sp hd f.resultTypes.toList ((Value.bool true).resultList f.resultTypes.size) (s.fn H (ds ++ [])).results [] := by
  intro b sp hd
  rw [List.append_nil, hfn.1, hsz, hres]
  exact trodAll_cons_mk (shut_bool htb _) trodAll_mk0
 have ha1 : ∀ sp : Nat → Bool, (∀ x ∈ before, sp x.block = true) → DataW.TrodAll enc P W' 0 sp true f.params.toList args.toList (s.fn H (ds ++ [])).args before := by
  intro sp hs
  rw [List.append_nil, hfn.2.1]
  exact Ke hl hb hts hA hlt sp hs
 have hv1 : ∀ sp : Nat → Bool, DataW.TrodVars enc P W' sp s.vars (s.fn H (ds ++ [])).vars [] := by
  intro sp
  rw [List.append_nil, hfn.2.2, hvars]; simp [DataW.TrodVars]
 have hold : ∀ x ∈ before, (fun b => decide (b < W.heap.size)) x.block = true := fun x hx => by simpa using hlt x hx
 refine ⟨ds, [], before, [], before, [], hW0, hr1 _ _ _, ha1 _ hold, hv1 _, World.keptBut_mono (fun x hx => ⟨hx, Or.inr (by simpa using hx)⟩) (hb.frame (· ∈ before)), fun _ => ?_⟩
 refine ⟨ok_one hres rfl (okWide_bool_mk htb _), _, _, ([] ++ before) ++ [], ⟨[] ++ before, [], trodAll_append (ha1 _ (fun _ _ => rfl)) (hr1 _ _ _), hv1 _, rfl, ?_, ?_⟩, ?_⟩
 ·intro b off hp
  have hp' : MemPlace.cell b off ∈ before := by simpa using hp
  rw [hb.frozen (p := ⟨b, off, none⟩) (hlt _ hp')]
  exact hz b off hp'
 ·intro ha; simpa using hn ha
 ·intro x hx _; simpa using hx
inductive K where
 | int (k : IntKind)
 | bool
def Ja (P : Program) (t : TypeId) : Bool := match P.underlying t with
 | some (.struct _) => true
 | _ => false
theorem Ja.elim {t : TypeId} (h : Ja P t = true) : ∃ fs, P.underlying t = some (.struct fs) := by
 unfold Ja at h
 split at h
 ·exact ⟨_, by assumption⟩
 ·cases h
theorem open_int {t : TypeId} {k : IntKind} {w : World} {spare : Nat → Bool} {held : Bool} {v : Value} {dt : DataW H} {ps : List MemPlace} (ht : P.underlying t = some (.int k))
  {r : Reach} {b0 : Nat} (hval : Value.okWide P w r b0 t v) (h : DataW.Trod enc P w 0 spare held t v dt ps) : ∃ n, v = .int k n ∧ (Lit.int k n).wf = true := by
 obtain ⟨n, rfl⟩ := okWide_int ht hval
 obtain ⟨fuel, h⟩ := h
 obtain ⟨m, hm, -, hw⟩ := DataW.trod_int ht h
 simp [Value.cells] at hm
 subst hm
 exact ⟨n, rfl, hw⟩
end
end Go.Sx
namespace Go.Sx
set_option linter.unusedSimpArgs false
open Go.ChangeShapes Go.WideShapes Go.RowKit
set_option linter.unusedVariables false
section
variable {P : Program} {H : Type} {enc : TypeId × Value → H}
def Szd (P : Program) (t : TypeId) (d : DataW H) : Prop := ∀ n ∈ d.weights P t, n ≤ reachBytes
theorem Aar {t e : TypeId} {es sp : List (DataW H)} (ht : P.underlying t = some (.slice e)) (h : Szd P t (.slice es sp)) : ∀ d ∈ es, Szd P e d := by
 intro d hd n hn
 refine h n ?_
 have hall : ∀ (l : List (DataW H)), d ∈ l → n ∈ DataW.weightsAll P e l := by
  intro l
  induction l with
  | nil => intro h; cases h
  | cons x r ih =>
   intro h
   rw [DataW.weightsAll]
   rcases List.mem_cons.1 h with rfl | h
   ·exact List.mem_append_left _ hn
   ·exact List.mem_append_right _ (ih h)
 have : DataW.weights P t (DataW.slice es sp) = (es.length + sp.length) * P.bytesOf e :: (DataW.weightsAll P e es ++ DataW.weightsAll P e sp) := by
  simp only [DataW.weights, ht]
 rw [this]
 exact List.mem_cons_of_mem _ (List.mem_append_left _ (hall es hd))
theorem Adg {t e : TypeId} {es sp : List (DataW H)} (ht : P.underlying t = some (.slice e)) (h : Szd P t (.slice es sp)) : es.length * P.bytesOf e ≤ 140737488351232 := by
 have hw : DataW.weights P t (DataW.slice es sp) = (es.length + sp.length) * P.bytesOf e :: (DataW.weightsAll P e es ++ DataW.weightsAll P e sp) := by
  simp only [DataW.weights, ht]
 have := h ((es.length + sp.length) * P.bytesOf e) (by rw [hw]; simp)
 have h2 : es.length * P.bytesOf e ≤ (es.length + sp.length) * P.bytesOf e := Nat.mul_le_mul_right _ (by omega)
 have h3 : reachBytes = 140737488351232 := by decide
 omega
theorem Xx {t : TypeId} {fs : Array Field} {ds : List (DataW H)} (ht : P.underlying t = some (.struct fs)) (h : Szd P t (.agg ds)) {i : Nat} {f : Field} {d : DataW H} (hf : fs[i]? = some f) (hd : ds[i]? = some d) : Szd P f.type d := by
 intro n hn
 refine h n ?_
 have hw : DataW.weights P t (DataW.agg ds) = DataW.weightsEach P (fs.toList.map (·.type)) ds := by simp only [DataW.weights, ht]
 rw [hw]
 refine DataW.weights_mem_each (j := i) (t := f.type) ?_ hd n hn
 rw [List.getElem?_map]
 have : fs.toList[i]? = some f := by simpa using hf
 rw [this]; rfl
theorem Wl {ts : List TypeId} {ds : List (DataW H)} (h : (DataW.weightsEach P ts ds).all (· ≤ reachBytes) = true) {j : Nat} {t : TypeId} {d : DataW H} (ht : ts[j]? = some t) (hd : ds[j]? = some d) : Szd P t d := by
 intro n hn
 have := List.all_eq_true.1 h n (DataW.weights_mem_each ht hd n hn)
 simpa using this
inductive K2 where
 | int (k : IntKind)
 | bool
 | float (k : FloatKind)
 | sub (t : TypeId)
def K2.ok (S : TypeId → Value → Prop) : K2 → Value → Prop
 | .int k, v => ∃ n, v = .int k n ∧ (Lit.int k n).wf = true
 | .bool, v => ∃ b, v = .bool b
 | .float k, v => ∃ b, v = .float k b ∧ (Lit.float k b).wf = true
 | .sub t, v => S t v
def Lj (P : Program) (rec : TypeId → Option (List K2)) : Nat → List Field → Option (List K2)
 | _, [] => some []
 | off, f :: r => cond (f.offset == off) (match rec f.type with
  | some ks => cond (P.cellsOf f.type == ks.length) (match Lj P rec (off + ks.length) r with | some rest => some (ks ++ rest) | none => none) none
  | none => none) none
def Fq (P : Program) : Nat → TypeId → Option (List K2)
 | 0 => fun _ => none
 | d + 1 => fun t => match P.underlying t with
  | some (.int k) => some [.int k]
  | some .bool => some [.bool]
  | some (.float k) => some [.float k]
  | some (.slice _) => some [.sub t]
  | some (.struct fs) => match Lj P (Fq P d) 0 fs.toList with
   | some ks => cond (P.cellsOf t == ks.length) (some ks) none
   | none => none
  | _ => none
def Kf (S : TypeId → Value → Prop) (ks : List K2) (cs : List Value) : Prop := cs.length = ks.length ∧ ∀ (i : Nat) (k : K2), ks[i]? = some k → ∃ v, cs[i]? = some v ∧ k.ok S v
def Sub (enc : TypeId × Value → H) (P : Program) (w : World) (spare : Nat → Bool) (held : Bool) (t : TypeId) (v : Value) : Prop := ∃ (n : Nat) (x : DataW H × List MemPlace), DataW.trod enc P w 0 spare held n t [v] = some x ∧ Szd P t x.1
theorem Tb {k : FloatKind} {t : TypeId} {w : World} {base : Nat} {spare : Nat → Bool} {held : Bool} {fuel : Nat} {cs : List Value} {x : DataW H × List MemPlace} (ht : P.underlying t = some (.float k)) (h : DataW.trod enc P w base spare held fuel t cs = some x) :
  ∃ b, cs = [.float k b] ∧ x = (.lit (.float k b), []) ∧ (Lit.float k b).wf = true := by
 cases fuel with
 | zero => simp [DataW.trod] at h
 | succ n =>
  unfold DataW.trod at h
  rw [ht] at h
  split at h <;> simp_all
theorem Kg {w : World} {spare : Nat → Bool} {held : Bool} {n : Nat} {rec : TypeId → Option (List K2)} {cs : List Value}
  (hrec : ∀ (t : TypeId) (ks : List K2), rec t = some ks → ∀ (cs : List Value) (x : DataW H × List MemPlace), DataW.trod enc P w 0 spare held n t cs = some x → Szd P t x.1 → Kf (Sub enc P w spare held) ks cs) :
  ∀ (fs : List Field) (off : Nat) (ks : List K2), Lj P rec off fs = some ks → (∀ f ∈ fs, ∃ y, DataW.trod enc P w 0 spare held n f.type ((cs.drop f.offset).take (P.cellsOf f.type)) = some y ∧ Szd P f.type y.1) →
  ∀ (i : Nat) (k : K2), ks[i]? = some k → ∃ v, cs[off + i]? = some v ∧ k.ok (Sub enc P w spare held) v
 | [], off, ks, h, _, i, k, hk => by simp [Lj] at h; subst h; simp at hk
 | f :: r, off, ks, h, hf, i, k, hk => by
  rw [Lj] at h
  cases ho : f.offset == off with
  | false => rw [ho] at h; cases h
  | true =>
   rw [ho] at h
   have ho' : f.offset = off := by simpa using ho
   simp only [cond_true] at h
   split at h
   ·rename_i k1 hk1
    cases hc : P.cellsOf f.type == k1.length with
    | false => rw [hc] at h; cases h
    | true =>
     rw [hc] at h
     have hc' : P.cellsOf f.type = k1.length := by simpa using hc
     simp only [cond_true] at h
     split at h
     ·rename_i rest hrest
      cases h
      by_cases hi : i < k1.length
      ·rw [List.getElem?_append_left hi] at hk
       obtain ⟨y, hy, hz⟩ := hf f (by simp)
       obtain ⟨v, hv, hok⟩ := (hrec _ _ hk1 _ _ hy hz).2 i k hk
       rw [List.getElem?_take, if_pos (by omega), List.getElem?_drop, ho'] at hv
       exact ⟨v, hv, hok⟩
      ·rw [List.getElem?_append_right (by omega)] at hk
       have := Kg hrec r (off + k1.length) rest hrest (fun f' h' => hf f' (by simp [h'])) (i - k1.length) k hk
       rwa [show off + k1.length + (i - k1.length) = off + i from by omega] at this
     ·cases h
   ·cases h
theorem H3 {w : World} {spare : Nat → Bool} {held : Bool} : ∀ (d : Nat) (t : TypeId) (ks : List K2), Fq P d t = some ks → ∀ (n : Nat) (cs : List Value) (x : DataW H × List MemPlace), DataW.trod enc P w 0 spare held n t cs = some x → Szd P t x.1 → Kf (Sub enc P w spare held) ks cs
 | 0, t, ks, h, _, _, _, _, _ => by simp [Fq] at h
 | d + 1, t, ks, h, n, cs, x, hx, hz => by
  simp only [Fq] at h
  split at h
  ·rename_i k hu
   cases h
   obtain ⟨v, rfl, -, hw⟩ := DataW.trod_int hu hx
   refine ⟨rfl, fun i k' hk => ?_⟩
   cases i with
   | zero => simp at hk; subst hk; exact ⟨_, rfl, v, rfl, hw⟩
   | succ i => simp at hk
  ·rename_i hu
   cases h
   obtain ⟨v, rfl, -⟩ := DataW.trod_bool hu hx
   refine ⟨rfl, fun i k' hk => ?_⟩
   cases i with
   | zero => simp at hk; subst hk; exact ⟨_, rfl, v, rfl⟩
   | succ i => simp at hk
  ·rename_i k hu
   cases h
   obtain ⟨v, rfl, -, hw⟩ := Tb hu hx
   refine ⟨rfl, fun i k' hk => ?_⟩
   cases i with
   | zero => simp at hk; subst hk; exact ⟨_, rfl, v, rfl, hw⟩
   | succ i => simp at hk
  ·rename_i e hu
   cases h
   have hone : ∃ v, cs = [v] := by
    rcases Go.Deep.open_slice hu hx with ⟨rfl, -⟩ | ⟨a, len, cap, m, n', D, Pl, rfl, -⟩
    ·exact ⟨_, rfl⟩
    ·exact ⟨_, rfl⟩
   obtain ⟨v, rfl⟩ := hone
   refine ⟨rfl, fun i k' hk => ?_⟩
   cases i with
   | zero => simp at hk; subst hk; exact ⟨_, rfl, n, x, hx, hz⟩
   | succ i => simp at hk
  ·rename_i fs hu
   split at h
   ·rename_i ks' hks
    cases hc : P.cellsOf t == ks'.length with
    | false => rw [hc] at h; cases h
    | true =>
     rw [hc] at h
     cases h
     obtain ⟨ys, n', hn', hy, hlen, hyl, hf⟩ := DataW.trod_struct hu hx
     refine ⟨by rw [hlen]; simpa using hc, fun i k hk => ?_⟩
     have := Kg (enc := enc) (w := w) (spare := spare) (held := held) (n := n') (cs := cs) (fun t ks h cs x hx hz => H3 d t ks h n' cs x hx hz) fs.toList 0 ks hks (fun f hfm => by
      obtain ⟨j, hj⟩ := List.getElem?_of_mem hfm
      have hj' : fs[j]? = some f := by simpa using hj
      have hjl : j < fs.size := (Array.getElem?_eq_some_iff.1 hj').1
      have hyj : ys[j]? = some (ys[j]'(by omega)) := List.getElem?_eq_getElem (by omega)
      refine ⟨ys[j]'(by omega), (hf j f hj').trans hyj, ?_⟩
      rw [hy] at hz
      refine Xx hu hz hj' ?_
      rw [List.getElem?_map, hyj]; rfl) i k hk
     simpa using this
   ·cases h
  ·cases h
theorem Jb {t e : TypeId} {ks : List K2} {d : Nat} {w : World} {spare : Nat → Bool} {held : Bool} {v : Value} (hS : Sub enc P w spare held t v) (ht : P.underlying t = some (.slice e)) (hk : Fq P d e = some ks) (hc : P.cellsOf e = ks.length) {B : Nat} (hB : P.bytesOf e = B)
  {α : Type} {E : Enc α} (hE : E.sz = ks.length) {ok : α → Prop} (hα : ∀ cs, Kf (Sub enc P w spare held) ks cs → ∃ x, cs = E.f x ∧ ok x) :
  ∃ a n c l, v = .slice a n c ∧ Reads w E (a, n, c) l ∧ (∀ x ∈ l, ok x) ∧ l.length ≤ maxLen ∧ l.length * B ≤ 140737488351232 := by
 obtain ⟨fuel, x, hx, hz⟩ := hS
 rcases Go.Deep.open_slice ht hx with ⟨h0, rfl⟩ | ⟨a, len, cap, m, n, D, Pl, hcs, hb, hl, hm, hmm, rfl, hi⟩
 ·cases h0
  exact ⟨none, 0, 0, [], rfl, ⟨Sl.nil _ _ _, rfl, fun _ => rfl, Nat.le_refl _⟩, by simp, Nat.zero_le _, by simp⟩
 ·cases hcs
  have hlm : len ≤ m := by rw [hmm]; split <;> omega
  have hlen := Adg ht hz
  have hel0 := Aar ht hz
  simp only [List.length_map, List.length_range] at hlen
  have hel : ∀ i, i < len → ∃ x, Ae w (a.add (i * E.sz)) 0 (E.f x) ∧ ok x := by
   intro i hil
   obtain ⟨cs', hcc, htr⟩ := hi i (by omega)
   rw [hc, ← hE] at hcc
   obtain ⟨-, hcl, hat⟩ := World.cells?_some hcc
   have hzi : Szd P e (D i) := hel0 _ (List.mem_map.2 ⟨i, by simpa using hil, rfl⟩)
   obtain ⟨x, rfl, hox⟩ := hα cs' (H3 d e ks hk n cs' _ htr hzi)
   refine ⟨x, Ga fun j u hj => ?_, hox⟩
   have hjl : j < E.sz := by
    rw [← hcl]
    rcases Nat.lt_or_ge j (E.f x).length with h' | h'
    ·exact h'
    ·rw [List.getElem?_eq_none h'] at hj; cases hj
   rw [Nat.zero_add, hat j hjl]; exact hj
  have : ∀ n, n ≤ len → ∃ l : List α, l.length = n ∧ (∀ i x, l[i]? = some x → Ae w (a.add (i * E.sz)) 0 (E.f x)) ∧ ∀ x ∈ l, ok x := by
   intro n
   induction n with
   | zero => intro _; exact ⟨[], rfl, by simp, by simp⟩
   | succ n ih =>
    intro hn
    obtain ⟨l, h1, h2, h3⟩ := ih (by omega)
    obtain ⟨x, hx1, hx2⟩ := hel n (by omega)
    refine ⟨l ++ [x], by simp [h1], fun i y hy => ?_, fun y hy => ?_⟩
    ·by_cases hil : i < l.length
     ·rw [List.getElem?_append_left hil] at hy; exact h2 i y hy
     ·rw [List.getElem?_append_right (by omega)] at hy
      have : i - l.length = 0 := by
       rcases Nat.eq_zero_or_pos (i - l.length) with h' | h'
       ·exact h'
       ·rw [List.getElem?_eq_none (by simp; omega)] at hy; cases hy
      rw [this] at hy; simp at hy; subst hy
      rwa [show i = n from by omega]
    ·rcases List.mem_append.1 hy with hy | hy
     ·exact h3 y hy
     ·simp at hy; subst hy; exact hx2
  obtain ⟨l, h1, h2, h3⟩ := this len (Nat.le_refl _)
  exact ⟨some a, len, cap, l, rfl, ⟨fun i x hx => ⟨a, rfl, h2 i x hx⟩, h1.symm, fun h => (by cases h), hl⟩, h3, by rw [h1]; omega, by rw [h1, ← hB]; exact hlen⟩
theorem Adh {ts : List TypeId} {ds : List (DataW H)} (hz : (DataW.weightsEach P ts ds).all (· ≤ reachBytes) = true) {j : Nat} {t e : TypeId} (htj : ts[j]? = some t) {dt : DataW H} (hdj : ds[j]? = some dt) {w : World} {spare : Nat → Bool} {held : Bool} {v : Value} {ps : List MemPlace}
  (ht : P.underlying t = some (.slice e)) {r : Reach} {b0 : Nat} (hval : Value.okWide P w r b0 t v) (h : DataW.Trod enc P w 0 spare held t v dt ps) : Sub enc P w spare held t v := by
 obtain ⟨a, n, c, rfl⟩ := okWide_slice ht hval
 obtain ⟨fuel, h⟩ := h
 exact ⟨fuel, _, by simpa [Value.cells] using h, Wl hz htj hdj⟩
theorem U4 {ts : List TypeId} {ds : List (DataW H)} (hz : (DataW.weightsEach P ts ds).all (· ≤ reachBytes) = true) {j : Nat} {t : TypeId} (htj : ts[j]? = some t) {dt : DataW H} (hdj : ds[j]? = some dt) {w : World} {spare : Nat → Bool} {held : Bool} {v : Value} {ps : List MemPlace}
  {ks : List K2} {d : Nat} (ht : Ja P t = true) (hk : Fq P d t = some ks) {r : Reach} {b0 : Nat} (hval : Value.okWide P w r b0 t v) (h : DataW.Trod enc P w 0 spare held t v dt ps) {α : Type} {E : Enc α} {ok : α → Prop} (hα : ∀ cs, Kf (Sub enc P w spare held) ks cs → ∃ x, cs = E.f x ∧ ok x) :
  ∃ x, v = .agg (E.f x).toArray ∧ ok x := by
 obtain ⟨fs, ht'⟩ := Ja.elim ht
 obtain ⟨cs, rfl, -⟩ := okWide_struct ht' hval
 obtain ⟨fuel, h⟩ := h
 obtain ⟨x, hx, ho⟩ := hα _ (H3 d t ks hk fuel _ _ h (Wl hz htj hdj))
 refine ⟨x, ?_, ho⟩
 rw [← hx]; simp [Value.cells]
end
end Go.Sx
