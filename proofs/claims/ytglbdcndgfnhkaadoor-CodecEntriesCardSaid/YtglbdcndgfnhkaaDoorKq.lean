/- Parts of the proof. -/
import Derived.Test.YtglbdcndgfnhkaaDoorKp
section
set_option linter.unusedVariables false
set_option linter.unusedSimpArgs false
set_option maxRecDepth 100000
namespace Go.Vm.Tryd
open Go Go.Vm

theorem bnd_int {k : IntKind} {n d m : Nat} (h : n ≤ m) : bnd (some (.int k (n : Int))) d m = some n := by
  simp only [bnd]
  rw [if_pos ⟨by omega, by omega⟩]
  simp
/-- 's[:n]' of bytes. -/
theorem slice_hi {V : VS} {s : Value} {bs : List Nat} (h : BAt V s bs) (k : IntKind) {n : Nat} (hn : n ≤ bs.length) :
    ∃ r, slSl 1 s none (some (.int k (n : Int))) none = M.pure r ∧ BAt V r (bs.take n) ∧ (∀ i, SOwn r i → SOwn s i) ∧ ∃ a m c, r = .slice a m c := by
  have key : ∀ (b o len c : Nat), capOk len c → n ≤ len → slSl 1 (.slice (some ⟨b, o, none⟩) len c) none (some (.int k (n : Int))) none = M.pure (.slice (some ⟨b, o, none⟩) n c) := by
    intro b o len c hk hl
    unfold slSl
    simp only [Option.isSome_none, Bool.false_and, cond_false]
    have htop : n ≤ cond (isUnk c) len c := by cases isUnk c <;> simp <;> have := hk.1 <;> omega
    simp only [show bnd none c (cond (isUnk c) len c) = some c from rfl, bnd_int htop, show bnd none 0 n = some 0 from rfl]
    cases hu : isUnk c with
    | true =>
      simp only [cond_true]
      rw [if_pos ⟨hk.2 hu, by omega⟩]
      simp
    | false =>
      simp only [cond_false, Nat.zero_mul, Nat.add_zero, Nat.sub_zero]
      split <;> rfl
  cases h with
  | nil =>
    have : n = 0 := by simpa using hn
    subst this
    exact ⟨_, rfl, by simpa using BAt.nil, (fun i hi => hi), _, _, _, rfl⟩
  | zero b o c hb hk =>
    have : n = 0 := by simpa using hn
    subst this
    exact ⟨_, key b o 0 c hk (Nat.le_refl _), by simpa using BAt.zero b o c hb hk, (fun i hi => by rw [sown_slice (a := none) hi]; exact ⟨_, _, _, rfl⟩), _, _, _, rfl⟩
  | row _ b o c own cs ty hb hm hl hc hk =>
    refine ⟨_, key b o bs.length c hk hn, ?_, (fun i hi => by rw [sown_slice (a := none) hi]; exact ⟨_, _, _, rfl⟩), _, _, _, rfl⟩
    have hlen : (bs.take n).length = n := by simp; omega
    have := BAt.row (V := V) (bs.take n) b o c own cs ty hb hm (by omega) (by
      rw [hlen, List.map_take, ← hc, List.take_take, Nat.min_eq_left hn]) ⟨by have := hk.1; omega, hk.2⟩
    rwa [hlen] at this
/-- 's[n:]' of bytes. -/
theorem slice_lo {V : VS} {s : Value} {bs : List Nat} (h : BAt V s bs) (k : IntKind) {n : Nat} (hn : n ≤ bs.length) :
    ∃ r, slSl 1 s (some (.int k (n : Int))) none none = M.pure r ∧ BAt V r (bs.drop n) ∧ (∀ i, SOwn r i → SOwn s i) ∧ ∃ a m c, r = .slice a m c := by
  have key : ∀ (b o len c : Nat), capOk len c → n ≤ len → slSl 1 (.slice (some ⟨b, o, none⟩) len c) (some (.int k (n : Int))) none none =
      M.pure (cond (isUnk c) (.slice (some ⟨b, o + n, none⟩) (len - n) c) (.slice (some (if c = n then ⟨b, o, none⟩ else ⟨b, o + n, none⟩)) (len - n) (c - n))) := by
    intro b o len c hk hl
    unfold slSl
    simp only [Option.isSome_none, Bool.false_and, cond_false]
    simp only [show ∀ t, bnd none c t = some c from fun _ => rfl, show ∀ t, bnd none len t = some len from fun _ => rfl, bnd_int hl]
    cases hu : isUnk c with
    | true =>
      simp only [cond_true]
      rw [if_pos ⟨hk.2 hu, by omega⟩]
      simp
    | false => simp only [cond_false, Nat.mul_one]
  cases h with
  | nil =>
    have : n = 0 := by simpa using hn
    subst this
    exact ⟨_, rfl, by simpa using BAt.nil, (fun i hi => hi), _, _, _, rfl⟩
  | zero b o c hb hk =>
    have : n = 0 := by simpa using hn
    subst this
    refine ⟨_, key b o 0 c hk (Nat.le_refl _), ?_, ?_, ?_⟩
    · cases isUnk c
      · simp only [cond_false, Nat.sub_zero, Nat.add_zero, ite_self]; simpa using BAt.zero b o c hb hk
      · simp only [cond_true, Nat.sub_zero, Nat.add_zero]; simpa using BAt.zero b o c hb hk
    · intro i hi
      cases hu : isUnk c <;> rw [hu] at hi
      · simp only [cond_false, Nat.sub_zero, Nat.add_zero, ite_self] at hi; rw [sown_slice (a := none) hi]; exact ⟨_, _, _, rfl⟩
      · simp only [cond_true] at hi; rw [sown_slice (a := none) hi]; exact ⟨_, _, _, rfl⟩
    · cases isUnk c <;> exact ⟨_, _, _, rfl⟩
  | row _ b o c own cs ty hb hm hl hc hk =>
    refine ⟨_, key b o bs.length c hk hn, ?_, ?_, ?_⟩
    · have hlen : (bs.drop n).length = bs.length - n := by simp
      have hcells : (cs.drop (o + n)).take (bs.length - n) = (bs.drop n).map bv := by
        rw [List.map_drop, ← hc, List.drop_take, List.drop_drop]
      cases hu : isUnk c with
      | true =>
        simp only [cond_true]
        have := BAt.row (V := V) (bs.drop n) b (o + n) c own cs ty hb hm (by omega) (by rw [hlen]; exact hcells) ⟨by have := hk.1; omega, hk.2⟩
        rwa [hlen] at this
      | false =>
        simp only [cond_false]
        have hk' : capOk (bs.length - n) (c - n) := ⟨by have := hk.1; omega, fun q => by
          have h1 : isUnk c = true := by simp [isUnk, unk] at q ⊢; omega
          rw [hu] at h1; cases h1⟩
        by_cases hcn : c = n
        · have h0 : bs.length - n = 0 := by have := hk.1; omega
          have hd : bs.drop n = [] := List.drop_eq_nil_of_le (by omega)
          rw [if_pos hcn, h0, hd]
          rw [h0] at hk'
          exact .zero _ _ _ hb hk'
        · rw [if_neg hcn]
          have := BAt.row (V := V) (bs.drop n) b (o + n) (c - n) own cs ty hb hm (by omega) (by rw [hlen]; exact hcells) (by rw [hlen]; exact hk')
          rwa [hlen] at this
    · intro i hi
      have : i = b := by
        cases hu : isUnk c <;> rw [hu] at hi
        · simp only [cond_false] at hi
          by_cases hcn : c = n
          · rw [if_pos hcn] at hi; exact sown_slice (a := none) hi
          · rw [if_neg hcn] at hi; exact sown_slice (a := none) hi
        · simp only [cond_true] at hi; exact sown_slice (a := none) hi
      rw [this]; exact ⟨_, _, _, rfl⟩
    · cases isUnk c <;> exact ⟨_, _, _, rfl⟩
end Go.Vm.Tryd
end
section
set_option linter.unusedVariables false
set_option linter.unusedSimpArgs false
set_option maxRecDepth 100000
namespace Go.Vm.Tryd
open Go Go.Vm

/-- A reader with bytes ahead, which lie in blocks of D. -/
structure RAt (D : Nat → Prop) (V : VS) (w : Nat) (bs : List Nat) : Prop where
  lt : w < V.next
  ex : ∃ s ty, V.mem w = some (.cells true [s] ty) ∧ BAt V s bs ∧ (∀ i, SOwn s i → D i) ∧ ∃ a m c, s = .slice a m c
  apart : ¬ D w
theorem RAt.keep {D : Nat → Prop} {V V' : VS} {w : Nat} {bs : List Nat} (h : RAt D V w bs) {S : Nat → Prop} (hf : Fr S V V') (hw : ¬ S w) (hD : ∀ i, D i → ¬ S i) : RAt D V' w bs := by
  obtain ⟨s, ty, h1, h2, h3, h4⟩ := h.ex
  exact ⟨Nat.lt_of_lt_of_le h.lt hf.next, ⟨s, ty, by rw [hf.mem w h.lt hw]; exact h1, h2.keep hf fun i hi => hD i (h3 i hi), h3, h4⟩, h.apart⟩
def thrown (code : Int) : Value := .iface 131 (.agg #[.int .i64 code])
theorem take_ok {D : Nat → Prop} {V : VS} {w : Nat} {bs : List Nat} (h : RAt D V w bs) {n : Nat} (hn : n ≤ bs.length) (hb : bs.length < 18446744073709551616) :
    ∃ r V', k63 (.pointer (some ⟨w, 0, none⟩)) (.int .u64 (n : Int)) V = .ok r V' ∧ BAt V' r (bs.take n) ∧ RAt D V' w (bs.drop n) ∧ Fr (· = w) V V' ∧ (∀ i, SOwn r i → D i) ∧ ∃ a m c, r = .slice a m c := by
  obtain ⟨s, ty, h1, h2, h3, a, m, c, rfl⟩ := h.ex
  have hm : m = bs.length := h2.cells.2
  subst hm
  unfold k63 b63
  have hb0 : Fr (fun _ => False) V ⟨V.next + 1, V.tree⟩ := Fr.bump _ V 1
  have h1' : (⟨V.next + 1, V.tree⟩ : VS).mem w = some (.cells true [.slice a bs.length c] ty) := h1
  obtain ⟨r1, e1, q1, q2, q3⟩ := slice_hi (h2.keep hb0 fun _ _ q => q) .u64 hn
  obtain ⟨r2, e2, p1, p2, p3⟩ := slice_lo (h2.keep hb0 fun _ _ q => q) .u64 hn
  simp only [bump_run, nilChk_ptr, addOff_run, bind_pure', Nat.add_zero]
  rw [ld1_run h1' rfl]
  simp only [lenSl_run, bind_pure', cvInt_run, wrap_u64 (Int.natCast_nonneg bs.length) (by omega), bin_gtr]
  rw [show decide ((n : Int) > (bs.length : Int)) = false by rw [decide_eq_false_iff_not]; omega]
  simp only [condM_false]
  rw [ld1_run h1' rfl]
  simp only [e1, bind_pure']
  rw [ld1_run h1' rfl]
  simp only [e2, bind_pure']
  obtain ⟨a2, m2, c2, rfl⟩ := p3
  rw [st1_run h1' (by simp) rfl]
  have hf : Fr (· = w) (⟨V.next + 1, V.tree⟩ : VS) ((⟨V.next + 1, V.tree⟩ : VS).set w (.cells true ([.slice a bs.length c].set 0 (.slice a2 m2 c2)) ty)) := Fr.set fun _ => rfl
  refine ⟨r1, _, rfl, q1.keep hf fun i hi q => h.apart (q ▸ h3 i (q2 i hi)), ⟨?_, ?_, h.apart⟩, (Fr.bump (· = w) V 1).trans hf fun _ _ q => q, fun i hi => h3 i (q2 i hi), q3⟩
  · show w < V.next + 1; have := h.lt; omega
  · exact ⟨_, ty, VS.set_same _ _ _, p1.keep hf fun i hi q => h.apart (q ▸ h3 i (p2 i hi)), fun i hi => h3 i (p2 i hi), _, _, _, rfl⟩
theorem take_short {D : Nat → Prop} {V : VS} {w : Nat} {bs : List Nat} (h : RAt D V w bs) {n : Nat} (hn : bs.length < n) (hb : bs.length < 18446744073709551616) :
    k63 (.pointer (some ⟨w, 0, none⟩)) (.int .u64 (n : Int)) V = .panic (thrown 4) ⟨V.next + 1, V.tree⟩ := by
  obtain ⟨s, ty, h1, h2, h3, a, m, c, rfl⟩ := h.ex
  have hm : m = bs.length := h2.cells.2
  subst hm
  unfold k63 b63
  have h1' : (⟨V.next + 1, V.tree⟩ : VS).mem w = some (.cells true [.slice a bs.length c] ty) := h1
  simp only [bump_run, nilChk_ptr, addOff_run, bind_pure', Nat.add_zero]
  rw [ld1_run h1' rfl]
  simp only [lenSl_run, bind_pure', cvInt_run, wrap_u64 (Int.natCast_nonneg bs.length) (by omega), bin_gtr]
  rw [show decide ((n : Int) > (bs.length : Int)) = true by rw [decide_eq_true_eq]; omega]
  simp only [condM_true]
  rfl
end Go.Vm.Tryd
end
section
set_option linter.unusedVariables false
set_option linter.unusedSimpArgs false
set_option maxRecDepth 100000
namespace Go.Vm.Tryd
open Go Go.Vm

/-- The number that bytes say, the greatest first. -/
def val (bs : List Nat) : Nat := bs.foldl (fun a b => a * 256 + b) 0
theorem foldl_val : ∀ (bs : List Nat) (a : Nat), bs.foldl (fun a b => a * 256 + b) a = a * 256 ^ bs.length + val bs
  | [], a => by simp [val]
  | b :: bs, a => by
    simp only [List.foldl_cons, val, List.length_cons]
    rw [foldl_val bs (a * 256 + b), foldl_val bs (0 * 256 + b)]
    rw [Nat.pow_succ, Nat.add_mul, Nat.mul_assoc, Nat.mul_comm (256 ^ bs.length) 256, Nat.zero_mul, Nat.zero_add]
    omega
theorem val_snoc (bs : List Nat) (b : Nat) : val (bs ++ [b]) = val bs * 256 + b := by simp [val]
theorem val_lt : ∀ (bs : List Nat), (∀ x ∈ bs, x < 256) → val bs < 256 ^ bs.length := by
  intro bs
  induction bs with
  | nil => intro _; simp [val]
  | cons b bs ih =>
    intro h
    have h1 := ih fun x hx => h x (by simp [hx])
    have h2 := h b (by simp)
    have : val (b :: bs) = b * 256 ^ bs.length + val bs := by
      show List.foldl _ (0 * 256 + b) bs = _
      rw [foldl_val]; simp
    rw [this, List.length_cons, Nat.pow_succ]
    have h3 : b * 256 ^ bs.length + 256 ^ bs.length ≤ 256 * 256 ^ bs.length := by
      rw [← Nat.succ_mul]; exact Nat.mul_le_mul_right _ h2
    rw [Nat.mul_comm (256 ^ bs.length) 256]
    omega
theorem BAt.get {V : VS} {s : Value} {bs : List Nat} (h : BAt V s bs) {i : Nat} (hi : i < bs.length) :
    ∃ b o n c own cs ty, s = .slice (some ⟨b, o, none⟩) n c ∧ n = bs.length ∧ V.mem b = some (.cells own cs ty) ∧ cs[o + i]? = some (bv bs[i]) := by
  cases h with
  | nil => simp at hi
  | zero b o c => simp at hi
  | row _ b o c own cs ty hb hm hl hc hk =>
    refine ⟨b, o, _, c, own, cs, ty, rfl, rfl, hm, ?_⟩
    have h1 := congrArg (·[i]?) hc
    simp only [List.getElem?_take, if_pos hi, List.getElem?_drop, List.getElem?_map, List.getElem?_eq_getElem hi, Option.map_some] at h1
    exact h1
theorem shl_or (a b : Nat) (hb : b < 256) (ha : a * 256 + b < 18446744073709551616) :
    IntKind.u64.wrap ((BitVec.ofInt IntKind.u64.bits (IntKind.u64.wrap ((a : Int) * 2 ^ (min 8 IntKind.u64.bits))) ||| BitVec.ofInt IntKind.u64.bits (b : Int)).toNat : Int) = ((a * 256 + b : Nat) : Int) := by
  have h1 : IntKind.u64.wrap ((a : Int) * 2 ^ (min 8 IntKind.u64.bits)) = ((a * 256 : Nat) : Int) := by
    rw [show (2 : Int) ^ (min 8 IntKind.u64.bits) = 256 from rfl]
    rw [wrap_u64 (by omega) (by omega)]
    omega
  rw [h1]
  have h2 : (BitVec.ofInt IntKind.u64.bits ((a * 256 : Nat) : Int) ||| BitVec.ofInt IntKind.u64.bits (b : Int)).toNat = a * 256 + b := by
    rw [BitVec.toNat_or]
    simp only [BitVec.ofInt_natCast, BitVec.toNat_ofNat]
    rw [Nat.mod_eq_of_lt (show a * 256 < 2 ^ IntKind.u64.bits by show a * 256 < 18446744073709551616; omega), Nat.mod_eq_of_lt (show b < 2 ^ IntKind.u64.bits by show b < 18446744073709551616; omega)]
    have := Nat.shiftLeft_add_eq_or_of_lt (show b < 2 ^ 8 by omega) a
    rw [Nat.shiftLeft_eq] at this
    exact this.symm
  rw [h2]
  exact wrap_u64 (by omega) (by omega)
theorem number_ok {D : Nat → Prop} {V : VS} {w : Nat} {bs : List Nat} (h : RAt D V w bs) (hlt : ∀ x ∈ bs, x < 256) {size : Nat} (hs : size ≤ bs.length) (h8 : size ≤ 8) (hb : bs.length < 18446744073709551616) :
    ∃ V', k62 (.pointer (some ⟨w, 0, none⟩)) (.int .u64 (size : Int)) V = .ok (.int .u64 (val (bs.take size) : Int)) V' ∧ RAt D V' w (bs.drop size) ∧ Fr (· = w) V V' := by
  obtain ⟨r, V1, e1, q1, q2, q3, q4, a, m, c, rfl⟩ := take_ok h hs hb
  have hm : m = (bs.take size).length := q1.cells.2
  have hlen : (bs.take size).length = size := by simp; omega
  rw [hlen] at hm
  subst hm
  unfold k62 b62
  have e1' : f63 [.pointer (some ⟨w, 0, none⟩), .int .u64 (m : Int)] V = .ok (.slice a m c) V1 := e1
  rw [bind_ok e1']
  simp only [lenSl_run, bind_pure']
  suffices hloop : ∃ V', loopM (fun vs_3 =>
    M.bind (bin (.cell .int) .lss (nth vs_3 1) (.int .i64 (m : Int))) fun t13_4 =>
    condM t13_4 (
    M.bind (idxSl 1 (.slice a m c) (nth vs_3 1)) fun t14_5 =>
    M.bind (ld1 t14_5) fun t15_6 =>
    M.bind (bump 1) fun b_7 =>
    M.bind (bin (.cell .int) .shl (nth vs_3 0) (Go.Value.int Go.IntKind.u64 8)) fun t17_8 =>
    M.bind (cvInt .u64 t15_6) fun t19_9 =>
    M.bind (bin (.cell .int) .or t17_8 t19_9) fun t20_10 =>
    M.bind (bin (.cell .int) .add (nth vs_3 1) (Go.Value.int Go.IntKind.i64 1)) fun t21_11 =>
    M.pure (.norm [t20_10, t21_11])) (
    M.pure (.exit 0 [(nth vs_3 0)]))) [(Go.Value.int Go.IntKind.u64 0), (Go.Value.int Go.IntKind.i64 0)] V1 = .ok (.exit 0 [.int .u64 (val (bs.take m) : Int)]) V' ∧ Fr (fun _ => False) V1 V' by
    obtain ⟨V', g1, g2⟩ := hloop
    rw [bind_ok g1]
    exact ⟨V', rfl, q2.keep g2 (fun q => q) fun _ _ q => q, q3.trans (g2.mono fun _ _ q => q.elim) fun _ _ q => q⟩
  refine loop_rule (Q := fun r => ∃ V', r = .ok (.exit 0 [.int .u64 (val (bs.take m) : Int)]) V' ∧ Fr (fun _ => False) V1 V')
    (fun k vs V2 => ∃ i : Nat, k = m - i ∧ i ≤ m ∧ vs = [.int .u64 (val (bs.take i) : Int), .int .i64 (i : Int)] ∧ Fr (fun _ => False) V1 V2) ?_ (k := m) ⟨0, rfl, by omega, rfl, Fr.refl _ _⟩ (by unfold FUEL; omega)
  rintro k vs V2 ⟨i, rfl, hi, rfl, hfr⟩
  by_cases hlt' : i < m
  · left
    have hb2 := q1.keep hfr fun _ _ q => q
    obtain ⟨b, o, n', c', own, cs, ty, hs1, _, hm1, hv1⟩ := hb2.get (i := i) (by omega)
    cases hs1
    have hib : i < bs.length := by omega
    have hx : (bs.take m)[i]'(by omega) = bs[i] := by simp
    rw [hx] at hv1
    have htk : bs.take (i + 1) = bs.take i ++ [bs[i]] := List.take_succ_eq_append_getElem hib
    have hb256 : bs[i] < 256 := hlt _ (List.getElem_mem hib)
    have hvl : val (bs.take (i + 1)) < 18446744073709551616 := by
      have h1 := val_lt (bs.take (i + 1)) fun x hx => hlt x (List.mem_of_mem_take hx)
      have h2 : (bs.take (i + 1)).length ≤ 8 := by simp; omega
      have h3 : 256 ^ (bs.take (i + 1)).length ≤ 256 ^ 8 := Nat.pow_le_pow_right (by omega) h2
      omega
    rw [htk, val_snoc] at hvl
    have hw1 : IntKind.i64.wrap ((i : Int) + 1) = ((i + 1 : Nat) : Int) := by rw [wrap_i64 (by omega) (by omega)]; omega
    refine ⟨[.int .u64 (val (bs.take (i + 1)) : Int), .int .i64 ((i + 1 : Nat) : Int)], ⟨V2.next + 1, V2.tree⟩, m - (i + 1), ?_, by omega, i + 1, rfl, by omega, rfl, hfr.trans (Fr.bump (fun _ => False) V2 1) fun _ _ q => q⟩
    simp only [nth_zero, nth_succ, bin_lss, bind_pure']
    rw [show decide ((i : Int) < (m : Int)) = true by rw [decide_eq_true_eq]; omega]
    simp only [condM_true, idxSl_run 1 b o m c .i64 (n := (i : Int)) ⟨by omega, by omega⟩, bind_pure', Int.toNat_natCast, Nat.mul_one]
    rw [ld1_run hm1 hv1]
    simp only [bump_run, bin_shl _ _ _ (show (0 : Int) ≤ 8 by omega), bind_pure', bv, cvInt_run, wrap_u64 (Int.natCast_nonneg bs[i]) (by omega), bin_or, bin_add, hw1, pure_run]
    rw [show (8 : Int).toNat = 8 from rfl, shl_or _ _ hb256 hvl, htk, val_snoc]
  · right
    have : i = m := by omega
    subst this
    have hrun : ∀ X : M J, (M.bind (bin (.cell .int) .lss (nth [.int .u64 (val (bs.take i) : Int), .int .i64 (i : Int)] 1) (.int .i64 (i : Int))) fun t13_4 => condM t13_4 X (M.pure (.exit 0 [(nth [.int .u64 (val (bs.take i) : Int), .int .i64 (i : Int)] 0)]))) V2 = .ok (.exit 0 [.int .u64 (val (bs.take i) : Int)]) V2 := by
      intro X
      simp only [nth_zero, nth_succ, bin_lss, bind_pure']
      rw [show decide ((i : Int) < (i : Int)) = false by simp]
      rfl
    refine ⟨fun vs' V' h' => ?_, V2, hrun _, hfr⟩
    have h'' := (hrun _).symm.trans h'
    cases h''
end Go.Vm.Tryd
end
section
set_option linter.unusedVariables false
set_option linter.unusedSimpArgs false
set_option maxRecDepth 100000
namespace Go.Vm.Tryd
open Go Go.Vm

theorem number_short {D : Nat → Prop} {V : VS} {w : Nat} {bs : List Nat} (h : RAt D V w bs) {size : Nat} (hs : bs.length < size) (hb : bs.length < 18446744073709551616) :
    k62 (.pointer (some ⟨w, 0, none⟩)) (.int .u64 (size : Int)) V = .panic (thrown 4) ⟨V.next + 1, V.tree⟩ := by
  unfold k62 b62
  exact bind_panic (take_short h hs hb)
theorem ru64_ok {D : Nat → Prop} {V : VS} {w : Nat} {bs : List Nat} (h : RAt D V w bs) (hlt : ∀ x ∈ bs, x < 256) (hs : 8 ≤ bs.length) (hb : bs.length < 18446744073709551616) :
    ∃ V', k29 (.pointer (some ⟨w, 0, none⟩)) V = .ok (.int .u64 (val (bs.take 8) : Int)) V' ∧ RAt D V' w (bs.drop 8) ∧ Fr (· = w) V V' := by
  obtain ⟨V1, e1, q1, q2⟩ := number_ok h hlt (size := 8) hs (by omega) hb
  refine ⟨V1, ?_, q1, q2⟩
  unfold k29 b29
  have e1' : f62 [.pointer (some ⟨w, 0, none⟩), .int .u64 8] V = .ok _ V1 := e1
  rw [bind_ok e1']
  rfl
theorem ru64_short {D : Nat → Prop} {V : VS} {w : Nat} {bs : List Nat} (h : RAt D V w bs) (hs : bs.length < 8) :
    k29 (.pointer (some ⟨w, 0, none⟩)) V = .panic (thrown 4) ⟨V.next + 1, V.tree⟩ := by
  unfold k29 b29
  exact bind_panic (number_short h (size := 8) hs (by omega))
/-- Bytes with their number ahead, and what is behind. -/
def readB (bs : List Nat) : Option (List Nat × List Nat) :=
  if 4 ≤ bs.length ∧ val (bs.take 4) ≤ (bs.drop 4).length then some ((bs.drop 4).take (val (bs.take 4)), (bs.drop 4).drop (val (bs.take 4))) else none
theorem val4_lt {bs : List Nat} (hlt : ∀ x ∈ bs, x < 256) : val (bs.take 4) < 4294967296 := by
  have h1 := val_lt (bs.take 4) fun x hx => hlt x (List.mem_of_mem_take hx)
  have h2 : 256 ^ (bs.take 4).length ≤ 256 ^ 4 := Nat.pow_le_pow_right (by omega) (by simp; omega)
  omega
theorem rbytes_ok {D : Nat → Prop} {V : VS} {w : Nat} {bs x y : List Nat} (h : RAt D V w bs) (hlt : ∀ x ∈ bs, x < 256) (hb : bs.length ≤ 140737488355328) (hr : readB bs = some (x, y)) :
    ∃ r V', k30 (.pointer (some ⟨w, 0, none⟩)) V = .ok r V' ∧ BAt V' r x ∧ RAt D V' w y ∧ Fr (· = w) V V' ∧ (∀ i, SOwn r i → V.next ≤ i) ∧ ∃ a m c, r = .slice a m c := by
  unfold readB at hr
  split at hr
  · rename_i hc
    cases hr
    obtain ⟨V1, e1, q1, q2⟩ := number_ok h hlt (size := 4) hc.1 (by omega) (by omega)
    obtain ⟨r2, V2, e2, p1, p2, p3, p4, p5⟩ := take_ok q1 hc.2 (by simp; omega)
    obtain ⟨r3, V3, e3, s1, s2, s3, s4⟩ := clone_spec p1 (by simp; omega)
    have hn1 := q2.next
    have hn2 := p3.next
    refine ⟨r3, V3, ?_, s1, p2.keep s2 (fun q => q) fun _ _ q => q, (q2.trans p3 fun _ _ q => q).trans (s2.mono (S' := (· = w)) fun _ _ q => q.elim) fun _ _ q => q, fun i hi => by have := s3 i hi; omega, s4⟩
    unfold k30 b30
    have e1' : f62 [.pointer (some ⟨w, 0, none⟩), .int .u64 4] V = .ok _ V1 := e1
    have e2' : f63 [.pointer (some ⟨w, 0, none⟩), .int .u64 (val (bs.take 4) : Int)] V1 = .ok r2 V2 := e2
    have e3' : f59 [r2] V2 = .ok r3 V3 := e3
    rw [bind_ok e1', bind_ok e2', bind_ok e3']
    rfl
  · cases hr
theorem rbytes_short {D : Nat → Prop} {V : VS} {w : Nat} {bs : List Nat} (h : RAt D V w bs) (hlt : ∀ x ∈ bs, x < 256) (hb : bs.length ≤ 140737488355328) (hr : readB bs = none) :
    ∃ V', k30 (.pointer (some ⟨w, 0, none⟩)) V = .panic (thrown 4) V' ∧ Fr (· = w) V V' := by
  unfold readB at hr
  split at hr
  · cases hr
  · rename_i hc
    unfold k30 b30
    by_cases h4 : 4 ≤ bs.length
    · obtain ⟨V1, e1, q1, q2⟩ := number_ok h hlt (size := 4) h4 (by omega) (by omega)
      have e1' : f62 [.pointer (some ⟨w, 0, none⟩), .int .u64 4] V = .ok _ V1 := e1
      rw [bind_ok e1']
      have hs := take_short q1 (n := val (bs.take 4)) (by have := hc; omega) (by simp; omega)
      exact ⟨_, bind_panic hs, q2.trans (Fr.bump (· = w) V1 1) fun _ _ q => q⟩
    · exact ⟨_, bind_panic (number_short h (size := 4) (by omega) (by omega)), Fr.bump _ V 1⟩
end Go.Vm.Tryd
end
section
set_option linter.unusedVariables false
set_option linter.unusedSimpArgs false
set_option maxRecDepth 100000
namespace Go.Vm.Tryd
open Go Go.Vm

@[simp] theorem guard_tt (m : M Value) : guardM true (.bool true) m = m := rfl
@[simp] theorem guard_tf (m : M Value) : guardM true (.bool false) m = M.pure undefV := rfl
@[simp] theorem guard_ff (m : M Value) : guardM false (.bool false) m = m := rfl
@[simp] theorem guard_ft (m : M Value) : guardM false (.bool true) m = M.pure undefV := rfl
@[simp] theorem pick_run (t : Bool) (a b : Value) : pick (.bool t) a b = M.pure (cond t a b) := rfl
/-- The document's reader. -/
structure QAt (D : Nat → Prop) (V : VS) (w : Nat) (bs : List Nat) (code : Int) : Prop where
  lt : w < V.next
  ex : ∃ s ty, V.mem w = some (.cells true [s, .int .i64 code] ty) ∧ BAt V s bs ∧ (∀ i, SOwn s i → D i) ∧ ∃ a m c, s = .slice a m c
  apart : ¬ D w
theorem QAt.keep {D : Nat → Prop} {V V' : VS} {w : Nat} {bs : List Nat} {code : Int} (h : QAt D V w bs code) {S : Nat → Prop} (hf : Fr S V V') (hw : ¬ S w) (hD : ∀ i, D i → ¬ S i) : QAt D V' w bs code := by
  obtain ⟨s, ty, h1, h2, h3, h4⟩ := h.ex
  exact ⟨Nat.lt_of_lt_of_le h.lt hf.next, ⟨s, ty, by rw [hf.mem w h.lt hw]; exact h1, h2.keep hf fun i hi => hD i (h3 i hi), h3, h4⟩, h.apart⟩
theorem q_bad {D : Nat → Prop} {V : VS} {w : Nat} {bs : List Nat} {code : Int} (h : QAt D V w bs code) (hc : code ≠ 0) (size : Nat) :
    k32 (.pointer (some ⟨w, 0, none⟩)) (.int .i64 (size : Int)) V = .ok (.int .u64 0) V := by
  obtain ⟨s, ty, h1, h2, h3, a, m, c, rfl⟩ := h.ex
  unfold k32 b32
  simp only [nilChk_ptr, addOff_run, bind_pure', Nat.zero_add]
  rw [ld1_run (v := .int .i64 code) h1 rfl]
  have hb : (code == 0) = false := by simpa using hc
  have hb2 : (code != 0) = true := by simpa using hc
  simp only [bin_eql, bind_pure', hb, guard_tf, pick_run, cond_false, condM_false, onJ_norm]
  rw [ld1_run (v := .int .i64 code) h1 rfl]
  simp only [bin_neq, bind_pure', hb2, condM_true]
  rfl
theorem q_short {D : Nat → Prop} {V : VS} {w : Nat} {bs : List Nat} (h : QAt D V w bs 0) {size : Nat} (hs : bs.length < size) :
    ∃ V', k32 (.pointer (some ⟨w, 0, none⟩)) (.int .i64 (size : Int)) V = .ok (.int .u64 0) V' ∧ QAt D V' w bs 4 ∧ Fr (· = w) V V' := by
  obtain ⟨s, ty, h1, h2, h3, a, m, c, rfl⟩ := h.ex
  have hm : m = bs.length := h2.cells.2
  subst hm
  unfold k32 b32
  simp only [nilChk_ptr, addOff_run, bind_pure', Nat.zero_add]
  rw [ld1_run (v := .int .i64 0) h1 rfl]
  simp only [bin_eql, bind_pure', show ((0 : Int) == 0) = true from rfl, guard_tt, nilChk_ptr, addOff_run, Nat.zero_add]
  rw [ld1_run (v := .slice a bs.length c) h1 rfl]
  simp only [lenSl_run, bind_pure', bin_lss]
  rw [show decide ((bs.length : Int) < (size : Int)) = true by rw [decide_eq_true_eq]; omega]
  simp only [pick_run, bind_pure', cond_true, condM_true, bind_assoc]
  rw [st1_run h1 (by simp) rfl]
  simp only [onJ_norm, bind_pure']
  have hf : Fr (· = w) V (V.set w (.cells true ([.slice a bs.length c, .int .i64 0].set 1 (.int .i64 4)) ty)) := Fr.set fun _ => rfl
  have h1' : (V.set w (.cells true ([.slice a bs.length c, .int .i64 0].set 1 (.int .i64 4)) ty)).mem w = some (.cells true [.slice a bs.length c, .int .i64 4] ty) := VS.set_same _ _ _
  rw [ld1_run (v := .int .i64 4) h1' rfl]
  refine ⟨_, rfl, ⟨h.lt, ⟨_, ty, h1', h2.keep hf fun i hi q => h.apart (q ▸ h3 i hi), h3, _, _, _, rfl⟩, h.apart⟩, hf⟩
theorem mul_add (a b : Nat) (ha : a * 256 + b < 18446744073709551616) : IntKind.u64.wrap (IntKind.u64.wrap ((a : Int) * 256) + (b : Int)) = ((a * 256 + b : Nat) : Int) := by
  rw [wrap_u64 (n := (a : Int) * 256) (by omega) (by omega), wrap_u64 (by omega) (by omega)]
  omega
theorem q_ok {D : Nat → Prop} {V : VS} {w : Nat} {bs : List Nat} (h : QAt D V w bs 0) (hlt : ∀ x ∈ bs, x < 256) {size : Nat} (hs : size ≤ bs.length) (h8 : size ≤ 8) :
    ∃ V', k32 (.pointer (some ⟨w, 0, none⟩)) (.int .i64 (size : Int)) V = .ok (.int .u64 (val (bs.take size) : Int)) V' ∧ QAt D V' w (bs.drop size) 0 ∧ Fr (· = w) V V' := by
  obtain ⟨s, ty, h1, h2, h3, a, m, c, rfl⟩ := h.ex
  have hm : m = bs.length := h2.cells.2
  subst hm
  unfold k32 b32
  simp only [nilChk_ptr, addOff_run, bind_pure', Nat.zero_add, Nat.add_zero]
  rw [ld1_run (v := .int .i64 0) h1 rfl]
  simp only [bin_eql, bind_pure', show ((0 : Int) == 0) = true from rfl, guard_tt, nilChk_ptr, addOff_run, Nat.zero_add]
  rw [ld1_run (v := .slice a bs.length c) h1 rfl]
  simp only [lenSl_run, bind_pure', bin_lss]
  rw [show decide ((bs.length : Int) < (size : Int)) = false by rw [decide_eq_false_iff_not]; omega]
  simp only [pick_run, bind_pure', cond_true, condM_false, onJ_norm]
  rw [ld1_run (v := .int .i64 0) h1 rfl]
  simp only [bin_neq, bind_pure', show ((0 : Int) != 0) = false from rfl, condM_false]
  suffices hloop : ∃ V', loopM (fun vs_21 =>
    M.bind (bin (.cell .int) .lss (nth vs_21 1) (.int .i64 (size : Int))) fun t31_22 =>
    condM t31_22 (
    M.bind (bump 1) fun b_23 =>
    M.bind (bin (.cell .int) .mul (nth vs_21 0) (Go.Value.int Go.IntKind.u64 256)) fun t35_24 =>
    M.bind (ld1 (.pointer (some ⟨w, 0, none⟩))) fun t39_27 =>
    M.bind (idxSl 1 t39_27 (nth vs_21 1)) fun t41_28 =>
    M.bind (ld1 t41_28) fun t42_29 =>
    M.bind (cvInt .u64 t42_29) fun t43_30 =>
    M.bind (bin (.cell .int) .add t35_24 t43_30) fun t44_31 =>
    M.bind (bin (.cell .int) .add (nth vs_21 1) (Go.Value.int Go.IntKind.i64 1)) fun t33_32 =>
    M.pure (.norm [t44_31, t33_32])) (
    M.pure (.exit 0 [(nth vs_21 0)]))) [(Go.Value.int Go.IntKind.u64 0), (Go.Value.int Go.IntKind.i64 0)] V = .ok (.exit 0 [.int .u64 (val (bs.take size) : Int)]) V' ∧ Fr (fun _ => False) V V' by
    obtain ⟨V', g1, g2⟩ := hloop
    rw [bind_ok g1]
    simp only [onJ_exit, show Nat.beq 0 0 = true from rfl, cond_true]
    have hm' : V'.mem w = some (.cells true [.slice a bs.length c, .int .i64 0] ty) := by rw [g2.mem w h.lt fun q => q]; exact h1
    obtain ⟨r2, e2, p1, p2, p3⟩ := slice_lo (h2.keep g2 fun _ _ q => q) .i64 hs
    rw [ld1_run (v := .slice a bs.length c) hm' rfl]
    simp only [e2, bind_pure']
    obtain ⟨a2, m2, c2, rfl⟩ := p3
    rw [st1_run hm' (by simp) rfl]
    have hf : Fr (· = w) V' (V'.set w (.cells true ([.slice a bs.length c, .int .i64 0].set 0 (.slice a2 m2 c2)) ty)) := Fr.set fun _ => rfl
    refine ⟨_, rfl, ⟨Nat.lt_of_lt_of_le h.lt g2.next, ⟨_, ty, VS.set_same _ _ _, p1.keep hf fun i hi q => h.apart (q ▸ h3 i (p2 i hi)), fun i hi => h3 i (p2 i hi), _, _, _, rfl⟩, h.apart⟩, (g2.mono (S' := (· = w)) fun _ _ q => q.elim).trans hf fun _ _ q => q⟩
  refine loop_rule (Q := fun r => ∃ V', r = .ok (.exit 0 [.int .u64 (val (bs.take size) : Int)]) V' ∧ Fr (fun _ => False) V V')
    (fun k vs V2 => ∃ i : Nat, k = size - i ∧ i ≤ size ∧ vs = [.int .u64 (val (bs.take i) : Int), .int .i64 (i : Int)] ∧ Fr (fun _ => False) V V2) ?_ (k := size) ⟨0, rfl, by omega, rfl, Fr.refl _ _⟩ (by unfold FUEL; omega)
  rintro k vs V2 ⟨i, rfl, hi, rfl, hfr⟩
  by_cases hlt' : i < size
  · left
    have hb2 := h2.keep hfr fun _ _ q => q
    obtain ⟨b, o, n', c', own, cs, ty', hs1, _, hm1, hv1⟩ := hb2.get (i := i) (by omega)
    cases hs1
    have hib : i < bs.length := by omega
    have htk : bs.take (i + 1) = bs.take i ++ [bs[i]] := List.take_succ_eq_append_getElem hib
    have hb256 : bs[i] < 256 := hlt _ (List.getElem_mem hib)
    have hvl : val (bs.take (i + 1)) < 18446744073709551616 := by
      have h1 := val_lt (bs.take (i + 1)) fun x hx => hlt x (List.mem_of_mem_take hx)
      have h2 : (bs.take (i + 1)).length ≤ 8 := by simp; omega
      have h3 : 256 ^ (bs.take (i + 1)).length ≤ 256 ^ 8 := Nat.pow_le_pow_right (by omega) h2
      omega
    rw [htk, val_snoc] at hvl
    have hw1 : IntKind.i64.wrap ((i : Int) + 1) = ((i + 1 : Nat) : Int) := by rw [wrap_i64 (by omega) (by omega)]; omega
    have hmw : (⟨V2.next + 1, V2.tree⟩ : VS).mem w = some (.cells true [.slice (some ⟨b, o, none⟩) bs.length c, .int .i64 0] ty) := by rw [mem_bump, hfr.mem w h.lt fun q => q]; exact h1
    refine ⟨[.int .u64 (val (bs.take (i + 1)) : Int), .int .i64 ((i + 1 : Nat) : Int)], ⟨V2.next + 1, V2.tree⟩, size - (i + 1), ?_, by omega, i + 1, rfl, by omega, rfl, hfr.trans (Fr.bump (fun _ => False) V2 1) fun _ _ q => q⟩
    simp only [nth_zero, nth_succ, bin_lss, bind_pure']
    rw [show decide ((i : Int) < (size : Int)) = true by rw [decide_eq_true_eq]; omega]
    simp only [condM_true, bump_run, bin_mul, bind_pure']
    rw [ld1_run (v := .slice (some ⟨b, o, none⟩) bs.length c) hmw rfl]
    simp only [idxSl_run 1 b o bs.length c .i64 (n := (i : Int)) ⟨by omega, by omega⟩, bind_pure', Int.toNat_natCast, Nat.mul_one]
    rw [ld1_run (V := ⟨V2.next + 1, V2.tree⟩) hm1 hv1]
    simp only [bind_pure', bv, cvInt_run, wrap_u64 (Int.natCast_nonneg bs[i]) (by omega), bin_add, hw1, pure_run]
    rw [mul_add _ _ hvl, htk, val_snoc]
  · right
    have : i = size := by omega
    subst this
    have hrun : ∀ X : M J, (M.bind (bin (.cell .int) .lss (nth [.int .u64 (val (bs.take i) : Int), .int .i64 (i : Int)] 1) (.int .i64 (i : Int))) fun t13_4 => condM t13_4 X (M.pure (.exit 0 [(nth [.int .u64 (val (bs.take i) : Int), .int .i64 (i : Int)] 0)]))) V2 = .ok (.exit 0 [.int .u64 (val (bs.take i) : Int)]) V2 := by
      intro X
      simp only [nth_zero, nth_succ, bin_lss, bind_pure']
      rw [show decide ((i : Int) < (i : Int)) = false by simp]
      rfl
    refine ⟨fun vs' V' h' => ?_, V2, hrun _, hfr⟩
    have h'' := (hrun _).symm.trans h'
    cases h''
end Go.Vm.Tryd
end
section
set_option linter.unusedVariables false
set_option linter.unusedSimpArgs false
set_option maxRecDepth 100000
namespace Go.Vm.Tryd
open Go Go.Vm

theorem qbytes_ok {D : Nat → Prop} {V : VS} {w : Nat} {bs x y : List Nat} (h : QAt D V w bs 0) (hlt : ∀ x ∈ bs, x < 256) (hb : bs.length ≤ 140737488355328) (hr : readB bs = some (x, y)) :
    ∃ r V', k33 (.pointer (some ⟨w, 0, none⟩)) V = .ok r V' ∧ BAt V' r x ∧ QAt D V' w y 0 ∧ Fr (· = w) V V' ∧ (∀ i, SOwn r i → D i) ∧ ∃ a m c, r = .slice a m c := by
  unfold readB at hr
  split at hr
  · rename_i hc
    cases hr
    obtain ⟨V1, e1, q1, q2⟩ := q_ok h hlt (size := 4) hc.1 (by omega)
    obtain ⟨s, ty, h1, h2, h3, a, m, c, rfl⟩ := q1.ex
    have hm : m = (bs.drop 4).length := h2.cells.2
    subst hm
    have hv4 := val4_lt hlt
    unfold k33 b33
    have e1' : f32 [.pointer (some ⟨w, 0, none⟩), .int .i64 4] V = .ok _ V1 := e1
    rw [bind_ok e1']
    have hb0 : Fr (fun _ => False) V1 ⟨V1.next + 1, V1.tree⟩ := Fr.bump _ V1 1
    have h1' : (⟨V1.next + 1, V1.tree⟩ : VS).mem w = some (.cells true [.slice a (bs.drop 4).length c, .int .i64 0] ty) := h1
    obtain ⟨r1, g1, a1, a2, a3⟩ := slice_hi (h2.keep hb0 fun _ _ q => q) .u64 hc.2
    obtain ⟨r2, g2, p1, p2, p3⟩ := slice_lo (h2.keep hb0 fun _ _ q => q) .u64 hc.2
    simp only [bump_run, nilChk_ptr, addOff_run, bind_pure', Nat.zero_add, Nat.add_zero]
    rw [ld1_run (v := .int .i64 0) h1' rfl]
    simp only [bin_eql, bind_pure', show ((0 : Int) == 0) = true from rfl, guard_tt, nilChk_ptr, addOff_run, Nat.add_zero]
    rw [ld1_run (v := .slice a (bs.drop 4).length c) h1' rfl]
    simp only [lenSl_run, bind_pure', cvInt_run, wrap_u64 (Int.natCast_nonneg (bs.drop 4).length) (by simp; omega), bin_gtr]
    rw [show decide ((val (bs.take 4) : Int) > ((bs.drop 4).length : Int)) = false by rw [decide_eq_false_iff_not]; have := hc.2; omega]
    simp only [pick_run, bind_pure', cond_true, condM_false, onJ_norm]
    rw [ld1_run (v := .int .i64 0) h1' rfl]
    simp only [bin_neq, bind_pure', show ((0 : Int) != 0) = false from rfl, condM_false]
    rw [ld1_run (v := .slice a (bs.drop 4).length c) h1' rfl]
    simp only [g1, bind_pure']
    rw [ld1_run (v := .slice a (bs.drop 4).length c) h1' rfl]
    simp only [g2, bind_pure']
    obtain ⟨a2', m2, c2, rfl⟩ := p3
    rw [st1_run h1' (by simp) rfl]
    have hf : Fr (· = w) (⟨V1.next + 1, V1.tree⟩ : VS) ((⟨V1.next + 1, V1.tree⟩ : VS).set w (.cells true ([.slice a (bs.drop 4).length c, .int .i64 0].set 0 (.slice a2' m2 c2)) ty)) := Fr.set fun _ => rfl
    refine ⟨r1, _, rfl, a1.keep hf fun i hi q => h.apart (q ▸ h3 i (a2 i hi)), ⟨?_, ⟨_, ty, VS.set_same _ _ _, p1.keep hf fun i hi q => h.apart (q ▸ h3 i (p2 i hi)), fun i hi => h3 i (p2 i hi), _, _, _, rfl⟩, h.apart⟩, (q2.trans (Fr.bump (· = w) V1 1) fun _ _ q => q).trans hf fun _ _ q => q, fun i hi => h3 i (a2 i hi), a3⟩
    show w < V1.next + 1
    have := q1.lt
    omega
  · cases hr
theorem qbytes_end {D : Nat → Prop} {V : VS} {w : Nat} {bs : List Nat} {code : Int} (q1 : QAt D V w bs code) (hc : code ≠ 0) {n : Value} {V0 : VS} (e1 : k32 (.pointer (some ⟨w, 0, none⟩)) (.int .i64 4) V0 = .ok n V) :
    ∃ V', k33 (.pointer (some ⟨w, 0, none⟩)) V0 = .ok (.slice none 0 0) V' ∧ QAt D V' w bs code ∧ Fr (fun _ => False) V V' := by
  obtain ⟨s, ty, h1, h2, h3, a, m, c, rfl⟩ := q1.ex
  unfold k33 b33
  have e1' : f32 [.pointer (some ⟨w, 0, none⟩), .int .i64 4] V0 = .ok n V := e1
  rw [bind_ok e1']
  have hb0 : Fr (fun _ => False) V ⟨V.next + 1, V.tree⟩ := Fr.bump _ V 1
  have h1' : (⟨V.next + 1, V.tree⟩ : VS).mem w = some (.cells true [.slice a m c, .int .i64 code] ty) := h1
  have hb : (code == 0) = false := by simpa using hc
  have hb2 : (code != 0) = true := by simpa using hc
  simp only [bump_run, nilChk_ptr, addOff_run, bind_pure', Nat.zero_add, Nat.add_zero]
  rw [ld1_run (v := .int .i64 code) h1' rfl]
  simp only [bin_eql, bind_pure', hb, guard_tf, pick_run, cond_false, condM_false, onJ_norm]
  rw [ld1_run (v := .int .i64 code) h1' rfl]
  simp only [bin_neq, bind_pure', hb2, condM_true]
  exact ⟨_, rfl, q1.keep hb0 (fun q => q) fun _ _ q => q, hb0⟩
theorem qbytes_bad {D : Nat → Prop} {V : VS} {w : Nat} {bs : List Nat} {code : Int} (h : QAt D V w bs code) (hc : code ≠ 0) :
    ∃ V', k33 (.pointer (some ⟨w, 0, none⟩)) V = .ok (.slice none 0 0) V' ∧ QAt D V' w bs code ∧ Fr (fun _ => False) V V' := qbytes_end h hc (q_bad h hc 4)
theorem qbytes_short {D : Nat → Prop} {V : VS} {w : Nat} {bs : List Nat} (h : QAt D V w bs 0) (hlt : ∀ x ∈ bs, x < 256) (hb : bs.length ≤ 140737488355328) (hr : readB bs = none) :
    ∃ V' bs', k33 (.pointer (some ⟨w, 0, none⟩)) V = .ok (.slice none 0 0) V' ∧ QAt D V' w bs' 4 ∧ Fr (· = w) V V' := by
  unfold readB at hr
  split at hr
  · cases hr
  · rename_i hc
    by_cases h4 : 4 ≤ bs.length
    · obtain ⟨V1, e1, q1, q2⟩ := q_ok h hlt (size := 4) h4 (by omega)
      obtain ⟨s, ty, h1, h2, h3, a, m, c, rfl⟩ := q1.ex
      have hm : m = (bs.drop 4).length := h2.cells.2
      subst hm
      have hv4 := val4_lt hlt
      unfold k33 b33
      have e1' : f32 [.pointer (some ⟨w, 0, none⟩), .int .i64 4] V = .ok _ V1 := e1
      rw [bind_ok e1']
      have hb0 : Fr (fun _ => False) V1 ⟨V1.next + 1, V1.tree⟩ := Fr.bump _ V1 1
      have h1' : (⟨V1.next + 1, V1.tree⟩ : VS).mem w = some (.cells true [.slice a (bs.drop 4).length c, .int .i64 0] ty) := h1
      simp only [bump_run, nilChk_ptr, addOff_run, bind_pure', Nat.zero_add, Nat.add_zero]
      rw [ld1_run (v := .int .i64 0) h1' rfl]
      simp only [bin_eql, bind_pure', show ((0 : Int) == 0) = true from rfl, guard_tt, nilChk_ptr, addOff_run, Nat.add_zero]
      rw [ld1_run (v := .slice a (bs.drop 4).length c) h1' rfl]
      simp only [lenSl_run, bind_pure', cvInt_run, wrap_u64 (Int.natCast_nonneg (bs.drop 4).length) (by simp; omega), bin_gtr]
      rw [show decide ((val (bs.take 4) : Int) > ((bs.drop 4).length : Int)) = true by rw [decide_eq_true_eq]; omega]
      simp only [pick_run, bind_pure', cond_true, condM_true, bind_assoc, nilChk_ptr, addOff_run, Nat.zero_add]
      rw [st1_run h1' (by simp) rfl]
      simp only [onJ_norm, bind_pure']
      have hf : Fr (· = w) (⟨V1.next + 1, V1.tree⟩ : VS) ((⟨V1.next + 1, V1.tree⟩ : VS).set w (.cells true ([.slice a (bs.drop 4).length c, .int .i64 0].set 1 (.int .i64 4)) ty)) := Fr.set fun _ => rfl
      have h1'' : ((⟨V1.next + 1, V1.tree⟩ : VS).set w (.cells true ([.slice a (bs.drop 4).length c, .int .i64 0].set 1 (.int .i64 4)) ty)).mem w = some (.cells true [.slice a (bs.drop 4).length c, .int .i64 4] ty) := VS.set_same _ _ _
      rw [ld1_run (v := .int .i64 4) h1'' rfl]
      refine ⟨_, bs.drop 4, rfl, ⟨?_, ⟨_, ty, h1'', (h2.keep hb0 fun _ _ q => q).keep hf fun i hi q => h.apart (q ▸ h3 i hi), h3, _, _, _, rfl⟩, h.apart⟩, (q2.trans (Fr.bump (· = w) V1 1) fun _ _ q => q).trans hf fun _ _ q => q⟩
      show w < V1.next + 1
      have := q1.lt
      omega
    · obtain ⟨V1, e1, q1, q2⟩ := q_short h (size := 4) (by omega)
      obtain ⟨V2, g1, g2, g3⟩ := qbytes_end q1 (by omega) e1
      exact ⟨V2, bs, g1, g2, q2.trans (g3.mono fun _ _ q => q.elim) fun _ _ q => q⟩
end Go.Vm.Tryd
end
section
set_option linter.unusedVariables false
set_option linter.unusedSimpArgs false
set_option maxRecDepth 100000
namespace Go.Vm.Tryd
open Go Go.Vm

theorem qend_bad {D : Nat → Prop} {V : VS} {w : Nat} {bs : List Nat} {code : Int} (h : QAt D V w bs code) (hc : code ≠ 0) :
    k34 (.pointer (some ⟨w, 0, none⟩)) V = .ok (.int .i64 code) V := by
  obtain ⟨s, ty, h1, h2, h3, a, m, c, rfl⟩ := h.ex
  unfold k34 b34
  have hb : (code == 0) = false := by simpa using hc
  simp only [nilChk_ptr, addOff_run, bind_pure', Nat.zero_add, Nat.add_zero]
  rw [ld1_run (v := .int .i64 code) h1 rfl]
  simp only [bin_eql, bind_pure', hb, guard_tf, pick_run, cond_false, condM_false, onJ_norm]
  rw [ld1_run (v := .int .i64 code) h1 rfl]
  rfl
theorem qend_ok {D : Nat → Prop} {V : VS} {w : Nat} {bs : List Nat} (h : QAt D V w bs 0) :
    ∃ V', k34 (.pointer (some ⟨w, 0, none⟩)) V = .ok (.int .i64 (if bs = [] then 0 else 5)) V' ∧ Fr (· = w) V V' := by
  obtain ⟨s, ty, h1, h2, h3, a, m, c, rfl⟩ := h.ex
  have hm : m = bs.length := h2.cells.2
  subst hm
  unfold k34 b34
  simp only [nilChk_ptr, addOff_run, bind_pure', Nat.zero_add, Nat.add_zero]
  rw [ld1_run (v := .int .i64 0) h1 rfl]
  simp only [bin_eql, bind_pure', show ((0 : Int) == 0) = true from rfl, guard_tt, nilChk_ptr, addOff_run, Nat.add_zero]
  rw [ld1_run (v := .slice a bs.length c) h1 rfl]
  simp only [lenSl_run, bind_pure', bin_gtr]
  by_cases h0 : bs = []
  · subst h0
    rw [show decide (((([] : List Nat).length : Nat) : Int) > 0) = false from rfl]
    simp only [pick_run, bind_pure', cond_true, condM_false, onJ_norm]
    rw [ld1_run (v := .int .i64 0) h1 rfl]
    exact ⟨V, rfl, Fr.refl _ _⟩
  · have hpos : 0 < bs.length := List.length_pos_iff.2 h0
    rw [show decide ((bs.length : Int) > 0) = true by rw [decide_eq_true_eq]; omega]
    simp only [pick_run, bind_pure', cond_true, condM_true, bind_assoc, nilChk_ptr, addOff_run, Nat.zero_add]
    rw [st1_run h1 (by simp) rfl]
    simp only [onJ_norm, bind_pure']
    have h1'' : (V.set w (.cells true ([.slice a bs.length c, .int .i64 0].set 1 (.int .i64 5)) ty)).mem w = some (.cells true [.slice a bs.length c, .int .i64 5] ty) := VS.set_same _ _ _
    rw [ld1_run (v := .int .i64 5) h1'' rfl, if_neg h0]
    exact ⟨_, rfl, Fr.set fun _ => rfl⟩
end Go.Vm.Tryd
end
section
set_option linter.unusedVariables false
set_option linter.unusedSimpArgs false
set_option maxRecDepth 100000
namespace Go.Vm.Tryd
open Go Go.Vm

theorem or64 (a b : Nat) (ha : a < 18446744073709551616) (hb : b < 18446744073709551616) :
    IntKind.u64.wrap ((BitVec.ofInt IntKind.u64.bits (a : Int) ||| BitVec.ofInt IntKind.u64.bits (b : Int)).toNat : Int) = ((a ||| b : Nat) : Int) := by
  have h2 : (BitVec.ofInt IntKind.u64.bits (a : Int) ||| BitVec.ofInt IntKind.u64.bits (b : Int)).toNat = a ||| b := by
    rw [BitVec.toNat_or]
    simp only [BitVec.ofInt_natCast, BitVec.toNat_ofNat]
    rw [Nat.mod_eq_of_lt (show a < 2 ^ IntKind.u64.bits from ha), Nat.mod_eq_of_lt (show b < 2 ^ IntKind.u64.bits from hb)]
  rw [h2]
  exact wrap_u64 (Int.natCast_nonneg _) (by
    have := Nat.or_lt_two_pow (x := a) (y := b) (n := 64) ha hb
    have h3 : (2 : Nat) ^ 64 = 18446744073709551616 := rfl
    omega)
theorem and64 (a b : Nat) (ha : a < 18446744073709551616) (hb : b < 18446744073709551616) :
    IntKind.u64.wrap ((BitVec.ofInt IntKind.u64.bits (a : Int) &&& BitVec.ofInt IntKind.u64.bits (b : Int)).toNat : Int) = ((a &&& b : Nat) : Int) := by
  have h2 : (BitVec.ofInt IntKind.u64.bits (a : Int) &&& BitVec.ofInt IntKind.u64.bits (b : Int)).toNat = a &&& b := by
    rw [BitVec.toNat_and]
    simp only [BitVec.ofInt_natCast, BitVec.toNat_ofNat]
    rw [Nat.mod_eq_of_lt (show a < 2 ^ IntKind.u64.bits from ha), Nat.mod_eq_of_lt (show b < 2 ^ IntKind.u64.bits from hb)]
  rw [h2]
  exact wrap_u64 (Int.natCast_nonneg _) (by
    have : a &&& b ≤ a := Nat.and_le_left
    omega)
theorem rd {V : VS} {s : Value} {bs : List Nat} (h : BAt V s bs) {i : Nat} (hi : i < bs.length) {β : Type} (f : Value → M β) : M.bind (idxSl 1 s (.int .i64 (i : Int))) (fun p => M.bind (ld1 p) f) V = f (bv bs[i]) V := by
  obtain ⟨b, o, n, c, own, cs, ty, rfl, rfl, hm, hv⟩ := h.get hi
  rw [idxSl_run 1 b o bs.length c .i64 (n := (i : Int)) ⟨by omega, by omega⟩]
  simp only [bind_pure', Int.toNat_natCast, Nat.mul_one]
  exact ld1_run hm hv f
theorem shl64 (b k : Nat) (hb : b < 256) (hk : k ≤ 56) : IntKind.u64.wrap ((b : Int) * 2 ^ (min k IntKind.u64.bits)) = ((b <<< k : Nat) : Int) := by
  have h1 : min k IntKind.u64.bits = k := by show min k 64 = k; omega
  rw [h1, Nat.shiftLeft_eq]
  have h2 : b * 2 ^ k < 18446744073709551616 := by
    have h3 : 2 ^ k ≤ 2 ^ 56 := Nat.pow_le_pow_right (by omega) hk
    have h4 : b * 2 ^ k ≤ 255 * 2 ^ 56 := Nat.mul_le_mul (by omega) h3
    omega
  have h5 : ((b : Int) * 2 ^ k) = ((b * 2 ^ k : Nat) : Int) := by simp
  rw [h5]
  exact wrap_u64 (Int.natCast_nonneg _) (by omega)
end Go.Vm.Tryd
end
