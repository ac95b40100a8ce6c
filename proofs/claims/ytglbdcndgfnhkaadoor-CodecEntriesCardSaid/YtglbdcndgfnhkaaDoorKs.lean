/- Parts of the proof. -/
import Derived.Test.YtglbdcndgfnhkaaDoorKr
import Derived.KernelRfl
section
set_option linter.unusedVariables false
set_option linter.unusedSimpArgs false
set_option maxRecDepth 100000
set_option maxHeartbeats 1000000
namespace Go.Vm.Tryd
open Go Go.Vm

/-- Bytes as a string. -/
def ba (bs : List Nat) : ByteArray := ⟨(bs.map UInt8.ofNat).toArray⟩
theorem bytesOf_bv : ∀ bs : List Nat, bytesOf (bs.map bv) = some (bs.map UInt8.ofNat)
  | [] => rfl
  | b :: bs => by
    show (bytesOf (bs.map bv)).map (fun l => UInt8.ofNat (b : Int).toNat :: l) = _
    rw [bytesOf_bv bs]; simp
theorem cvS {V : VS} {s : Value} {bs : List Nat} (h : BAt V s bs) {β : Type} (f : Value → M β) : M.bind (cvString s) f V = f (.string (ba bs)) V := by
  cases h with
  | nil => exact nd rfl
  | zero b o c hb hk =>
    unfold M.bind cvString
    simp only [if_true]
    exact nd rfl
  | row _ b o c own cs ty hb hm hl hc hk =>
    unfold M.bind cvString
    by_cases h0 : bs.length = 0
    · have : bs = [] := List.eq_nil_of_length_eq_zero h0
      subst this
      simp only [List.length_nil, if_true]
      exact nd rfl
    · simp only [if_neg h0, hm, if_pos hl, hc, bytesOf_bv]
      rfl
theorem sb_ba {s : ByteArray} : ba (sb s) = s := by
  cases s with
  | mk d =>
    simp only [ba, sb, List.map_map]
    congr 1
    apply Array.toList_inj.1
    simp only
    rw [show (UInt8.ofNat ∘ fun x : UInt8 => x.toNat) = id by funext x; simp]
    simp
theorem ba_inj {a b : List Nat} (ha : ∀ x ∈ a, x < 256) (hb : ∀ x ∈ b, x < 256) (h : ba a = ba b) : a = b := by
  unfold ba at h
  have h1 : a.map UInt8.ofNat = b.map UInt8.ofNat := by
    have := congrArg (fun s : ByteArray => s.data.toList) h
    simpa using this
  have h2 := congrArg (List.map UInt8.toNat) h1
  rw [List.map_map, List.map_map] at h2
  have k : ∀ l : List Nat, (∀ x ∈ l, x < 256) → l.map (UInt8.toNat ∘ UInt8.ofNat) = l := by
    intro l hl
    conv => rhs; rw [← List.map_id l]
    exact List.map_congr_left fun x hx => by simp [Nat.mod_eq_of_lt (hl x hx)]
  rwa [k a ha, k b hb] at h2

/-- What a reader gives: a text, a number, bytes; and what is left. -/
def rdB (bs : List Nat) : Except Int (List Nat × List Nat) :=
  match readB bs with
  | some p => .ok p
  | none => .error 4
def rdT (tf ta bs : List Nat) : Except Int (List Nat × List Nat) :=
  match readB bs with
  | some p => if vutf tf ta p.1 = true then .ok p else .error 6
  | none => .error 4
def rd8 (bs : List Nat) : Except Int (Nat × List Nat) := if 8 ≤ bs.length then .ok (val (bs.take 8), bs.drop 8) else .error 4
theorem readB_sub {bs x y : List Nat} (h : readB bs = some (x, y)) : (∀ b ∈ x, b ∈ bs) ∧ (∀ b ∈ y, b ∈ bs) ∧ x.length + y.length + 4 = bs.length := by
  unfold readB at h
  split at h
  · rename_i hc
    cases h
    refine ⟨fun b hb => List.mem_of_mem_drop (List.mem_of_mem_take hb), fun b hb => List.mem_of_mem_drop (List.mem_of_mem_drop hb), ?_⟩
    have := hc.2
    simp only [List.length_take, List.length_drop] at this ⊢
    omega
  · cases h
theorem rdT_inv {tf ta bs x y : List Nat} (h : rdT tf ta bs = .ok (x, y)) : readB bs = some (x, y) ∧ vutf tf ta x = true := by
  unfold rdT at h
  cases hr : readB bs with
  | none => rw [hr] at h; cases h
  | some p =>
    rw [hr] at h
    simp only at h
    split at h
    · rename_i hv; cases h; exact ⟨rfl, hv⟩
    · cases h
theorem rdB_inv {bs x y : List Nat} (h : rdB bs = .ok (x, y)) : readB bs = some (x, y) := by
  unfold rdB at h
  cases hr : readB bs with
  | none => rw [hr] at h; cases h
  | some p => rw [hr] at h; cases h; rfl

section
variable {tf ta : List Nat} {D : Nat → Prop} {V : VS} {w : Nat} {bs : List Nat}
/-- The throwing reader's Text. -/
theorem rtext_spec (h : RAt D V w bs) (hlt : ∀ x ∈ bs, x < 256) (hb : bs.length ≤ 140737488355328) (hU : UAt V tf ta) (hw : 2 ≤ w) :
    match rdT tf ta bs with
    | .ok (x, y) => ∃ V', f28 [.pointer (some ⟨w, 0, none⟩)] V = .ok (.string (ba x)) V' ∧ RAt D V' w y ∧ Fr (· = w) V V'
    | .error e => ∃ V', f28 [.pointer (some ⟨w, 0, none⟩)] V = .panic (thrown e) V' ∧ Fr (· = w) V V' := by
  have hk : ∀ V, f28 [.pointer (some ⟨w, 0, none⟩)] V = k28 (.pointer (some ⟨w, 0, none⟩)) V := fun _ => rfl
  unfold rdT
  cases hr : readB bs with
  | none =>
    obtain ⟨V1, e1, f1⟩ := rbytes_short h hlt hb hr
    have e1' : f30 [.pointer (some ⟨w, 0, none⟩)] V = _ := e1
    refine ⟨V1, ?_, f1⟩
    rw [hk]
    unfold k28 b28
    exact bind_panic e1'
  | some p =>
    obtain ⟨x, y⟩ := p
    obtain ⟨r, V1, e1, b1, r1, f1, o1, s1⟩ := rbytes_ok h hlt hb hr
    have e1' : f30 [.pointer (some ⟨w, 0, none⟩)] V = _ := e1
    have hsub := readB_sub hr
    obtain ⟨V2, e2, f2⟩ := valid_spec b1 (fun b hb => hlt b (hsub.1 b hb)) (by omega) (hU.keep f1 (by omega) (by omega))
    have f12 := f1.trans (f2.mono (S' := (· = w)) fun _ _ q => q.elim) fun _ _ q => q
    simp only
    cases hv : vutf tf ta x with
    | true =>
      rw [if_pos rfl]
      refine ⟨⟨V2.next + 1, V2.tree⟩, ?_, ?_, f12.trans (Fr.bump (· = w) V2 1) fun _ _ q => q⟩
      · rw [hk]
        unfold k28 b28
        rw [bind_ok e1', bind_ok e2, hv, s_not, Bool.not_true, s_condf, s_bump, cvS ((b1.keep f2 fun _ _ q => q).keep (Fr.bump (fun _ => False) V2 1) fun _ _ q => q)]
        rfl
      · exact (r1.keep f2 (fun q => q) fun _ _ q => q).keep (Fr.bump (fun _ => False) V2 1) (fun q => q) fun _ _ q => q
    | false =>
      rw [if_neg (by simp)]
      refine ⟨V2, ?_, f12⟩
      rw [hk]
      unfold k28 b28
      rw [bind_ok e1', bind_ok e2, hv, s_not, Bool.not_false, s_condt]
      rfl
theorem ru64_spec (h : RAt D V w bs) (hlt : ∀ x ∈ bs, x < 256) (hb : bs.length ≤ 140737488355328) :
    match rd8 bs with
    | .ok (n, y) => ∃ V', f29 [.pointer (some ⟨w, 0, none⟩)] V = .ok (.int .u64 (n : Int)) V' ∧ RAt D V' w y ∧ Fr (· = w) V V'
    | .error e => ∃ V', f29 [.pointer (some ⟨w, 0, none⟩)] V = .panic (thrown e) V' ∧ Fr (· = w) V V' := by
  unfold rd8
  by_cases h8 : 8 ≤ bs.length
  · rw [if_pos h8]
    obtain ⟨V1, e1, h1, f1⟩ := ru64_ok h hlt h8 (by omega)
    exact ⟨V1, e1, h1, f1⟩
  · rw [if_neg h8]
    exact ⟨_, ru64_short h (by omega), Fr.bump (· = w) V 1⟩
/-- The document's reader: what is left, or an error. -/
def QS (D : Nat → Prop) (V : VS) (w : Nat) : Except Int (List Nat) → Prop
  | .ok bs => QAt D V w bs 0 ∧ (∀ x ∈ bs, x < 256) ∧ bs.length ≤ 140737488355328
  | .error e => e ≠ 0 ∧ ∃ bs, QAt D V w bs e
def after {α : Type} (σ : Except Int (List Nat)) (f : List Nat → Except Int (α × List Nat)) : Except Int (List Nat) :=
  match σ with
  | .ok bs => match f bs with | .ok p => .ok p.2 | .error e => .error e
  | .error e => .error e
theorem QS.keep {σ : Except Int (List Nat)} {V' : VS} (h : QS D V w σ) {S : Nat → Prop} (hf : Fr S V V') (hw : ¬ S w) (hD : ∀ i, D i → ¬ S i) : QS D V' w σ := by
  cases σ with
  | ok bs => exact ⟨h.1.keep hf hw hD, h.2⟩
  | error e => obtain ⟨h0, bs, h1⟩ := h; exact ⟨h0, bs, h1.keep hf hw hD⟩
theorem qnum_spec {σ : Except Int (List Nat)} (h : QS D V w σ) :
    ∃ n V', f32 [.pointer (some ⟨w, 0, none⟩), .int .i64 8] V = .ok (.int .u64 n) V' ∧ QS D V' w (after σ rd8) ∧ Fr (· = w) V V' ∧ (∀ bs m y, σ = .ok bs → rd8 bs = .ok (m, y) → n = (m : Int)) := by
  cases σ with
  | error e =>
    obtain ⟨h0, bs, h1⟩ := h
    exact ⟨0, V, q_bad h1 h0 8, ⟨h0, bs, h1⟩, Fr.refl _ _, fun _ _ _ q => by cases q⟩
  | ok bs =>
    obtain ⟨h1, hlt, hb⟩ := h
    unfold after rd8
    by_cases h8 : 8 ≤ bs.length
    · obtain ⟨V1, e1, q1, f1⟩ := q_ok h1 hlt h8 (by omega)
      simp only [if_pos h8]
      exact ⟨_, V1, e1, ⟨q1, drop256 hlt 8, by rw [List.length_drop]; omega⟩, f1, fun b m y hq hm => by cases hq; rw [if_pos h8] at hm; cases hm; rfl⟩
    · obtain ⟨V1, e1, q1, f1⟩ := q_short h1 (size := 8) (by omega)
      simp only [if_neg h8]
      exact ⟨_, V1, e1, ⟨by decide, bs, q1⟩, f1, fun b m y hq hm => by cases hq; rw [if_neg h8] at hm; cases hm⟩
theorem qbytes_spec {σ : Except Int (List Nat)} (h : QS D V w σ) :
    ∃ r V', f33 [.pointer (some ⟨w, 0, none⟩)] V = .ok r V' ∧ QS D V' w (after σ rdB) ∧ Fr (· = w) V V' ∧ (∃ x, BAt V' r x ∧ ∀ bs x' y, σ = .ok bs → rdB bs = .ok (x', y) → x' = x) ∧ (∀ i, SOwn r i → D i) ∧ ∃ a m c, r = .slice a m c := by
  cases σ with
  | error e =>
    obtain ⟨h0, bs, h1⟩ := h
    obtain ⟨V1, e1, q1, f1⟩ := qbytes_bad h1 h0
    exact ⟨_, V1, e1, ⟨h0, bs, q1⟩, f1.mono fun _ _ q => q.elim, ⟨[], .nil, fun _ _ _ q => by cases q⟩, (by rintro i ⟨o, n, c, q⟩; cases q), _, _, _, rfl⟩
  | ok bs =>
    obtain ⟨h1, hlt, hb⟩ := h
    cases hr : readB bs with
    | none =>
      have ha : after (.ok bs) rdB = .error 4 := by simp [after, rdB, hr]
      rw [ha]
      obtain ⟨V1, bs', e1, q1, f1⟩ := qbytes_short h1 hlt hb hr
      exact ⟨_, V1, e1, ⟨by decide, bs', q1⟩, f1, ⟨[], .nil, fun _ _ _ q hq => by cases q; have := rdB_inv hq; rw [hr] at this; cases this⟩, (by rintro i ⟨o, n, c, q⟩; cases q), _, _, _, rfl⟩
    | some p =>
      obtain ⟨x, y⟩ := p
      obtain ⟨r, V1, e1, b1, q1, f1, o1, s1⟩ := qbytes_ok h1 hlt hb hr
      have hsub := readB_sub hr
      have ha : after (.ok bs) rdB = .ok y := by simp [after, rdB, hr]
      rw [ha]
      exact ⟨r, V1, e1, ⟨q1, fun z hz => hlt z (hsub.2.1 z hz), by omega⟩, f1, ⟨x, b1, fun _ _ _ q hq => by cases q; have := rdB_inv hq; rw [hr] at this; cases this; rfl⟩, o1, s1⟩
theorem qtext_spec {σ : Except Int (List Nat)} (h : QS D V w σ) (hU : UAt V tf ta) (hw : 2 ≤ w) :
    ∃ s V', f31 [.pointer (some ⟨w, 0, none⟩)] V = .ok (.string s) V' ∧ QS D V' w (after σ (rdT tf ta)) ∧ Fr (· = w) V V' ∧ (∀ bs x y, σ = .ok bs → rdT tf ta bs = .ok (x, y) → s = ba x) := by
  have hk : f31 [.pointer (some ⟨w, 0, none⟩)] V = k31 (.pointer (some ⟨w, 0, none⟩)) V := rfl
  rw [hk]
  obtain ⟨r, V1, e1, q1, f1, ⟨x, b1, hx⟩, o1, s1⟩ := qbytes_spec h
  have hU1 : UAt V1 tf ta := hU.keep f1 (by omega) (by omega)
  -- behind an error
  have bad : ∀ e, after σ rdB = .error e → (∀ bs x y, σ = .ok bs → rdT tf ta bs ≠ .ok (x, y)) → after σ (rdT tf ta) = .error e → ∃ s V', k31 (.pointer (some ⟨w, 0, none⟩)) V = .ok (.string s) V' ∧ QS D V' w (after σ (rdT tf ta)) ∧ Fr (· = w) V V' ∧ (∀ bs x y, σ = .ok bs → rdT tf ta bs = .ok (x, y) → s = ba x) := by
    intro e he hno he2
    rw [he] at q1
    obtain ⟨h0, bs', q2⟩ := q1
    obtain ⟨s, ty, m1, m2, m3, m4⟩ := q2.ex
    refine ⟨ba x, ⟨V1.next + 1, V1.tree⟩, ?_, ?_, f1.trans (Fr.bump (· = w) V1 1) fun _ _ q => q, fun bs x y h1 h2 => absurd h2 (hno bs x y h1)⟩
    · unfold k31 b31
      rw [bind_ok e1, s_nil, s_off, ld1_run (v := .int .i64 e) m1 rfl, s_eql, dfalse h0]
      simp only [↓s_gtf, ↓s_pickf, ↓s_condf, ↓s_pure, ↓s_norm]
      rw [s_bump, cvS (b1.keep (Fr.bump (fun _ => False) V1 1) fun _ _ q => q)]
      rfl
    · rw [he2]; exact ⟨h0, bs', q2.keep (Fr.bump (fun _ => False) V1 1) (fun q => q) fun _ _ q => q⟩
  cases σ with
  | error e => exact bad e rfl (fun _ _ _ q => by cases q) rfl
  | ok bs =>
    obtain ⟨h1, hlt, hb⟩ := h
    cases hr : readB bs with
    | none => exact bad 4 (by simp [after, rdB, hr]) (fun bs' x y hq h2 => by cases hq; simp [rdT, hr] at h2) (by simp [after, rdT, hr])
    | some p =>
      obtain ⟨x', y⟩ := p
      have hxx : x' = x := hx bs x' y rfl (by simp [rdB, hr])
      subst hxx
      have haf : after (.ok bs) rdB = .ok y := by simp [after, rdB, hr]
      rw [haf] at q1
      obtain ⟨q2, hlt2, hb2⟩ := q1
      obtain ⟨s, ty, m1, m2, m3, m4⟩ := q2.ex
      have hsub := readB_sub hr
      obtain ⟨V2, e2, f2⟩ := valid_spec b1 (fun b hb => hlt b (hsub.1 b hb)) (by omega) hU1
      have m1' : V2.mem w = some (.cells true [s, .int .i64 0] ty) := by rw [f2.mem w q2.lt fun q => q]; exact m1
      have f12 := f1.trans (f2.mono (S' := (· = w)) fun _ _ q => q.elim) fun _ _ q => q
      have b2 := b1.keep f2 fun _ _ q => q
      unfold k31 b31
      rw [bind_ok e1, s_nil, s_off, ld1_run (v := .int .i64 0) m1 rfl, s_eql, dtrue rfl]
      simp only [↓s_gtt, ↓s_pure]
      rw [bind_ok e2, s_not, s_pickt]
      cases hv : vutf tf ta x' with
      | true =>
        refine ⟨ba x', ⟨V2.next + 1, V2.tree⟩, ?_, ?_, f12.trans (Fr.bump (· = w) V2 1) fun _ _ q => q, fun bs' x y hq h2 => by cases hq; have := (rdT_inv h2).1; rw [hr] at this; cases this; rfl⟩
        · rw [Bool.not_true, s_condf, s_pure, s_norm, s_bump, cvS (b2.keep (Fr.bump (fun _ => False) V2 1) fun _ _ q => q)]
          rfl
        · have : after (.ok bs) (rdT tf ta) = .ok y := by simp [after, rdT, hr, hv]
          rw [this]
          exact ⟨(q2.keep f2 (fun q => q) fun _ _ q => q).keep (Fr.bump (fun _ => False) V2 1) (fun q => q) fun _ _ q => q, hlt2, hb2⟩
      | false =>
        have hf3 : Fr (· = w) V2 (V2.set w (.cells true ([s, .int .i64 0].set 1 (.int .i64 6)) ty)) := Fr.set fun _ => rfl
        have nw : ∀ i, SOwn r i → ¬ i = w := fun i hi q => q2.apart (q ▸ o1 i hi)
        have b3 := b2.keep hf3 nw
        refine ⟨ba x', ⟨V2.next + 1, (V2.set w (.cells true ([s, .int .i64 0].set 1 (.int .i64 6)) ty)).tree⟩, ?_, ?_, (f12.trans hf3 fun _ _ q => q).trans (Fr.bump (· = w) _ 1) fun _ _ q => q, fun bs' x y hq h2 => by cases hq; obtain ⟨h3, h4⟩ := rdT_inv h2; rw [hr] at h3; cases h3; exact absurd (hv.symm.trans h4) (by decide)⟩
        · rw [Bool.not_false, s_condt, s_assoc, s_nil, s_assoc, s_off, s_assoc, st1_run m1' (by simp) rfl, s_pure, s_norm, s_bump, cvS (b3.keep (Fr.bump (fun _ => False) _ 1) fun _ _ q => q)]
          rfl
        · have : after (.ok bs) (rdT tf ta) = .error 6 := by simp [after, rdT, hr, hv]
          rw [this]
          refine ⟨by decide, y, ?_⟩
          have hq3 : QAt D (V2.set w (.cells true ([s, .int .i64 0].set 1 (.int .i64 6)) ty)) w y 6 :=
            ⟨Nat.lt_of_lt_of_le q2.lt f2.next, ⟨s, ty, VS.set_same _ _ _, (m2.keep f2 fun _ _ q => q).keep hf3 fun i hi q => q2.apart (q ▸ m3 i hi), m3, m4⟩, q2.apart⟩
          exact hq3.keep (Fr.bump (fun _ => False) _ 1) (fun q => q) fun _ _ q => q
end
end Go.Vm.Tryd
end
section
set_option linter.unusedVariables false
set_option linter.unusedSimpArgs false
set_option maxRecDepth 100000
set_option maxHeartbeats 1000000
namespace Go.Vm.Tryd
open Go Go.Vm

/-- An entry read, and what is left. -/
def rdE4 (tf ta bs : List Nat) : Except Int (List Nat × Nat × List Nat × List Nat × List Nat) :=
  match rdT tf ta bs with
  | .error e => .error e
  | .ok (n, r1) => match rd8 r1 with
    | .error e => .error e
    | .ok (q, r2) => match rdT tf ta r2 with
      | .error e => .error e
      | .ok (k, r3) => match rdB r3 with
        | .error e => .error e
        | .ok (d, r4) => .ok (n, q, k, d, r4)
structure EntR where
  code : Int
  n : List Nat
  q : Nat
  k : List Nat
  d : List Nat
def badE (e : Int) : EntR := ⟨e, [], 0, [], []⟩
def rdE (tf ta bs : List Nat) : EntR :=
  match rdE4 tf ta bs with
  | .error e => badE e
  | .ok (n, q, k, d, r4) => if r4 = [] then ⟨0, n, q, k, d⟩ else badE 5
theorem rd8_inv {bs y : List Nat} {n : Nat} (h : rd8 bs = .ok (n, y)) : y = bs.drop 8 ∧ 8 ≤ bs.length ∧ n = val (bs.take 8) := by
  unfold rd8 at h
  split at h
  · rename_i h8; cases h; exact ⟨rfl, h8, rfl⟩
  · cases h

section
variable {tf ta : List Nat} {D : Nat → Prop} {V : VS} {w : Nat} {bs : List Nat}
theorem mkEnt (a b c d : Value) (ha : one a = true) (hb : one b = true) (hc : one c = true) (hd : one d = true) {β : Type} (f : Value → M β) :
    M.bind (mkAgg [.string ⟨#[]⟩, .int .u64 0, .string ⟨#[]⟩, .slice none 0 0] [(0, 1, a), (1, 1, b), (2, 1, c), (3, 1, d)]) f = f (.agg #[a, b, c, d]) := by
  have hcell : ∀ v : Value, one v = true → v.cells.toList = [v] := by
    intro v hv
    cases v <;> first | rfl | cases hv
  have : mkAgg [.string ⟨#[]⟩, .int .u64 0, .string ⟨#[]⟩, .slice none 0 0] [(0, 1, a), (1, 1, b), (2, 1, c), (3, 1, d)] = M.pure (.agg #[a, b, c, d]) := by
    unfold mkAgg fillL
    simp only [hcell a ha, hcell b hb, hcell c hc, hcell d hd, fillL, splice]
    rfl
  rw [this, s_pure]
theorem all4 {a b : ByteArray} {k : IntKind} {n : Int} {d : Value} (h : one d = true) : ([.string a, .int k n, .string b, d] : List Value).all one = true := by
  simp only [List.all_cons, List.all_nil, h]; rfl
theorem pick1_spec (h : RAt D V w bs) (hlt : ∀ x ∈ bs, x < 256) (hb : bs.length ≤ 140737488355328) (hU : UAt V tf ta) (hw : 2 ≤ w) {c : Nat} (hc : c < V.next) (hcw : c ≠ w) (hcD : ¬ D c) {cs : List Value} {ty : TypeId} (hm : V.mem c = some (.cells true cs ty)) (hcs : cs.length = 4) :
    match rdE4 tf ta bs with
    | .error e => ∃ V', f27 [.pointer (some ⟨w, 0, none⟩), .pointer (some ⟨c, 0, none⟩)] V = .panic (thrown e) V' ∧ Fr (· = w) V V'
    | .ok (n, q, k, d, r4) => ∃ V' dv, f27 [.pointer (some ⟨w, 0, none⟩), .pointer (some ⟨c, 0, none⟩)] V = .ok (.tuple #[]) V' ∧ V'.mem c = some (.cells true [.string (ba n), .int .u64 (q : Int), .string (ba k), dv] ty) ∧
        BAt V' dv d ∧ (∀ i, SOwn dv i → V.next ≤ i) ∧ (∃ a m c, dv = .slice a m c) ∧ RAt D V' w r4 ∧ Fr (fun i => i = w ∨ i = c) V V' := by
  have hk : f27 [.pointer (some ⟨w, 0, none⟩), .pointer (some ⟨c, 0, none⟩)] V = k27 (.pointer (some ⟨w, 0, none⟩)) (.pointer (some ⟨c, 0, none⟩)) V := rfl
  rw [hk]
  unfold rdE4 k27 b27
  have t1 := rtext_spec h hlt hb hU hw
  cases h1 : rdT tf ta bs with
  | error e => rw [h1] at t1; obtain ⟨V1, e1, f1⟩ := t1; exact ⟨V1, bind_panic e1, f1⟩
  | ok p1 =>
  obtain ⟨n, r1⟩ := p1
  rw [h1] at t1
  obtain ⟨V1, e1, a1, f1⟩ := t1
  rw [bind_ok e1]
  have i1 := readB_sub (rdT_inv h1).1
  have hlt1 : ∀ x ∈ r1, x < 256 := fun x hx => hlt x (i1.2.1 x hx)
  have hU1 : UAt V1 tf ta := hU.keep f1 (by omega) (by omega)
  simp only
  have t2 := ru64_spec a1 hlt1 (by omega)
  cases h2 : rd8 r1 with
  | error e => rw [h2] at t2; obtain ⟨V2, e2, f2⟩ := t2; exact ⟨V2, bind_panic e2, f1.trans f2 fun _ _ q => q⟩
  | ok p2 =>
  obtain ⟨q, r2⟩ := p2
  rw [h2] at t2
  obtain ⟨V2, e2, a2, f2⟩ := t2
  rw [bind_ok e2]
  obtain ⟨j1, j2, j3⟩ := rd8_inv h2
  have hlt2 : ∀ x ∈ r2, x < 256 := by rw [j1]; exact drop256 hlt1 8
  have hl2 : r2.length ≤ r1.length := by rw [j1, List.length_drop]; omega
  have hU2 : UAt V2 tf ta := hU1.keep f2 (by omega) (by omega)
  have f12 := f1.trans f2 fun _ _ q => q
  simp only
  have t3 := rtext_spec a2 hlt2 (by omega) hU2 hw
  cases h3 : rdT tf ta r2 with
  | error e => rw [h3] at t3; obtain ⟨V3, e3, f3⟩ := t3; exact ⟨V3, bind_panic e3, f12.trans f3 fun _ _ q => q⟩
  | ok p3 =>
  obtain ⟨k, r3⟩ := p3
  rw [h3] at t3
  obtain ⟨V3, e3, a3, f3⟩ := t3
  rw [bind_ok e3]
  have i3 := readB_sub (rdT_inv h3).1
  have hlt3 : ∀ x ∈ r3, x < 256 := fun x hx => hlt2 x (i3.2.1 x hx)
  have f13 := f12.trans f3 fun _ _ q => q
  simp only
  cases h4 : readB r3 with
  | none =>
    obtain ⟨V4, e4, f4⟩ := rbytes_short a3 hlt3 (by omega) h4
    have e4' : f30 [.pointer (some ⟨w, 0, none⟩)] V3 = _ := e4
    simp only [rdB, h4]
    exact ⟨V4, bind_panic e4', f13.trans f4 fun _ _ q => q⟩
  | some p4 =>
  obtain ⟨d, r4⟩ := p4
  obtain ⟨dv, V4, e4, b4, a4, f4, o4, s4⟩ := rbytes_ok a3 hlt3 (by omega) h4
  have e4' : f30 [.pointer (some ⟨w, 0, none⟩)] V3 = _ := e4
  simp only [rdB, h4]
  have f14 := f13.trans f4 fun _ _ q => q
  have hone : one dv = true := by obtain ⟨a, m, c, rfl⟩ := s4; rfl
  have hm4 : V4.mem c = some (.cells true cs ty) := by rw [f14.mem c hc hcw]; exact hm
  rw [bind_ok e4', mkEnt _ _ _ _ rfl rfl rfl hone, stN_run (n := 4) (o := 0) (vs := #[.string (ba n), .int .u64 (q : Int), .string (ba k), dv]) hm4 rfl (by omega) (all4 hone)]
  have hsp : splice cs 0 (#[.string (ba n), .int .u64 (q : Int), .string (ba k), dv] : Array Value).toList = [.string (ba n), .int .u64 (q : Int), .string (ba k), dv] := by
    simp [splice, hcs]
  rw [hsp]
  have hf : Fr (· = c) V4 (V4.set c (.cells true [.string (ba n), .int .u64 (q : Int), .string (ba k), dv] ty)) := Fr.set fun _ => rfl
  refine ⟨_, dv, rfl, VS.set_same _ _ _, b4.keep hf fun i hi q => by have := o4 i hi; have := f13.next; omega, fun i hi => by have := o4 i hi; have := f13.next; omega, s4, a4.keep hf (fun q => hcw q.symm) fun i hi q => hcD (q ▸ hi), ?_⟩
  exact (f14.mono fun _ _ q => .inl q).trans (hf.mono (S' := fun i => i = w ∨ i = c) fun _ _ q => .inr q) fun _ _ q => q
end
theorem deferM_ok {rest ld : M Value} {clo : Value → M Value} {V V1 : VS} {a : Value} (h : rest V = .ok a V1) : deferM rest clo ld V = M.bind (noPanic (clo .nilIface)) (fun _ => ld) V1 := by unfold deferM; rw [h]
theorem deferM_panic {rest ld : M Value} {clo : Value → M Value} {V V1 : VS} {v : Value} (h : rest V = .panic v V1) : deferM rest clo ld V = M.bind (noPanic (clo v)) (fun _ => ld) V1 := by unfold deferM; rw [h]
theorem noPanic_ok {m : M Value} {V V1 : VS} {a : Value} (h : m V = .ok a V1) : noPanic m V = .ok a V1 := by unfold noPanic; rw [h]
theorem empty_ba : ba [] = ⟨#[]⟩ := rfl

theorem pick_spec {V : VS} {s : Value} {bs tf ta : List Nat} (hs : BAt V s bs) (hsl : ∃ a n c, s = .slice a n c) (hlt : ∀ x ∈ bs, x < 256) (hb : bs.length ≤ 140737488355328) (hU : UAt V tf ta) :
    ∃ dv V', f10 [s] V = .ok (.tuple #[.agg #[.string (ba (rdE tf ta bs).n), .int .u64 ((rdE tf ta bs).q : Int), .string (ba (rdE tf ta bs).k), dv], .int .i64 (rdE tf ta bs).code]) V' ∧
      BAt V' dv (rdE tf ta bs).d ∧ (∃ a n c, dv = .slice a n c) ∧ Fr (fun _ => False) V V' ∧ (∀ i, SOwn dv i → V.next ≤ i) := by
  have hk : f10 [s] V = k10 s V := rfl
  rw [hk]
  unfold k10 b10
  rw [s_bump, s_new, s_bump, s_new, s_pure]
  obtain ⟨Z, hZ⟩ : ∃ Z : List Value, Z = [.string ⟨#[]⟩, .int .u64 0, .string ⟨#[]⟩, .slice none 0 0] := ⟨_, rfl⟩
  have hZl : Z.length = 4 := by rw [hZ]; rfl
  rw [← hZ]
  have n1 : ((⟨V.next + 1, V.tree⟩ : VS).set V.next (.cells true Z 25)).next = V.next + 1 := rfl
  rw [n1]
  generalize hV2 : (⟨V.next + 1 + 1, ((⟨V.next + 1, V.tree⟩ : VS).set V.next (.cells true Z 25)).tree⟩ : VS).set (V.next + 1) (.cells true Z 25) = V2
  have n2 : V2.next = V.next + 2 := by rw [← hV2]; rfl
  have m2a : V2.mem V.next = some (.cells true Z 25) := by rw [← hV2, VS.set_other _ (by omega)]; exact VS.set_same _ _ _
  have m2b : V2.mem (V.next + 1) = some (.cells true Z 25) := by rw [← hV2]; exact VS.set_same _ _ _
  have f2 : Fr (fun _ => False) V V2 := ⟨by omega, fun i hi _ => by
    rw [← hV2, VS.set_other _ (by omega)]
    show ((⟨V.next + 1, V.tree⟩ : VS).set V.next (.cells true Z 25)).mem i = _
    rw [VS.set_other _ (by omega)]; rfl⟩
  -- the call of Read
  have read : ∃ V' , f26 [s, .func (.func 27) #[] #[.pointer (some ⟨V.next + 1, 0, none⟩)]] V2 = .ok (.int .i64 (rdE tf ta bs).code) V' ∧ Fr (· = V.next + 1) V2 V' ∧
      ((rdE tf ta bs).code = 0 → ∃ dv, V'.mem (V.next + 1) = some (.cells true [.string (ba (rdE tf ta bs).n), .int .u64 ((rdE tf ta bs).q : Int), .string (ba (rdE tf ta bs).k), dv] 25) ∧ BAt V' dv (rdE tf ta bs).d ∧ (∃ a n c, dv = .slice a n c) ∧ ∀ i, SOwn dv i → V.next + 2 ≤ i) ∧
      ((rdE tf ta bs).code ≠ 0 → rdE tf ta bs = badE (rdE tf ta bs).code) := by
    have hk : ∀ x, f26 [s, x] V2 = k26 s x V2 := fun _ => rfl
    rw [hk]
    unfold k26 b26
    rw [s_bump, s_new]
    rw [n2]
    generalize hV3 : (⟨V.next + 2 + 1, V2.tree⟩ : VS).set (V.next + 2) (.cells true [.int .i64 0] 27) = V3
    have n3 : V3.next = V.next + 3 := by rw [← hV3]; rfl
    have f3 : Fr (fun _ => False) V2 V3 := ⟨by omega, fun i hi _ => by rw [← hV3, VS.set_other _ (by omega)]; rfl⟩
    have m3 : V3.mem (V.next + 2) = some (.cells true [.int .i64 0] 27) := by rw [← hV3]; exact VS.set_same _ _ _
    obtain ⟨a0, l0, c0, rfl⟩ := hsl
    have hagg : ∀ {β : Type} (f : Value → M β), M.bind (mkAgg [.slice none 0 0] [(0, 1, .slice a0 l0 c0)]) f = f (.agg #[.slice a0 l0 c0]) := fun f => rfl
    have hcall : ∀ x, callV (T26 f27 f44 f56) (.func (.func 27) #[] #[.pointer (some ⟨V.next + 1, 0, none⟩)]) [x] = f27 [x, .pointer (some ⟨V.next + 1, 0, none⟩)] := fun x => rfl
    generalize hV4 : (⟨V3.next + 1, V3.tree⟩ : VS).set V3.next (.cells true [.slice a0 l0 c0] 132) = V4
    have n4 : V4.next = V.next + 4 := by rw [← hV4]; show V3.next + 1 = _; omega
    have m4 : V4.mem (V.next + 3) = some (.cells true [.slice a0 l0 c0] 132) := by rw [← hV4, n3]; exact VS.set_same _ _ _
    have f4 : Fr (fun _ => False) V3 V4 := ⟨by omega, fun i hi _ => by rw [← hV4, VS.set_other _ (by omega)]; rfl⟩
    have f24 := f3.trans f4 fun _ _ q => q
    have hs4 := (hs.keep f2 fun _ _ q => q).keep f24 fun _ _ q => q
    have hU4 := (hU.keep f2 (fun q => q) fun q => q).keep f24 (fun q => q) fun q => q
    have hown : ∀ i, SOwn (.slice a0 l0 c0) i → i < V.next := fun i hi => hs.own_lt hi
    have hR : RAt (SOwn (.slice a0 l0 c0)) V4 (V.next + 3) bs := ⟨by omega, ⟨_, 132, m4, hs4, fun i hi => hi, _, _, _, rfl⟩, fun q => by have := hown _ q; omega⟩
    have m4c : V4.mem (V.next + 1) = some (.cells true Z 25) := by rw [f24.mem _ (by omega) fun q => q]; exact m2b
    have m4e : V4.mem (V.next + 2) = some (.cells true [.int .i64 0] 27) := by rw [f4.mem _ (by omega) fun q => q]; exact m3
    have h1n := hU.next
    have p1 := pick1_spec hR hlt hb hU4 (by omega) (c := V.next + 1) (by omega) (by omega) (fun q => by have := hown _ q; omega) m4c hZl
    -- behind a throw
    have thr : ∀ {W : VS} {code : Int}, W.mem (V.next + 2) = some (.cells true [.int .i64 0] 27) → V.next + 4 ≤ W.next → ∃ W', (M.bind (isNilI false (thrown code)) fun t6_15 =>
    M.bind (condM t6_15 (
    M.pure (J.norm [])) (
    M.bind (assertOk 131 (.agg #[.int .i64 0]) (thrown code)) fun t7_16 =>
    M.bind (extr 1 t7_16) fun t8_17 =>
    M.bind (extr 0 t7_16) fun t9_18 =>
    condM t8_17 (
    M.bind (bump 1) fun b_19 =>
    M.bind (newCells b_19 [.int .i64 0] 131) fun t2_20 =>
    M.bind (stN 1 t2_20 t9_18) fun tu_21 =>
    M.bind (addOff 0 t2_20) fun t10_22 =>
    M.bind (ld1 t10_22) fun t11_23 =>
    M.bind (st1 (.pointer (some ⟨V.next + 2, 0, none⟩)) t11_23) fun tu_24 =>
    M.pure (.norm [])) (
    M.bind (throwV (thrown code)) fun tu_25 =>
    M.pure (.norm [])))) (onJ (fun vs_26 =>
    M.pure undefV) (fun _ _ => M.stuck) (fun _ => M.stuck))) W = .ok undefV W' ∧ W'.mem (V.next + 2) = some (.cells true [.int .i64 code] 27) ∧ Fr (· = V.next + 2) W W' := by
      intro W code hW hn
      have e1 : ∀ {β : Type} (f : Value → M β), M.bind (isNilI false (thrown code)) f = f (.bool false) := fun f => rfl
      have e2 : ∀ {β : Type} (f : Value → M β), M.bind (assertOk 131 (.agg #[.int .i64 0]) (thrown code)) f = f (.tuple #[.agg #[.int .i64 code], .bool true]) := fun f => rfl
      rw [e1, s_condf, s_assoc, e2, s_assoc, s_extr1, s_assoc, s_extr0, s_condt, s_assoc, s_bump, s_assoc, s_new, s_assoc, stN_run (n := 1) (o := 0) (vs := #[.int .i64 code]) (VS.set_same _ _ _) rfl (by simp) rfl]
      have hs1 : splice [Value.int .i64 0] 0 (#[.int .i64 code] : Array Value).toList = [.int .i64 code] := rfl
      rw [hs1]
      generalize hW2 : (((⟨W.next + 1, W.tree⟩ : VS).set W.next (.cells true [.int .i64 0] 131)).set W.next (.cells true [.int .i64 code] 131)) = W2
      have k1 : W2.mem W.next = some (.cells true [.int .i64 code] 131) := by rw [← hW2]; exact VS.set_same _ _ _
      have k2 : Fr (fun _ => False) W W2 := by rw [← hW2]; exact ⟨by show W.next ≤ W.next + 1; omega, fun i hi _ => by rw [VS.set_other _ (by omega), VS.set_other _ (by omega)]; rfl⟩
      have k3 : W2.mem (V.next + 2) = some (.cells true [.int .i64 0] 27) := by rw [k2.mem _ (by omega) fun q => q]; exact hW
      rw [s_assoc, s_off, s_assoc, ld1_run (v := .int .i64 code) k1 rfl, s_assoc, st1_run k3 (by simp) rfl, s_pure, s_norm]
      exact ⟨_, rfl, VS.set_same _ _ _, (k2.mono (S' := (· = V.next + 2)) fun _ _ q => q.elim).trans (Fr.set (S := (· = V.next + 2)) fun _ => rfl) fun _ _ q => q⟩
    unfold rdE
    cases h4 : rdE4 tf ta bs with
    | error e =>
      rw [h4] at p1
      obtain ⟨V5, e5, f5⟩ := p1
      have m5 : V5.mem (V.next + 2) = some (.cells true [.int .i64 0] 27) := by rw [f5.mem _ (by omega) (by omega)]; exact m4e
      obtain ⟨V6, e6, k6, f6⟩ := thr (code := e) m5 (by have := f5.next; omega)
      have f26 : Fr (· = V.next + 1) V2 V6 := ⟨by have := f24.next; have := f5.next; have := f6.next; omega, fun i hi hn => by
        rw [f6.mem i (by have := f5.next; omega) (by omega), f5.mem i (by omega) (by omega), f24.mem i hi fun q => q]⟩
      refine ⟨V6, ?_, f26, fun q => ?_, fun _ => rfl⟩
      · refine (deferM_panic (v := thrown e) (V1 := V5) ?_).trans ?_
        · rw [s_bump, hagg, n3, s_new]
          show M.bind (callV _ _ _) _ ((⟨V.next + 3 + 1, V3.tree⟩ : VS).set (V.next + 3) (.cells true [.slice a0 l0 c0] 132)) = _
          rw [n3] at hV4
          rw [hV4, hcall]
          exact bind_panic e5
        · rw [bind_ok (noPanic_ok e6)]
          exact ld1_at k6 rfl
      · exfalso
        have : e ≠ 0 := by
          intro q; subst q
          unfold rdE4 at h4
          have hT : ∀ b, rdT tf ta b ≠ .error 0 := by
            intro b hb; unfold rdT at hb; split at hb
            · split at hb <;> simp at hb
            · simp at hb
          have h8 : ∀ b, rd8 b ≠ .error 0 := by intro b hb; unfold rd8 at hb; split at hb <;> simp at hb
          have hB : ∀ b, rdB b ≠ .error 0 := by intro b hb; unfold rdB at hb; split at hb <;> simp at hb
          split at h4
          · rename_i e' he; cases h4; exact hT _ he
          · split at h4
            · rename_i e' he; cases h4; exact h8 _ he
            · split at h4
              · rename_i e' he; cases h4; exact hT _ he
              · split at h4
                · rename_i e' he; cases h4; exact hB _ he
                · cases h4
        exact this q
    | ok p =>
      obtain ⟨n, q, k, d, r4⟩ := p
      rw [h4] at p1
      obtain ⟨V5, dv, e5, k5, b5, o5, s5, a5, f5⟩ := p1
      obtain ⟨s6, ty6, j1, j2, j3, am, ml, cm, rfl⟩ := a5.ex
      have hml : ml = r4.length := j2.cells.2
      subst hml
      have m5 : V5.mem (V.next + 2) = some (.cells true [.int .i64 0] 27) := by rw [f5.mem _ (by omega) (by omega)]; exact m4e
      have n5 := f5.next
      have tail : ∀ code : Int, Fr (· = V.next + 1) V2 (V5.set (V.next + 2) (.cells true [.int .i64 code] 27)) := fun code => ⟨by show V2.next ≤ V5.next; omega, fun i hi hn => by
        rw [VS.set_other _ (by omega), f5.mem i (by omega) (by omega), f24.mem i hi fun q => q]⟩
      have run : ∀ code : Int, (if r4 = [] then (0 : Int) else 5) = code → deferM (
    M.bind (bump 1) fun b_3 =>
    M.bind (mkAgg [.slice none 0 0] [(0, 1, .slice a0 l0 c0)]) fun t8_4 =>
    M.bind (newCells b_3 (Value.cells t8_4).toList 132) fun t9_5 =>
    M.bind (callV (T26 f27 f44 f56) (.func (.func 27) #[] #[.pointer (some ⟨V.next + 1, 0, none⟩)]) [t9_5]) fun t12_6 =>
    M.bind (nilChk t9_5) fun t14_7 =>
    M.bind (addOff 0 t14_7) fun t15_8 =>
    M.bind (ld1 t15_8) fun t16_9 =>
    M.bind (lenSl t16_9) fun t17_10 =>
    M.bind (bin (.cell .int) .gtr t17_10 (Go.Value.int Go.IntKind.i64 0)) fun t18_11 =>
    condM t18_11 (
    M.bind (st1 (.pointer (some ⟨V.next + 2, 0, none⟩)) (Go.Value.int Go.IntKind.i64 5)) fun tu_12 =>
    M.pure undefV) (
    M.bind (st1 (.pointer (some ⟨V.next + 2, 0, none⟩)) (Go.Value.int Go.IntKind.i64 0)) fun tu_13 =>
    M.pure undefV)) (fun rv_14 =>
    M.bind (isNilI false rv_14) fun t6_15 =>
    M.bind (condM t6_15 (
    M.pure (.norm [])) (
    M.bind (assertOk 131 (.agg #[.int .i64 0]) rv_14) fun t7_16 =>
    M.bind (extr 1 t7_16) fun t8_17 =>
    M.bind (extr 0 t7_16) fun t9_18 =>
    condM t8_17 (
    M.bind (bump 1) fun b_19 =>
    M.bind (newCells b_19 [.int .i64 0] 131) fun t2_20 =>
    M.bind (stN 1 t2_20 t9_18) fun tu_21 =>
    M.bind (addOff 0 t2_20) fun t10_22 =>
    M.bind (ld1 t10_22) fun t11_23 =>
    M.bind (st1 (.pointer (some ⟨V.next + 2, 0, none⟩)) t11_23) fun tu_24 =>
    M.pure (.norm [])) (
    M.bind (throwV rv_14) fun tu_25 =>
    M.pure (.norm [])))) (onJ (fun vs_26 =>
    M.pure undefV) (fun _ _ => M.stuck) (fun _ => M.stuck))) (ld1 (.pointer (some ⟨V.next + 2, 0, none⟩))) V3 = .ok (.int .i64 code) (V5.set (V.next + 2) (.cells true [.int .i64 code] 27)) := by
        intro code hcode
        refine (deferM_ok (a := undefV) (V1 := V5.set (V.next + 2) (.cells true [.int .i64 code] 27)) ?_).trans ?_
        · rw [s_bump, hagg, n3, s_new]
          show M.bind (callV _ _ _) _ ((⟨V.next + 3 + 1, V3.tree⟩ : VS).set (V.next + 3) (.cells true [.slice a0 l0 c0] 132)) = _
          rw [n3] at hV4
          rw [hV4, hcall, bind_ok e5, s_nil, s_off, ld1_run (v := .slice am r4.length cm) j1 rfl, s_lenSl, s_gtr]
          by_cases h0 : r4 = []
          · subst h0
            rw [dfalse (by simp), s_condf, st1_run m5 (by simp) rfl, ← hcode, if_pos rfl]
            rfl
          · rw [dtrue (p := ((r4.length : Nat) : Int) > 0) (by have := List.length_pos_iff.2 h0; omega), s_condt, st1_run m5 (by simp) rfl, ← hcode, if_neg h0]
            rfl
        · have hnil : (noPanic (M.pure undefV)) (V5.set (V.next + 2) (.cells true [.int .i64 code] 27)) = .ok undefV (V5.set (V.next + 2) (.cells true [.int .i64 code] 27)) := rfl
          refine (bind_ok (V1 := V5.set (V.next + 2) (.cells true [.int .i64 code] 27)) (a := undefV) ?_).trans ?_
          · exact noPanic_ok rfl
          · exact ld1_at (VS.set_same _ _ _) rfl
      by_cases h0 : r4 = []
      · simp only [if_pos h0]
        refine ⟨_, run 0 (if_pos h0), tail 0, fun _ => ⟨dv, ?_, ?_, s5, fun i hi => by have := o5 i hi; omega⟩, fun q => absurd rfl q⟩
        · rw [VS.set_other _ (by omega)]; exact k5
        · exact b5.keep (Fr.set (S := (· = V.next + 2)) fun _ => rfl) fun i hi q => by have := o5 i hi; omega
      · simp only [if_neg h0]
        exact ⟨_, run 5 (if_neg h0), tail 5, (fun q => absurd q (by decide)), fun _ => rfl⟩
  obtain ⟨V5, e5, f5, ok5, bad5⟩ := read
  rw [bind_ok e5]
  generalize hX : rdE tf ta bs = X at ok5 bad5
  have m5a : V5.mem V.next = some (.cells true Z 25) := by rw [f5.mem _ (by omega) (by omega)]; exact m2a
  have frV : ∀ cs, Fr (fun _ => False) V (V5.set V.next (.cells true cs 25)) := fun cs => ⟨by show V.next ≤ V5.next; have := f5.next; omega, fun i hi _ => by
    rw [VS.set_other _ (by omega), f5.mem i (by omega) (by omega), f2.mem i hi fun q => q]⟩
  rw [s_neq]
  by_cases hc : X.code = 0
  · rw [dfalse (by simp [hc]), s_condf]
    obtain ⟨dv, k1, k2, k3, k4⟩ := ok5 hc
    have hone : one dv = true := by obtain ⟨a, m, c, rfl⟩ := k3; rfl
    rw [ldN_run k1 (by simp)]
    rw [show (List.take 4 (List.drop 0 [Value.string (ba X.n), .int .u64 (X.q : Int), .string (ba X.k), dv])).toArray = #[Value.string (ba X.n), .int .u64 (X.q : Int), .string (ba X.k), dv] from rfl]
    rw [stN_run (n := 4) (o := 0) (vs := #[Value.string (ba X.n), .int .u64 (X.q : Int), .string (ba X.k), dv]) m5a rfl (by omega) (all4 hone)]
    rw [show splice Z 0 (#[Value.string (ba X.n), .int .u64 (X.q : Int), .string (ba X.k), dv] : Array Value).toList = [.string (ba X.n), .int .u64 (X.q : Int), .string (ba X.k), dv] by simp [splice, hZl]]
    rw [ldN_run (VS.set_same _ _ _) (by simp)]
    refine ⟨dv, _, by rw [hc]; rfl, k2.keep (Fr.set (S := (· = V.next)) fun _ => rfl) fun i hi q => by have := k4 i hi; omega, k3, frV _, fun i hi => by have := k4 i hi; omega⟩
  · rw [dtrue hc, s_condt]
    have hagg : ∀ {β : Type} (f : Value → M β), M.bind (mkAgg [.string ⟨#[]⟩, .int .u64 0, .string ⟨#[]⟩, .slice none 0 0] []) f = f (.agg #[.string ⟨#[]⟩, .int .u64 0, .string ⟨#[]⟩, .slice none 0 0]) := fun f => rfl
    rw [hZ] at m5a ⊢
    rw [hagg, stN_run (n := 4) (o := 0) (vs := #[.string ⟨#[]⟩, .int .u64 0, .string ⟨#[]⟩, .slice none 0 0]) m5a rfl (by simp) rfl]
    rw [show splice [Value.string ⟨#[]⟩, .int .u64 0, .string ⟨#[]⟩, .slice none 0 0] 0 (#[.string ⟨#[]⟩, .int .u64 0, .string ⟨#[]⟩, .slice none 0 0] : Array Value).toList = [Value.string ⟨#[]⟩, .int .u64 0, .string ⟨#[]⟩, .slice none 0 0] from rfl]
    rw [ldN_run (VS.set_same _ _ _) (by simp)]
    have hb := bad5 hc
    rw [hb]
    exact ⟨.slice none 0 0, _, rfl, .nil, ⟨_, _, _, rfl⟩, frV _, (by rintro i ⟨o, n, c, q⟩; cases q)⟩
end Go.Vm.Tryd
end
section
set_option linter.unusedVariables false
set_option linter.unusedSimpArgs false
set_option maxRecDepth 100000
set_option maxHeartbeats 1000000
namespace Go.Vm.Tryd
open Go Go.Vm

theorem rdE_code (tf ta bs : List Nat) : (rdE tf ta bs).code = match after (after (after (after (.ok bs) (rdT tf ta)) rd8) (rdT tf ta)) rdB with
    | .ok r => if r = [] then 0 else 5
    | .error e => e := by
  unfold rdE rdE4
  cases h1 : rdT tf ta bs with
  | error e => simp [after, h1, badE]
  | ok p1 =>
    obtain ⟨n, r1⟩ := p1
    cases h2 : rd8 r1 with
    | error e => simp [after, h1, h2, badE]
    | ok p2 =>
      obtain ⟨q, r2⟩ := p2
      cases h3 : rdT tf ta r2 with
      | error e => simp [after, h1, h2, h3, badE]
      | ok p3 =>
        obtain ⟨k, r3⟩ := p3
        cases h4 : rdB r3 with
        | error e => simp [after, h1, h2, h3, h4, badE]
        | ok p4 =>
          obtain ⟨d, r4⟩ := p4
          simp only [after, h1, h2, h3, h4]
          split <;> rfl
theorem rdE_ok {tf ta bs : List Nat} (h : (rdE tf ta bs).code = 0) : ∃ r1 r2 r3, rdT tf ta bs = .ok ((rdE tf ta bs).n, r1) ∧ rd8 r1 = .ok ((rdE tf ta bs).q, r2) ∧ rdT tf ta r2 = .ok ((rdE tf ta bs).k, r3) ∧ rdB r3 = .ok ((rdE tf ta bs).d, []) := by
  have nz : ∀ e, (badE e).code = 0 → e = 0 := fun e h => h
  have hT : ∀ b, rdT tf ta b ≠ .error 0 := by
    intro b hb; unfold rdT at hb; split at hb
    · split at hb <;> simp at hb
    · simp at hb
  have h8 : ∀ b, rd8 b ≠ .error 0 := by intro b hb; unfold rd8 at hb; split at hb <;> simp at hb
  have hB : ∀ b, rdB b ≠ .error 0 := by intro b hb; unfold rdB at hb; split at hb <;> simp at hb
  generalize hX : rdE tf ta bs = X at h
  unfold rdE rdE4 at hX
  cases h1 : rdT tf ta bs with
  | error e => rw [h1] at hX; simp only at hX; subst hX; exact absurd h1 (nz e h ▸ hT bs)
  | ok p1 =>
    obtain ⟨n, r1⟩ := p1
    rw [h1] at hX
    simp only at hX
    cases h2 : rd8 r1 with
    | error e => rw [h2] at hX; simp only at hX; subst hX; exact absurd h2 (nz e h ▸ h8 r1)
    | ok p2 =>
      obtain ⟨q, r2⟩ := p2
      rw [h2] at hX
      simp only at hX
      cases h3 : rdT tf ta r2 with
      | error e => rw [h3] at hX; simp only at hX; subst hX; exact absurd h3 (nz e h ▸ hT r2)
      | ok p3 =>
        obtain ⟨k, r3⟩ := p3
        rw [h3] at hX
        simp only at hX
        cases h4 : rdB r3 with
        | error e => rw [h4] at hX; simp only at hX; subst hX; exact absurd h4 (nz e h ▸ hB r3)
        | ok p4 =>
          obtain ⟨d, r4⟩ := p4
          rw [h4] at hX
          simp only at hX
          split at hX
          · rename_i h0; subst h0; subst hX; exact ⟨r1, r2, r3, rfl, h2, h3, h4⟩
          · subst hX; cases h
theorem rdE_bad {tf ta bs : List Nat} (h : (rdE tf ta bs).code ≠ 0) : rdE tf ta bs = badE (rdE tf ta bs).code := by
  generalize hX : rdE tf ta bs = X at h ⊢
  unfold rdE at hX
  split at hX
  · subst hX; rfl
  · split at hX
    · subst hX; exact absurd rfl h
    · subst hX; rfl
theorem mkOne (a : Value) (ha : one a = true) {β : Type} (f : Value → M β) :
    M.bind (mkAgg [.string ⟨#[]⟩, .int .u64 0, .string ⟨#[]⟩, .slice none 0 0] [(0, 1, a)]) f = f (.agg #[a, .int .u64 0, .string ⟨#[]⟩, .slice none 0 0]) := by
  have hcell : a.cells.toList = [a] := by cases a <;> first | rfl | cases ha
  have : mkAgg [.string ⟨#[]⟩, .int .u64 0, .string ⟨#[]⟩, .slice none 0 0] [(0, 1, a)] = M.pure (.agg #[a, .int .u64 0, .string ⟨#[]⟩, .slice none 0 0]) := by
    unfold mkAgg fillL
    simp only [hcell, fillL, splice]
    rfl
  rw [this, s_pure]

theorem readEntry_spec {V : VS} {s : Value} {bs tf ta : List Nat} (hs : BAt V s bs) (hsl : ∃ a n c, s = .slice a n c) (hlt : ∀ x ∈ bs, x < 256) (hb : bs.length ≤ 140737488355328) (hU : UAt V tf ta) :
    ∃ dv V', f11 [s] V = .ok (.tuple #[.agg #[.string (ba (rdE tf ta bs).n), .int .u64 ((rdE tf ta bs).q : Int), .string (ba (rdE tf ta bs).k), dv], .int .i64 (rdE tf ta bs).code]) V' ∧
      BAt V' dv (rdE tf ta bs).d ∧ (∃ a n c, dv = .slice a n c) ∧ Fr (fun _ => False) V V' ∧ (∀ i, SOwn dv i → SOwn s i) := by
  have hk : f11 [s] V = k11 s V := rfl
  rw [hk]
  unfold k11 b11
  obtain ⟨a0, l0, c0, rfl⟩ := hsl
  have hown : ∀ i, SOwn (.slice a0 l0 c0) i → i < V.next := fun i hi => hs.own_lt hi
  have hnx := hU.next
  have hagg : ∀ {β : Type} (f : Value → M β), M.bind (mkAgg [.slice none 0 0, .int .i64 0] [(0, 1, .slice a0 l0 c0)]) f = f (.agg #[.slice a0 l0 c0, .int .i64 0]) := fun f => rfl
  rw [s_bump, s_new, s_bump, hagg, s_new, s_bump]
  obtain ⟨Z, hZ⟩ : ∃ Z : List Value, Z = [.string ⟨#[]⟩, .int .u64 0, .string ⟨#[]⟩, .slice none 0 0] := ⟨_, rfl⟩
  have hZl : Z.length = 4 := by rw [hZ]; rfl
  have hcl : (Value.cells (.agg #[.slice a0 l0 c0, .int .i64 0])).toList = [.slice a0 l0 c0, .int .i64 0] := rfl
  rw [hcl]
  generalize hV1 : (⟨V.next + 1, V.tree⟩ : VS).set V.next (.cells true [.string ⟨#[]⟩, .int .u64 0, .string ⟨#[]⟩, .slice none 0 0] 25) = V1
  have n1 : V1.next = V.next + 1 := by rw [← hV1]; rfl
  have m1 : V1.mem V.next = some (.cells true Z 25) := by rw [← hV1, hZ]; exact VS.set_same _ _ _
  have f1 : Fr (fun _ => False) V V1 := ⟨by omega, fun i hi _ => by rw [← hV1, VS.set_other _ (by omega)]; rfl⟩
  rw [n1]
  generalize hV2 : (⟨V.next + 1 + 1, V1.tree⟩ : VS).set (V.next + 1) (.cells true [.slice a0 l0 c0, .int .i64 0] 80) = V2
  have n2 : V2.next = V.next + 2 := by rw [← hV2]; rfl
  have m2 : V2.mem (V.next + 1) = some (.cells true [.slice a0 l0 c0, .int .i64 0] 80) := by rw [← hV2]; exact VS.set_same _ _ _
  have f2 : Fr (fun _ => False) V1 V2 := ⟨by omega, fun i hi _ => by rw [← hV2, VS.set_other _ (by omega)]; rfl⟩
  rw [n2]
  generalize hV3 : (⟨V.next + 2 + 1, V2.tree⟩ : VS) = V3
  have n3 : V3.next = V.next + 3 := by rw [← hV3]
  have f3 : Fr (fun _ => False) V2 V3 := ⟨by omega, fun i hi _ => by rw [← hV3]; rfl⟩
  have f03 := (f1.trans f2 fun _ _ q => q).trans f3 fun _ _ q => q
  have hQ : QS (SOwn (.slice a0 l0 c0)) V3 (V.next + 1) (.ok bs) :=
    ⟨⟨by omega, ⟨_, 80, by rw [f3.mem _ (by omega) fun q => q]; exact m2, hs.keep f03 fun _ _ q => q, fun i hi => hi, _, _, _, rfl⟩, fun q => by have := hown _ q; omega⟩, hlt, hb⟩
  have hU3 := hU.keep f03 (fun q => q) fun q => q
  obtain ⟨nm, V4, e4, q4, f4, hn⟩ := qtext_spec hQ hU3 (by omega)
  have n4 := f4.next
  rw [bind_ok e4, mkOne _ rfl, s_new, stN_run (n := 4) (o := 0) (vs := #[.string nm, .int .u64 0, .string ⟨#[]⟩, .slice none 0 0]) (VS.set_same _ _ _) rfl (by simp) rfl]
  have hsp : splice [Value.string ⟨#[]⟩, .int .u64 0, .string ⟨#[]⟩, .slice none 0 0] 0 (#[.string nm, .int .u64 0, .string ⟨#[]⟩, .slice none 0 0] : Array Value).toList = [.string nm, .int .u64 0, .string ⟨#[]⟩, .slice none 0 0] := rfl
  rw [hsp]
  generalize hV5 : ((V4.set (V.next + 2) (.cells true [Value.string ⟨#[]⟩, .int .u64 0, .string ⟨#[]⟩, .slice none 0 0] 25)).set (V.next + 2) (.cells true [.string nm, .int .u64 0, .string ⟨#[]⟩, .slice none 0 0] 25)) = V5
  have n5 : V5.next = V4.next := by rw [← hV5]; rfl
  have m5 : V5.mem (V.next + 2) = some (.cells true [.string nm, .int .u64 0, .string ⟨#[]⟩, .slice none 0 0] 25) := by rw [← hV5]; exact VS.set_same _ _ _
  have f5 : Fr (· = V.next + 2) V4 V5 := ⟨by omega, fun i hi hn => by rw [← hV5, VS.set_other _ hn, VS.set_other _ hn]⟩
  have notD : ∀ i, SOwn (.slice a0 l0 c0) i → ¬ i = V.next + 2 := fun i hi q => by have := hown i hi; omega
  have q5 := q4.keep f5 (by omega) notD
  have hU5 := (hU3.keep f4 (by omega) (by omega)).keep f5 (by omega) (by omega)
  obtain ⟨num, V6, e6, q6, f6, hnum⟩ := qnum_spec q5
  have m6 : V6.mem (V.next + 2) = some (.cells true [.string nm, .int .u64 0, .string ⟨#[]⟩, .slice none 0 0] 25) := by rw [f6.mem _ (by omega) (by omega)]; exact m5
  have n6 := f6.next
  rw [bind_ok e6, s_off, st1_run m6 (by simp) rfl]
  generalize hV7 : V6.set (V.next + 2) (.cells true ([Value.string nm, .int .u64 0, .string ⟨#[]⟩, .slice none 0 0].set (0 + 1) (.int .u64 num)) 25) = V7
  have n7 : V7.next = V6.next := by rw [← hV7]; rfl
  have m7 : V7.mem (V.next + 2) = some (.cells true [.string nm, .int .u64 num, .string ⟨#[]⟩, .slice none 0 0] 25) := by rw [← hV7]; exact VS.set_same _ _ _
  have f7 : Fr (· = V.next + 2) V6 V7 := by rw [← hV7]; exact Fr.set fun _ => rfl
  have q7 := q6.keep f7 (by omega) notD
  have hU7 := (hU5.keep f6 (by omega) (by omega)).keep f7 (by omega) (by omega)
  obtain ⟨ky, V8, e8, q8, f8, hky⟩ := qtext_spec q7 hU7 (by omega)
  have n8 := f8.next
  have m8 : V8.mem (V.next + 2) = some (.cells true [.string nm, .int .u64 num, .string ⟨#[]⟩, .slice none 0 0] 25) := by rw [f8.mem _ (by omega) (by omega)]; exact m7
  rw [bind_ok e8, s_off, st1_run m8 (by simp) rfl]
  generalize hV9 : V8.set (V.next + 2) (.cells true ([Value.string nm, .int .u64 num, .string ⟨#[]⟩, .slice none 0 0].set (0 + 2) (.string ky)) 25) = V9
  have n9 : V9.next = V8.next := by rw [← hV9]; rfl
  have m9 : V9.mem (V.next + 2) = some (.cells true [.string nm, .int .u64 num, .string ky, .slice none 0 0] 25) := by rw [← hV9]; exact VS.set_same _ _ _
  have f9 : Fr (· = V.next + 2) V8 V9 := by rw [← hV9]; exact Fr.set fun _ => rfl
  have q9 := q8.keep f9 (by omega) notD
  obtain ⟨dv, VA, eA, qA, fA, ⟨dx, bA, hdx⟩, oA, sA⟩ := qbytes_spec q9
  have nA := fA.next
  have mA : VA.mem (V.next + 2) = some (.cells true [.string nm, .int .u64 num, .string ky, .slice none 0 0] 25) := by rw [fA.mem _ (by omega) (by omega)]; exact m9
  have hone : one dv = true := by obtain ⟨a, m, c, rfl⟩ := sA; rfl
  rw [bind_ok eA, s_off, st1_run mA (by simp) hone]
  generalize hVB : VA.set (V.next + 2) (.cells true ([Value.string nm, .int .u64 num, .string ky, .slice none 0 0].set (0 + 3) dv) 25) = VB
  have nB : VB.next = VA.next := by rw [← hVB]; rfl
  have mB : VB.mem (V.next + 2) = some (.cells true [.string nm, .int .u64 num, .string ky, dv] 25) := by rw [← hVB]; exact VS.set_same _ _ _
  have fB : Fr (· = V.next + 2) VA VB := by rw [← hVB]; exact Fr.set fun _ => rfl
  have qB := qA.keep fB (by omega) notD
  have bB := bA.keep fB fun i hi => notD i (oA i hi)
  have hcode := rdE_code tf ta bs
  generalize hσ : after (after (after (after (.ok bs) (rdT tf ta)) rd8) (rdT tf ta)) rdB = σ at qB hcode
  -- End
  have hend : ∃ VC, f34 [.pointer (some ⟨V.next + 1, 0, none⟩)] VB = .ok (.int .i64 (rdE tf ta bs).code) VC ∧ Fr (· = V.next + 1) VB VC := by
    cases σ with
    | error e => obtain ⟨h0, bs', h1⟩ := qB; rw [hcode]; exact ⟨VB, qend_bad h1 h0, Fr.refl _ _⟩
    | ok r =>
      obtain ⟨VC, e, f⟩ := qend_ok qB.1
      rw [hcode]
      exact ⟨VC, e, f⟩
  obtain ⟨VC, eC, fC⟩ := hend
  have nC := fC.next
  have fAll : Fr (fun i => i = V.next + 1 ∨ i = V.next + 2) V3 VC := by
    refine ⟨by omega, fun i hi hn => ?_⟩
    have h1 : i ≠ V.next + 1 := fun q => hn (.inl q)
    have h2 : i ≠ V.next + 2 := fun q => hn (.inr q)
    rw [fC.mem i (by omega) h1, fB.mem i (by omega) h2, fA.mem i (by omega) h1, f9.mem i (by omega) h2, f8.mem i (by omega) h1, f7.mem i (by omega) h2, f6.mem i (by omega) h1, f5.mem i (by omega) h2, f4.mem i hi h1]
  have mC : VC.mem (V.next + 2) = some (.cells true [.string nm, .int .u64 num, .string ky, dv] 25) := by rw [fC.mem _ (by omega) (by omega)]; exact mB
  have mC0 : VC.mem V.next = some (.cells true Z 25) := by
    rw [fAll.mem _ (by omega) (by omega), f3.mem _ (by omega) fun q => q, f2.mem _ (by omega) fun q => q]; exact m1
  have frV : ∀ cs, Fr (fun _ => False) V (VC.set V.next (.cells true cs 25)) := fun cs => ⟨by show V.next ≤ VC.next; omega, fun i hi _ => by
    rw [VS.set_other _ (by omega), fAll.mem i (by omega) (by omega), f03.mem i hi fun q => q]⟩
  have bC := bB.keep fC fun i hi q => by have := hown i (oA i hi); omega
  rw [bind_ok eC, s_neq]
  by_cases hc : (rdE tf ta bs).code = 0
  · rw [dfalse (by simp [hc]), s_condf, ldN_run mC (by simp)]
    obtain ⟨r1, r2, r3, g1, g2, g3, g4⟩ := rdE_ok hc
    have a1 : after (.ok bs) (rdT tf ta) = .ok r1 := by simp [after, g1]
    have a2 : after (after (.ok bs) (rdT tf ta)) rd8 = .ok r2 := by rw [a1]; simp [after, g2]
    have a3 : after (after (after (.ok bs) (rdT tf ta)) rd8) (rdT tf ta) = .ok r3 := by rw [a2]; simp [after, g3]
    have v1 := hn bs _ _ rfl g1
    have v2 := hnum r1 _ _ a1 g2
    have v3 := hky r2 _ _ a2 g3
    have v4 := hdx r3 _ _ a3 g4
    rw [show (List.take 4 (List.drop 0 [Value.string nm, .int .u64 num, .string ky, dv])).toArray = #[Value.string nm, .int .u64 num, .string ky, dv] from rfl]
    rw [stN_run (n := 4) (o := 0) (vs := #[Value.string nm, .int .u64 num, .string ky, dv]) mC0 rfl (by omega) (all4 hone)]
    rw [show splice Z 0 (#[Value.string nm, .int .u64 num, .string ky, dv] : Array Value).toList = [.string nm, .int .u64 num, .string ky, dv] by simp [splice, hZl]]
    rw [ldN_run (VS.set_same _ _ _) (by simp)]
    refine ⟨dv, _, by rw [hc, v1, v2, v3]; rfl, ?_, sA, frV _, oA⟩
    rw [v4]
    exact bC.keep (Fr.set (S := (· = V.next)) fun _ => rfl) fun i hi q => by have := hown i (oA i hi); omega
  · rw [dtrue hc, s_condt]
    have hagg2 : ∀ {β : Type} (f : Value → M β), M.bind (mkAgg [.string ⟨#[]⟩, .int .u64 0, .string ⟨#[]⟩, .slice none 0 0] []) f = f (.agg #[.string ⟨#[]⟩, .int .u64 0, .string ⟨#[]⟩, .slice none 0 0]) := fun f => rfl
    rw [hZ] at mC0
    rw [hagg2, stN_run (n := 4) (o := 0) (vs := #[.string ⟨#[]⟩, .int .u64 0, .string ⟨#[]⟩, .slice none 0 0]) mC0 rfl (by simp) rfl]
    rw [show splice [Value.string ⟨#[]⟩, .int .u64 0, .string ⟨#[]⟩, .slice none 0 0] 0 (#[.string ⟨#[]⟩, .int .u64 0, .string ⟨#[]⟩, .slice none 0 0] : Array Value).toList = [Value.string ⟨#[]⟩, .int .u64 0, .string ⟨#[]⟩, .slice none 0 0] from rfl]
    rw [ldN_run (VS.set_same _ _ _) (by simp)]
    rw [rdE_bad hc]
    exact ⟨.slice none 0 0, _, rfl, .nil, ⟨_, _, _, rfl⟩, frV _, (by rintro i ⟨o, n, c, q⟩; cases q)⟩
end Go.Vm.Tryd
end
section
set_option linter.unusedVariables false
set_option linter.unusedSimpArgs false
set_option maxRecDepth 100000
set_option maxHeartbeats 1000000
namespace Go.Vm.Tryd
open Go Go.Vm
/-- 'SameEntries' of two values of the same entry. -/
theorem same_spec {V : VS} {X : EntR} {d1 d2 : Value} (h1 : BAt V d1 X.d) (h2 : BAt V d2 X.d) :
    ∃ V', f12 [.agg #[.string (ba X.n), .int .u64 (X.q : Int), .string (ba X.k), d1], .agg #[.string (ba X.n), .int .u64 (X.q : Int), .string (ba X.k), d2]] V = .ok (.bool true) V' ∧ Fr (fun _ => False) V V' := by
  have hk : ∀ a b, f12 [a, b] V = k12 a b V := fun a b => congrFun (ar2_run k12 a b) V
  rw [hk]
  unfold k12 b12
  rw [s_bump, s_new, s_new, s_bump]
  simp only [Value.cells]
  generalize hV2 : (((⟨V.next + 2, V.tree⟩ : VS).set V.next (.cells true [.string (ba X.n), .int .u64 (X.q : Int), .string (ba X.k), d1] 25)).set (V.next + 1) (.cells true [.string (ba X.n), .int .u64 (X.q : Int), .string (ba X.k), d2] 25)) = V2
  have n2 : V2.next = V.next + 2 := by rw [← hV2]; rfl
  have m1 : V2.mem V.next = some (.cells true [.string (ba X.n), .int .u64 (X.q : Int), .string (ba X.k), d1] 25) := by rw [← hV2, VS.set_other _ (by omega)]; exact VS.set_same _ _ _
  have m2 : V2.mem (V.next + 1) = some (.cells true [.string (ba X.n), .int .u64 (X.q : Int), .string (ba X.k), d2] 25) := by rw [← hV2]; exact VS.set_same _ _ _
  have f2 : Fr (fun _ => False) V V2 := ⟨by omega, fun i hi _ => by rw [← hV2, VS.set_other _ (by omega), VS.set_other _ (by omega)]; rfl⟩
  rw [n2]
  generalize hV3 : (⟨V.next + 2 + 2, V2.tree⟩ : VS) = V3
  have f3 : Fr (fun _ => False) V2 V3 := by rw [← hV3]; exact ⟨by show V2.next ≤ V.next + 2 + 2; omega, fun i hi _ => rfl⟩
  have m1' : V3.mem V.next = some (.cells true [.string (ba X.n), .int .u64 (X.q : Int), .string (ba X.k), d1] 25) := by rw [f3.mem _ (by omega) fun q => q]; exact m1
  have m2' : V3.mem (V.next + 1) = some (.cells true [.string (ba X.n), .int .u64 (X.q : Int), .string (ba X.k), d2] 25) := by rw [f3.mem _ (by omega) fun q => q]; exact m2
  have f03 := f2.trans f3 fun _ _ q => q
  have g1 := h1.keep f03 fun _ _ q => q
  have g2 := h2.keep f03 fun _ _ q => q
  rw [s_off, ld1_run (v := .string (ba X.n)) m1' rfl, s_off, ld1_run (v := .string (ba X.n)) m2' rfl, s_seql, dtrue rfl]
  simp only [↓s_gtt, ↓s_off]
  rw [ld1_run (v := .int .u64 (X.q : Int)) m1' rfl, ld1_run (v := .int .u64 (X.q : Int)) m2' rfl, s_eql, dtrue rfl, s_pickt]
  simp only [↓s_gtt, ↓s_off]
  rw [ld1_run (v := .string (ba X.k)) m1' rfl, ld1_run (v := .string (ba X.k)) m2' rfl, s_seql, dtrue rfl, s_pickt]
  simp only [↓s_gtt, ↓s_off]
  rw [ld1_run (v := d1) m1' rfl, cvS g1, ld1_run (v := d2) m2' rfl, cvS g2, s_seql, dtrue rfl, s_pickt]
  exact ⟨V3, rfl, f03⟩
end Go.Vm.Tryd
end
section
set_option linter.unusedVariables false
set_option linter.unusedSimpArgs false
set_option maxRecDepth 100000
set_option maxHeartbeats 1000000
namespace Go.Vm.Tryd
open Go Go.Vm

theorem sb_lt (s : ByteArray) : ∀ x ∈ sb s, x < 256 := by
  intro x hx
  obtain ⟨y, _, rfl⟩ := List.mem_map.1 hx
  exact UInt8.toNat_lt y
theorem entryB_lt {name key : ByteArray} {seq : Nat} {d : List Nat} (hd : ∀ x ∈ d, x < 256) : ∀ x ∈ entryB name seq key d, x < 256 := by
  intro x hx
  unfold entryB at hx
  simp only [List.mem_append] at hx
  rcases hx with (((h | h) | h) | (h | h)) | (h | h)
  · exact be_lt _ _ x h
  · exact sb_lt _ x h
  · exact be_lt _ _ x h
  · exact be_lt _ _ x h
  · exact sb_lt _ x h
  · exact be_lt _ _ x h
  · exact hd x h
section
variable {tf ta : List Nat} {F7 : List Value → M Value}
/-- A round: bytes are read alike. -/
theorem round_ok {V : VS} {y : Value} {bs : List Nat} {id : Nat} {i : Nat} {l : Value} (hi : ∃ cs ty, l = .slice (some ⟨id, 0, none⟩) 2 2 ∧ i < 2 ∧ V.mem id = some (.cells true cs ty) ∧ cs[i]? = some y) (hy : BAt V y bs) (hsl : ∃ a n c, y = .slice a n c) (hlt : ∀ x ∈ bs, x < 256) (hb : bs.length ≤ 140737488355328) (hU : UAt V tf ta) :
    ∃ V', b3_p0 F7 f8 f9 f10 f11 f12 l [.int .i64 (i : Int)] V = .ok (.norm [.int .i64 ((i + 1 : Nat) : Int)]) V' ∧ Fr (fun _ => False) V V' := by
  obtain ⟨cs, ty, rfl, h2, hm, hv⟩ := hi
  unfold b3_p0
  rw [s_nth0, idxSl_run 1 id 0 2 2 .i64 (n := (i : Int)) ⟨by omega, by omega⟩, s_pure, Int.toNat_natCast, Nat.mul_one, Nat.zero_add, ld1_run hm hv, s_bump]
  have fb1 := Fr.bump (fun _ => False) V 1
  obtain ⟨d1, V1, e1, g1, k1, f1, o1⟩ := pick_spec (hy.keep fb1 fun _ _ q => q) hsl hlt hb (hU.keep fb1 (fun q => q) fun q => q)
  generalize hX : rdE tf ta bs = X at e1 g1
  have f01 := fb1.trans f1 fun _ _ q => q
  have n1 : V.next + 1 ≤ V1.next := f1.next
  have one1 : one d1 = true := by obtain ⟨a, m, c, rfl⟩ := k1; rfl
  rw [bind_ok e1, s_extr0, s_extr1, s_new, stN_run (n := 4) (o := 0) (vs := #[.string (ba X.n), .int .u64 (X.q : Int), .string (ba X.k), d1]) (VS.set_same _ _ _) rfl (by simp) (all4 one1)]
  rw [show splice [Value.string ⟨#[]⟩, .int .u64 0, .string ⟨#[]⟩, .slice none 0 0] 0 (#[.string (ba X.n), .int .u64 (X.q : Int), .string (ba X.k), d1] : Array Value).toList = [.string (ba X.n), .int .u64 (X.q : Int), .string (ba X.k), d1] from rfl, s_bump]
  generalize hV2 : ((V1.set V.next (.cells true [Value.string ⟨#[]⟩, .int .u64 0, .string ⟨#[]⟩, .slice none 0 0] 25)).set V.next (.cells true [.string (ba X.n), .int .u64 (X.q : Int), .string (ba X.k), d1] 25)) = V2
  have n2 : V2.next = V1.next := by rw [← hV2]; rfl
  have m2 : V2.mem V.next = some (.cells true [.string (ba X.n), .int .u64 (X.q : Int), .string (ba X.k), d1] 25) := by rw [← hV2]; exact VS.set_same _ _ _
  have f2 : Fr (· = V.next) V1 V2 := ⟨by omega, fun i hi hn => by rw [← hV2, VS.set_other _ hn, VS.set_other _ hn]⟩
  rw [n2]
  generalize hV3 : (⟨V1.next + 1, V2.tree⟩ : VS) = V3
  have n3 : V3.next = V1.next + 1 := by rw [← hV3]
  have f3 : Fr (fun _ => False) V2 V3 := ⟨by omega, fun i hi _ => by rw [← hV3]; rfl⟩
  have f03 : Fr (fun _ => False) V V3 := ⟨by omega, fun i hi _ => by rw [f3.mem i (by omega) fun q => q, f2.mem i (by omega) (by omega), f01.mem i hi fun q => q]⟩
  obtain ⟨d2, V4, e4, g4, k4, f4, o4⟩ := readEntry_spec (hy.keep f03 fun _ _ q => q) hsl hlt hb (hU.keep f03 (fun q => q) fun q => q)
  rw [hX] at e4 g4
  have n4 := f4.next
  have one4 : one d2 = true := by obtain ⟨a, m, c, rfl⟩ := k4; rfl
  rw [bind_ok e4, s_extr0, s_extr1, s_new, stN_run (n := 4) (o := 0) (vs := #[.string (ba X.n), .int .u64 (X.q : Int), .string (ba X.k), d2]) (VS.set_same _ _ _) rfl (by simp) (all4 one4)]
  rw [show splice [Value.string ⟨#[]⟩, .int .u64 0, .string ⟨#[]⟩, .slice none 0 0] 0 (#[.string (ba X.n), .int .u64 (X.q : Int), .string (ba X.k), d2] : Array Value).toList = [.string (ba X.n), .int .u64 (X.q : Int), .string (ba X.k), d2] from rfl]
  generalize hV5 : ((V4.set V1.next (.cells true [Value.string ⟨#[]⟩, .int .u64 0, .string ⟨#[]⟩, .slice none 0 0] 25)).set V1.next (.cells true [.string (ba X.n), .int .u64 (X.q : Int), .string (ba X.k), d2] 25)) = V5
  have n5 : V5.next = V4.next := by rw [← hV5]; rfl
  have m5 : V5.mem V1.next = some (.cells true [.string (ba X.n), .int .u64 (X.q : Int), .string (ba X.k), d2] 25) := by rw [← hV5]; exact VS.set_same _ _ _
  have f5 : Fr (· = V1.next) V4 V5 := ⟨by omega, fun i hi hn => by rw [← hV5, VS.set_other _ hn, VS.set_other _ hn]⟩
  have m5a : V5.mem V.next = some (.cells true [.string (ba X.n), .int .u64 (X.q : Int), .string (ba X.k), d1] 25) := by
    rw [f5.mem _ (by omega) (by omega), f4.mem _ (by omega) fun q => q, f3.mem _ (by omega) fun q => q]; exact m2
  have f05 : Fr (fun _ => False) V V5 := ⟨by omega, fun i hi _ => by rw [f5.mem i (by omega) (by omega), f4.mem i (by omega) fun q => q, f03.mem i hi fun q => q]⟩
  rw [s_neq, dfalse (by simp)]
  simp only [↓s_gff]
  rw [ldN_run m5a (by simp), ldN_run m5 (by simp)]
  have o1' : ∀ i, SOwn d1 i → V.next + 1 ≤ i := o1
  have g1' : BAt V5 d1 X.d := by
    have b2 := g1.keep f2 fun i hi q => by have := o1' i hi; omega
    have b4 := (b2.keep f3 fun _ _ q => q).keep f4 fun _ _ q => q
    exact b4.keep f5 fun i hi q => by have := g1.own_lt hi; omega
  have g4' : BAt V5 d2 X.d := g4.keep f5 fun i hi q => by have := hy.own_lt (o4 i hi); omega
  obtain ⟨V6, e6, f6⟩ := same_spec g1' g4'
  rw [show (List.take 4 (List.drop 0 [Value.string (ba X.n), .int .u64 (X.q : Int), .string (ba X.k), d1])).toArray = #[Value.string (ba X.n), .int .u64 (X.q : Int), .string (ba X.k), d1] from rfl]
  rw [show (List.take 4 (List.drop 0 [Value.string (ba X.n), .int .u64 (X.q : Int), .string (ba X.k), d2])).toArray = #[Value.string (ba X.n), .int .u64 (X.q : Int), .string (ba X.k), d2] from rfl]
  rw [bind_ok e6, s_not, s_pickf, Bool.not_true, s_condf, s_add, wrap_i64 (by omega) (by omega)]
  exact ⟨V6, rfl, f05.trans f6 fun _ _ q => q⟩
/-- The statement's function, where what comes first ('Awake') answers true. -/
theorem entries_spec {V : VS} {name key : ByteArray} {seq : Nat} {data b : Value} {d bs : List Nat} (hA : ∀ V, F7 [] V = .ok (.bool true) V) (hd : BAt V data d) (hdl : ∃ a n c, data = .slice a n c) (hb : BAt V b bs) (hbl : ∃ a n c, b = .slice a n c) (hseq : seq < 18446744073709551616)
    (hd256 : ∀ x ∈ d, x < 256) (hb256 : ∀ x ∈ bs, x < 256) (hU : UAt V tf ta) :
    ∃ V', ar2 (b3 F7 f8 f9 f10 f11 f12) [parcel name seq key data, b] V = .ok (.bool true) V' := by
  rw [ar2_run]
  unfold b3 parcel
  rw [s_bump, s_new]
  rw [show (Value.cells (.agg #[.string name, .int .u64 (seq : Int), .string key, data])).toList = [.string name, .int .u64 (seq : Int), .string key, data] from rfl]
  generalize hV1 : (⟨V.next + 1, V.tree⟩ : VS).set V.next (.cells true [.string name, .int .u64 (seq : Int), .string key, data] 25) = V1
  have n1 : V1.next = V.next + 1 := by rw [← hV1]; rfl
  have m1 : V1.mem V.next = some (.cells true [.string name, .int .u64 (seq : Int), .string key, data] 25) := by rw [← hV1]; exact VS.set_same _ _ _
  have f1 : Fr (fun _ => False) V V1 := ⟨by omega, fun i hi _ => by rw [← hV1, VS.set_other _ (by omega)]; rfl⟩
  rw [bind_ok (hA V1), s_not, Bool.not_true, s_condf]
  unfold b3_p3
  rw [s_off, ld1_run (v := .string name) m1 rfl, s_lenStr, s_gtr]
  obtain ⟨da, dn, dc, rfl⟩ := hdl
  obtain ⟨xa, xn, xc, rfl⟩ := hbl
  have hdn : dn = d.length := hd.cells.2
  have hxn : xn = bs.length := hb.cells.2
  subst hdn hxn
  by_cases c1 : (name.size : Int) > 1000
  · rw [dtrue c1]
    simp only [↓s_gft, ↓s_pickt, ↓s_condt]
    exact ⟨V1, rfl⟩
  rw [dfalse c1]
  simp only [↓s_gff, ↓s_off]
  rw [ld1_run (v := .string key) m1 rfl, s_lenStr, s_gtr, s_pickf]
  by_cases c2 : (key.size : Int) > 1000
  · rw [dtrue c2]
    simp only [↓s_gft, ↓s_pickt, ↓s_condt]
    exact ⟨V1, rfl⟩
  rw [dfalse c2]
  simp only [↓s_gff, ↓s_off]
  rw [ld1_run (v := .slice da d.length dc) m1 rfl, s_lenSl, s_gtr, s_pickf]
  by_cases c3 : (d.length : Int) > 1000
  · rw [dtrue c3]
    simp only [↓s_gft, ↓s_pickt, ↓s_condt]
    exact ⟨V1, rfl⟩
  rw [dfalse c3]
  simp only [↓s_gff, ↓s_pure, ↓s_lenSl, ↓s_gtr, ↓s_pickf]
  by_cases c4 : (bs.length : Int) > 1000
  · rw [dtrue c4, s_condt]
    exact ⟨V1, rfl⟩
  rw [dfalse c4, s_condf]
  unfold b3_p2
  have hd1 := hd.keep f1 fun _ _ q => q
  have hb1 := hb.keep f1 fun _ _ q => q
  have hdl : ∃ a n c, Value.slice da d.length dc = .slice a n c := ⟨_, _, _, rfl⟩
  obtain ⟨r2, V2, e2, o2⟩ := lay_spec (V := V1) (name := name) (key := key) (seq := seq) hd1 hdl hseq (by omega) (by omega) (by omega)
  generalize hE : entryB name seq key d = E at e2 o2
  have hEl : E.length = 20 + name.size + key.size + d.length := by rw [← hE, entryB_length]
  have hE256 : ∀ x ∈ E, x < 256 := by rw [← hE]; exact entryB_lt hd256
  have e2' : f8 [.agg #[.string name, .int .u64 (seq : Int), .string key, .slice da d.length dc]] V1 = .ok (.tuple #[r2, .int .i64 (if E.length ≤ 256 then 0 else 3)]) V2 := (congrFun (ar1_run k8 _) V1).trans e2
  rw [ldN_run m1 (by simp)]
  rw [show (List.take 4 (List.drop 0 [Value.string name, .int .u64 (seq : Int), .string key, .slice da d.length dc])).toArray = #[Value.string name, .int .u64 (seq : Int), .string key, .slice da d.length dc] from rfl]
  rw [bind_ok e2', s_extr0, s_extr1]
  have n2 := o2.fr.next
  have m2 : V2.mem V.next = some (.cells true [.string name, .int .u64 (seq : Int), .string key, .slice da d.length dc] 25) := by rw [o2.fr.mem _ (by omega) fun q => q]; exact m1
  rw [ldN_run m2 (by simp)]
  rw [show (List.take 4 (List.drop 0 [Value.string name, .int .u64 (seq : Int), .string key, .slice da d.length dc])).toArray = #[Value.string name, .int .u64 (seq : Int), .string key, .slice da d.length dc] from rfl]
  obtain ⟨r3, V3, e3, o3⟩ := entry_spec (V := V2) (name := name) (key := key) (seq := seq) (hd1.keep o2.fr fun _ _ q => q) hdl hseq (by omega) (by omega) (by omega)
  rw [hE] at e3 o3
  have e3' : f9 [.agg #[.string name, .int .u64 (seq : Int), .string key, .slice da d.length dc]] V2 = .ok (.tuple #[r3, .int .i64 (if E.length ≤ 256 then 0 else 3)]) V3 := (congrFun (ar1_run k9 _) V2).trans e3
  rw [bind_ok e3', s_extr0, s_extr1, s_bump]
  obtain ⟨C, hC⟩ : ∃ C, C = if E.length ≤ 256 then E else [] := ⟨_, rfl⟩
  have a2 := o2.at_
  have a3 := o3.at_
  rw [← hC] at a2 a3
  have fb := Fr.bump (fun _ => False) V3 2
  have a2' := (a2.keep o3.fr fun _ _ q => q).keep fb fun _ _ q => q
  have a3' := a3.keep fb fun _ _ q => q
  rw [s_neq, dfalse (by simp)]
  simp only [↓s_gff, ↓s_pure]
  rw [cvS a2', cvS a3', s_sneq, dfalse (by simp), s_pickf, s_condf, s_bump]
  have hC256 : ∀ x ∈ C, x < 256 := by rw [hC]; split; exact hE256; simp
  have hCl : C.length ≤ 140737488355328 := by rw [hC]; split; omega; simp
  obtain ⟨c0, cn, cc, rfl⟩ := o2.sl
  rw [show (⟨V3.next + 2, V3.tree⟩ : VS).next = V3.next + 2 from rfl]
  have hmk : ∀ {β : Type} (f : Value → M β), M.bind (mkLitSl (V3.next + 2) 23 [.slice none 0 0] 2 [(0, 1, .slice xa bs.length xc), (1, 1, .slice c0 cn cc)]) f ⟨V3.next + 2 + 1, V3.tree⟩ =
      f (.slice (some ⟨V3.next + 2, 0, none⟩) 2 2) ((⟨V3.next + 2 + 1, V3.tree⟩ : VS).set (V3.next + 2) (.cells true [.slice xa bs.length xc, .slice c0 cn cc] 23)) := fun f => nd rfl
  rw [hmk, s_lenSl]
  generalize hV4 : (⟨V3.next + 2 + 1, V3.tree⟩ : VS).set (V3.next + 2) (.cells true [.slice xa bs.length xc, .slice c0 cn cc] 23) = V4
  have n4 : V4.next = V3.next + 3 := by rw [← hV4]; rfl
  have m4 : V4.mem (V3.next + 2) = some (.cells true [.slice xa bs.length xc, .slice c0 cn cc] 23) := by rw [← hV4]; exact VS.set_same _ _ _
  have f4 : Fr (fun _ => False) V3 V4 := ⟨by omega, fun i hi _ => by rw [← hV4, VS.set_other _ (by omega)]; rfl⟩
  have f24 := o3.fr.trans f4 fun _ _ q => q
  have f14 := o2.fr.trans f24 fun _ _ q => q
  have b4 := hb1.keep f14 fun _ _ q => q
  have c4' := a2.keep f24 fun _ _ q => q
  have hU4 := (hU.keep f1 (fun q => q) fun q => q).keep f14 (fun q => q) fun q => q
  refine loop_bind (Q := fun (R : Res Value) => ∃ V', R = .ok (.bool true) V') (fun k vs V5 => ∃ i : Nat, k = 2 - i ∧ i ≤ 2 ∧ vs = [.int .i64 (i : Int)] ∧ Fr (fun _ => False) V4 V5) ?_ (k := 2) ⟨0, rfl, by omega, rfl, Fr.refl _ _⟩ (by unfold FUEL; omega)
  rintro k vs V5 ⟨i, rfl, hi, rfl, hf⟩
  unfold b3_p1
  rw [s_nth0, s_lss]
  by_cases h2 : i < 2
  · rw [dtrue (p := (i : Int) < ((2 : Nat) : Int)) (by omega), s_condt]
    have m5 : V5.mem (V3.next + 2) = some (.cells true [.slice xa bs.length xc, .slice c0 cn cc] 23) := by rw [hf.mem _ (by omega) fun q => q]; exact m4
    have hU5 := hU4.keep hf (fun q => q) fun q => q
    have hr : ∃ V', b3_p0 F7 f8 f9 f10 f11 f12 (.slice (some ⟨V3.next + 2, 0, none⟩) 2 2) [.int .i64 (i : Int)] V5 = .ok (.norm [.int .i64 ((i + 1 : Nat) : Int)]) V' ∧ Fr (fun _ => False) V5 V' := by
      have : i = 0 ∨ i = 1 := by omega
      rcases this with rfl | rfl
      · exact round_ok ⟨_, _, rfl, by omega, m5, rfl⟩ (b4.keep hf fun _ _ q => q) ⟨_, _, _, rfl⟩ hb256 (by omega) hU5
      · exact round_ok ⟨_, _, rfl, by omega, m5, rfl⟩ (c4'.keep hf fun _ _ q => q) ⟨_, _, _, rfl⟩ hC256 hCl hU5
    obtain ⟨V6, e6, f6⟩ := hr
    rw [e6, LPost_norm]
    exact ⟨2 - (i + 1), by omega, i + 1, rfl, by omega, rfl, hf.trans f6 fun _ _ q => q⟩
  · rw [dfalse (p := (i : Int) < ((2 : Nat) : Int)) (by omega), s_condf, s_res, LPost_exit, s_exit]
    exact ⟨V5, rfl⟩
end
end Go.Vm.Tryd
end
section
set_option linter.unusedVariables false
set_option linter.unusedSimpArgs false
set_option maxRecDepth 100000
set_option maxHeartbeats 1000000
namespace Go.Vm.Tryd
open Go Go.Vm

theorem awake_run : isTrue (f7 [] (bareV 2)) = true := by kernel_rfl
theorem awake_sum : Summ Go.Proofs.Tryd.prog 7 closedF := summ_closed f7_sum (n := 2) (by kernel_rfl) awake_run
theorem awake_true (V : VS) : closedF [] V = .ok (.bool true) V := rfl
theorem entries_sum : Summ Go.Proofs.Tryd.prog 3 (ar2 (b3 closedF f8 f9 f10 f11 f12)) :=
  have hG : Summs Go.Proofs.Tryd.prog (T3 closedF f8 f9 f10 f11 f12) := summs_cons awake_sum (summs_cons f8_sum (summs_cons f9_sum (summs_cons f10_sum (summs_cons f11_sum (summs_cons f12_sum summs_nil)))))
  summ_of_exec tok hG (draw_sound tok hG mixed) Go.Proofs.Tryd.func3 (by kernel_rfl) rfl h3 (ar2_eq (b3_eq closedF f8 f9 f10 f11 f12))
end Go.Vm.Tryd
end
