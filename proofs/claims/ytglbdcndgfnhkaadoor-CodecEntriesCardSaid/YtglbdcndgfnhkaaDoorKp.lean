/- Parts of the proof. -/
import Derived.Test.YtglbdcndgfnhkaaDoorKF5
import Derived.Test.YtglbdcndgfnhkaaDoorKd
section
set_option linter.unusedVariables false
set_option linter.unusedSimpArgs false
set_option maxRecDepth 100000
namespace Go.Vm.Tryd
open Go Go.Vm

def bv (b : Nat) : Value := .int .u8 b
/-- A number as so many bytes, the greatest first. -/
def be : Nat → Nat → List Nat
  | _, 0 => []
  | n, k + 1 => be (n / 256) k ++ [n % 256]
theorem be_length : ∀ (k n : Nat), (be n k).length = k
  | 0, _ => rfl
  | k + 1, n => by simp [be, be_length k]
theorem be_lt : ∀ (k n : Nat), ∀ x ∈ be n k, x < 256
  | 0, _, x, h => by cases h
  | k + 1, n, x, h => by
    simp only [be, List.mem_append, List.mem_singleton] at h
    rcases h with h | rfl
    · exact be_lt k _ x h
    · exact Nat.mod_lt _ (by omega)
theorem be_cons : ∀ (k n : Nat), be n (k + 1) = (n / 256 ^ k % 256) :: be n k
  | 0, n => by simp [be]
  | k + 1, n => by
    rw [be, be_cons k (n / 256), be]
    simp only [List.cons_append]
    congr 2
    rw [Nat.div_div_eq_div_mul, Nat.pow_succ, Nat.mul_comm]
theorem be_drop : ∀ (k m n : Nat), (be n (k + m)).drop k = be n m
  | 0, m, n => by simp
  | k + 1, m, n => by rw [show k + 1 + m = (k + m) + 1 by omega, be_cons, List.drop_succ_cons, be_drop k m n]

/-- A writer that holds bytes. -/
inductive WAt (V : VS) (w : Nat) : List Nat → Prop where
  | nil (ty : TypeId) (hw : w < V.next) (h : V.mem w = some (.cells true [.slice none 0 0] ty)) : WAt V w []
  | row (bs : List Nat) (ty : TypeId) (i : Nat) (hw : w < V.next) (hi : i < V.next) (hne : i ≠ w) (h : V.mem w = some (.cells true [.slice (some ⟨i, 0, none⟩) bs.length (unk + 1)] ty)) (hb : V.mem i = some (.cells true (bs.map bv) 5)) : WAt V w bs
def WOwn (V : VS) (w i : Nat) : Prop := i = w ∨ ∃ ty n c, V.mem w = some (.cells true [.slice (some ⟨i, 0, none⟩) n c] ty)

theorem fill_loop {V : VS} {id : Nat} {ty : TypeId} (n : Nat) (hn : n < 18446744073709551616) (hid : id < V.next) {G : List Value → M J}
    (hG : G = fun vs_3 =>
    M.bind (bin (.cell .int) .lss (nth vs_3 0) (Go.Value.int Go.IntKind.i64 8)) fun t9_4 =>
    condM t9_4 (
    M.bind (bump 1) fun b_5 =>
    M.bind (bin (.cell .int) .sub (Go.Value.int Go.IntKind.i64 7) (nth vs_3 0)) fun t12_6 =>
    M.bind (bin (.cell .int) .mul (Go.Value.int Go.IntKind.i64 8) (nth vs_3 0)) fun t15_7 =>
    M.bind (bin (.cell .int) .shr (.int .u64 n) t15_7) fun t16_8 =>
    M.bind (cvInt .u8 t16_8) fun t17_9 =>
    M.bind (idxArr 1 8 (.pointer (some ⟨id, 0, none⟩)) t12_6) fun t18_10 =>
    M.bind (st1 t18_10 t17_9) fun tu_11 =>
    M.bind (bin (.cell .int) .add (nth vs_3 0) (Go.Value.int Go.IntKind.i64 1)) fun t19_12 =>
    M.pure (.norm [t19_12])) (
    M.pure (.exit 0 [])))
    (hm : V.mem id = some (.cells true (List.replicate 8 (bv 0)) ty)) :
    ∃ V', loopM G [.int .i64 0] V = .ok (.exit 0 []) V' ∧ V'.mem id = some (.cells true ((be n 8).map bv) ty) ∧ Fr (· = id) V V' := by
  refine loop_rule (Q := fun r => ∃ V', r = .ok (.exit 0 []) V' ∧ V'.mem id = some (.cells true ((be n 8).map bv) ty) ∧ Fr (· = id) V V')
    (fun k vs V1 => ∃ i : Nat, k = 8 - i ∧ i ≤ 8 ∧ vs = [.int .i64 (i : Int)] ∧ V1.mem id = some (.cells true ((List.replicate (8 - i) 0 ++ be n i).map bv) ty) ∧ Fr (· = id) V V1) ?_ (k := 8) ⟨0, rfl, by omega, rfl, by simpa [be] using hm, Fr.refl _ _⟩ (by unfold FUEL; omega)
  rintro k vs V1 ⟨i, rfl, hi, rfl, hmem, hfr⟩
  subst hG
  by_cases h8 : i < 8
  · left
    have hlt : ((i : Int) < 8) := by omega
    have hw7 : IntKind.i64.wrap (7 - (i : Int)) = ((7 - i : Nat) : Int) := by simp [IntKind.wrap, IntKind.bits, IntKind.signed]; omega
    have hw8 : IntKind.i64.wrap (8 * (i : Int)) = ((8 * i : Nat) : Int) := by simp [IntKind.wrap, IntKind.bits, IntKind.signed]; omega
    have hw1 : IntKind.i64.wrap ((i : Int) + 1) = ((i + 1 : Nat) : Int) := by simp [IntKind.wrap, IntKind.bits, IntKind.signed]; omega
    have hsh : (n : Int).fdiv (2 ^ (8 * i)) = ((n / 256 ^ i : Nat) : Int) := by
      rw [show (2 : Int) ^ (8 * i) = ((256 ^ i : Nat) : Int) by rw [Int.pow_mul]; simp]
      rw [Int.fdiv_eq_ediv_of_nonneg _ (Int.natCast_nonneg _)]
      rfl
    have hw : IntKind.u8.wrap ((n / 256 ^ i : Nat) : Int) = ((n / 256 ^ i % 256 : Nat) : Int) := by simp [IntKind.wrap, IntKind.bits, IntKind.signed]
    have hcells : ((List.replicate (8 - i) 0 ++ be n i).map bv).set (7 - i) (bv (n / 256 ^ i % 256)) = (List.replicate (8 - (i + 1)) 0 ++ be n (i + 1)).map bv := by
      rw [be_cons]
      rw [show 8 - i = (8 - (i + 1)) + 1 by omega, List.replicate_succ']
      simp only [List.map_append, List.map_cons, List.append_assoc, List.map_nil, List.singleton_append]
      have hl : (List.map bv (List.replicate (8 - (i + 1)) 0)).length = 7 - i := by rw [List.length_map, List.length_replicate]; omega
      rw [List.set_append_right _ _ (by omega), hl, Nat.sub_self]
      rfl
    have hlen : ((List.replicate (8 - i) 0 ++ be n i).map bv).length = 8 := by simp [be_length]; omega
    refine ⟨[.int .i64 ((i + 1 : Nat) : Int)], (⟨V1.next + 1, V1.tree⟩ : VS).set id (.cells true ((List.replicate (8 - (i + 1)) 0 ++ be n (i + 1)).map bv) ty), 8 - (i + 1), ?_, by omega, i + 1, rfl, by omega, rfl, VS.set_same _ _ _, ?_⟩
    · simp only [nth_zero, bin_lss, hlt, decide_true, bind_pure_run, condM_true, bump_run, bin_sub, bin_mul, hw7, hw8, bin_shr _ _ _ (Int.natCast_nonneg (8 * i)), Int.toNat_natCast]
      rw [show min (8 * i) IntKind.u64.bits = 8 * i by simp [IntKind.bits]; omega, hsh]
      simp only [cvInt_run, bind_pure_run, hw, idxArr_run 1 8 id 0 .i64 (n := ((7 - i : Nat) : Int)) ⟨by omega, by omega⟩, Int.toNat_natCast, Nat.mul_one, Nat.zero_add]
      rw [st1_run (V := ⟨V1.next + 1, V1.tree⟩) (cs := (List.replicate (8 - i) 0 ++ be n i).map bv) (ty := ty) (by rw [mem_bump]; exact hmem) (by rw [hlen]; omega) rfl]
      simp only [bin_add, hw1, bind_pure_run, pure_run]
      rw [show (Value.int .u8 ((n / 256 ^ i % 256 : Nat) : Int)) = bv (n / 256 ^ i % 256) from rfl, hcells]
    · exact (hfr.trans (Fr.bump (· = id) V1 1) (fun _ _ h => h)).trans (Fr.set (S := (· = id)) fun _ => rfl) fun _ _ h => h
  · right
    have : i = 8 := by omega
    subst this
    have hrun : (M.bind (bin (.cell .int) .lss (nth [.int .i64 ((8 : Nat) : Int)] 0) (Go.Value.int Go.IntKind.i64 8)) fun t9_4 =>
    condM t9_4 (
    M.bind (bump 1) fun b_5 =>
    M.bind (bin (.cell .int) .sub (Go.Value.int Go.IntKind.i64 7) (nth [.int .i64 ((8 : Nat) : Int)] 0)) fun t12_6 =>
    M.bind (bin (.cell .int) .mul (Go.Value.int Go.IntKind.i64 8) (nth [.int .i64 ((8 : Nat) : Int)] 0)) fun t15_7 =>
    M.bind (bin (.cell .int) .shr (.int .u64 n) t15_7) fun t16_8 =>
    M.bind (cvInt .u8 t16_8) fun t17_9 =>
    M.bind (idxArr 1 8 (.pointer (some ⟨id, 0, none⟩)) t12_6) fun t18_10 =>
    M.bind (st1 t18_10 t17_9) fun tu_11 =>
    M.bind (bin (.cell .int) .add (nth [.int .i64 ((8 : Nat) : Int)] 0) (Go.Value.int Go.IntKind.i64 1)) fun t19_12 =>
    M.pure (J.norm [t19_12])) (
    M.pure (.exit 0 []))) V1 = .ok (.exit 0 []) V1 := by
      simp only [nth_zero, bin_lss, bind_pure_run]
      rfl
    refine ⟨fun vs' V' h => ?_, V1, hrun, by simpa using hmem, hfr⟩
    have h' := hrun.symm.trans h
    cases h'

theorem app_nil {β : Type} {id e : Nat} {x : Value} {V : VS} {new : List Value} (hx : cellsOf 1 x V = some new) (hm : lenOfV x ≠ 0) (hb : lenOfV x ≤ 140737488355328) (h1 : new.all one = true) (f : Value → M β) :
    M.bind (app id e 1 1 (.slice none 0 0) x) f V = f (.slice (some ⟨id, 0, none⟩) (lenOfV x) (unk + 1)) (V.set id (.cells true new e)) := by
  unfold M.bind app
  simp only [hx, if_neg hm]
  rw [if_pos ⟨by omega, by omega, by omega, h1⟩]
  simp [cellsOf]
theorem app_row {β : Type} {id e b n : Nat} {ty : TypeId} {x : Value} {V : VS} {new old : List Value} (hx : cellsOf 1 x V = some new) (hm : lenOfV x ≠ 0) (hb : n + lenOfV x ≤ 140737488355328) (h1 : new.all one = true)
    (hmem : V.mem b = some (.cells true old ty)) (hl : old.length = n) (f : Value → M β) :
    M.bind (app id e 1 1 (.slice (some ⟨b, 0, none⟩) n (unk + 1)) x) f V = f (.slice (some ⟨id, 0, none⟩) (n + lenOfV x) (unk + 1)) ((V.set b .dead).set id (.cells true (old ++ new) e)) := by
  have hold : cellsOf 1 (.slice (some ⟨b, 0, none⟩) n (unk + 1)) V = some old := by
    unfold cellsOf
    simp only [Nat.mul_one]
    by_cases h0 : n = 0
    · rw [if_pos h0]
      have : old = [] := List.eq_nil_of_length_eq_zero (by omega)
      rw [this]
    · rw [if_neg h0]
      simp only [hmem]
      rw [if_pos (by omega)]
      simp [← hl]
  have hu : isUnk (unk + 1) = true := by simp [isUnk, unk]
  unfold M.bind app
  simp only [hx, if_neg hm]
  rw [if_pos ⟨by omega, by omega, by omega, h1⟩]
  simp only [hold, hu, cond_true, hmem, if_true]
theorem bytes_one (bs : List Nat) : (bs.map bv).all one = true := by
  rw [List.all_eq_true]
  intro x hx
  obtain ⟨b, _, rfl⟩ := List.mem_map.1 hx
  rfl
theorem cellsOf_row {b o n c : Nat} {own : Bool} {cs : List Value} {ty : TypeId} {V : VS} (hm : V.mem b = some (.cells own cs ty)) (h : o + n ≤ cs.length) : cellsOf 1 (.slice (some ⟨b, o, none⟩) n c) V = some ((cs.drop o).take n) := by
  unfold cellsOf
  simp only [Nat.mul_one]
  by_cases h0 : n = 0
  · rw [if_pos h0, h0]; simp
  · rw [if_neg h0]; simp only [hm, if_pos h]
theorem WAt.lt {V : VS} {w : Nat} {bs : List Nat} (h : WAt V w bs) : w < V.next := by cases h <;> assumption
/-- What a writer's own blocks are is not turned by what leaves them. -/
theorem WAt.keep {V V' : VS} {w : Nat} {bs : List Nat} (h : WAt V w bs) {S : Nat → Prop} (hf : Fr S V V') (hs : ∀ i, WOwn V w i → ¬ S i) : WAt V' w bs := by
  cases h with
  | nil ty hw h => exact .nil ty (Nat.lt_of_lt_of_le hw hf.next) (by rw [hf.mem w hw (hs w (.inl rfl))]; exact h)
  | row bs ty i hw hi hne h hb =>
    exact .row bs ty i (Nat.lt_of_lt_of_le hw hf.next) (Nat.lt_of_lt_of_le hi hf.next) hne (by rw [hf.mem w hw (hs w (.inl rfl))]; exact h) (by rw [hf.mem i hi (hs i (.inr ⟨_, _, _, h⟩))]; exact hb)

/-- A writer behind what was put. -/
structure WSt (V V' : VS) (w : Nat) (bs : List Nat) : Prop where
  at_ : WAt V' w bs
  fr : Fr (WOwn V w) V V'
  own : ∀ j, WOwn V' w j → WOwn V w j ∨ V.next ≤ j
theorem WSt.trans {A B C : VS} {w : Nat} {bs cs : List Nat} (h : WSt A B w bs) (k : WSt B C w cs) : WSt A C w cs :=
  ⟨k.at_, h.fr.trans k.fr fun i hi q => (h.own i q).resolve_right (by omega), fun j hj => by
    rcases k.own j hj with q | q
    · exact h.own j q
    · exact .inr (Nat.le_trans h.fr.next q)⟩
theorem wown_row {V : VS} {w i : Nat} {ty : TypeId} {n c : Nat} (h : V.mem w = some (.cells true [.slice (some ⟨i, 0, none⟩) n c] ty)) {j : Nat} (hj : WOwn V w j) : j = w ∨ j = i := by
  rcases hj with q | ⟨ty', n', c', q⟩
  · exact .inl q
  · rw [h] at q; cases q; exact .inr rfl
theorem slArr_from {b o n l : Nat} {es : Nat} (hn : n ≤ 9223372036854775807) (hl : l < n) : slArr es n (.pointer (some ⟨b, o, none⟩)) (some (.int .i64 l)) none none = M.pure (.slice (some ⟨b, o + l * es, none⟩) (n - l) (n - l)) := by
  have h1 : Nat.ble n 9223372036854775807 = true := by simpa using hn
  unfold slArr
  simp only [Option.isSome_none, Bool.false_and, h1, Bool.not_true, Bool.or_false, cond_false, bnd]
  rw [if_pos ⟨by omega, by omega⟩]
  simp only [Int.toNat_natCast]
  rw [if_neg (by omega)]
theorem wown_lt {V : VS} {w i : Nat} {bs : List Nat} (h : WAt V w bs) (ho : WOwn V w i) : i < V.next := by
  rcases ho with rfl | ⟨ty, n, c, hm⟩
  · exact h.lt
  · cases h with
    | nil ty' hw h' => rw [h'] at hm; cases hm
    | row bs ty' j hw hi hne h' hb =>
      rw [h'] at hm
      cases hm
      exact hi
theorem number_spec {V : VS} {w : Nat} {bs : List Nat} (hW : WAt V w bs) (n size : Nat) (hn : n < 18446744073709551616) (h1 : 1 ≤ size) (h8 : size ≤ 8) (hb : bs.length + 8 ≤ 140737488355328) :
    ∃ V', k58 (.pointer (some ⟨w, 0, none⟩)) (.int .u64 n) (.int .i64 size) V = .ok (.tuple #[]) V' ∧ WSt V V' w (bs ++ be n size) := by
  have hwlt := hW.lt
  unfold k58 b58
  simp only [bump_run, newCells_run]
  obtain ⟨V1, e1, e2, e3⟩ := fill_loop (V := (⟨V.next + 1, V.tree⟩ : VS).set V.next (.cells true [.int .u8 0, .int .u8 0, .int .u8 0, .int .u8 0, .int .u8 0, .int .u8 0, .int .u8 0, .int .u8 0] 155)) (id := V.next) (ty := 155) n hn (by show V.next < V.next + 1; omega) rfl (VS.set_same _ _ _)
  rw [bind_ok e1]
  simp only [onJ_exit]
  rw [show Nat.beq 0 0 = true from rfl]
  simp only [cond_true, ptr_neq_nil, bind_pure_run, condM_true]
  have hn1 : V.next + 1 ≤ V1.next := e3.next
  have hold : ∀ i, i < V.next → V1.mem i = V.mem i := fun i hi => by
    have : i < ((⟨V.next + 1, V.tree⟩ : VS).set V.next (.cells true [.int .u8 0, .int .u8 0, .int .u8 0, .int .u8 0, .int .u8 0, .int .u8 0, .int .u8 0, .int .u8 0] 155)).next := by show i < V.next + 1; omega
    rw [e3.mem i this (by omega), VS.set_other _ (by omega)]
    rfl
  generalize hV2 : (⟨V1.next + 1, clearT V1.next 1 V1.tree⟩ : VS) = V2
  have hm2 : ∀ i, i < V1.next → V2.mem i = V1.mem i := fun i hi => by rw [← hV2]; exact bumpC_mem hi
  have hx2 : V2.next = V1.next + 1 := by rw [← hV2]
  have hfr2 : Fr (fun _ => False) V V2 := ⟨by omega, fun i hi _ => by rw [hm2 i (by omega), hold i hi]⟩
  have hW2 : WAt V2 w bs := hW.keep hfr2 fun i _ q => q
  have harr : V2.mem V.next = some (.cells true ((be n 8).map bv) 155) := by rw [hm2 _ (by omega)]; exact e2
  have hsub : IntKind.i64.wrap (8 - (size : Int)) = ((8 - size : Nat) : Int) := by rw [wrap_i64 (by omega) (by omega)]; omega
  have hcells : cellsOf 1 (.slice (some ⟨V.next, 0 + (8 - size) * 1, none⟩) (8 - (8 - size)) (8 - (8 - size))) V2 = some ((be n size).map bv) := by
    rw [cellsOf_row harr (by rw [List.length_map, be_length]; omega)]
    rw [← List.map_drop, ← List.map_take]
    congr 2
    have := be_drop (8 - size) size n
    rw [show 8 - size + size = 8 by omega] at this
    rw [show 0 + (8 - size) * 1 = 8 - size by omega, this, show 8 - (8 - size) = size by omega]
    rw [List.take_of_length_le (by rw [be_length]; omega)]
  have hlen : lenOfV (.slice (some ⟨V.next, 0 + (8 - size) * 1, none⟩) (8 - (8 - size)) (8 - (8 - size))) = size := by show 8 - (8 - size) = size; omega
  have hne : V1.next ≠ w := by omega
  have hidx : V1.next < V2.next := by omega
  simp only [bind_assoc, bumpC_run, hV2, nilChk_ptr, addOff_run, bind_pure', Nat.add_zero, bin_sub, hsub, slArr_from (es := 1) (b := V.next) (o := 0) (n := 8) (l := 8 - size) (by omega) (by omega), onJ_norm]
  cases hW2 with
  | nil ty hw h =>
    rw [ld1_run h rfl, app_nil hcells (by omega) (by omega) (bytes_one _), hlen]
    have h3 : (V2.set V1.next (.cells true ((be n size).map bv) 5)).mem w = some (.cells true [.slice none 0 0] ty) := by rw [VS.set_other _ (Ne.symm hne)]; exact h
    rw [st1_run h3 (by simp) rfl]
    refine ⟨_, rfl, ?_, ?_, fun q hq => ?_⟩
    · refine .row _ ty V1.next hw hidx hne ?_ ?_
      · rw [VS.set_same]; simp [be_length]
      · rw [VS.set_other _ hne, VS.set_same]; simp
    rotate_left
    · rcases wown_row (VS.set_same _ w _) hq with rfl | rfl
      · exact .inl (.inl rfl)
      · exact .inr (by omega)
    · refine ⟨by show V.next ≤ V2.next; omega, fun i hi hno => ?_⟩
      have hiw : i ≠ w := fun q => hno (.inl q)
      rw [VS.set_other _ hiw, VS.set_other _ (by omega)]
      exact hfr2.mem i hi fun q => q
  | row _ ty j hw hj hjw h hbm =>
    rw [ld1_run h rfl, app_row hcells (by omega) (by omega) (bytes_one _) hbm (by simp), hlen]
    have hj1 : j < V.next := by
      have : WOwn V w j := .inr ⟨ty, bs.length, unk + 1, by rw [← hfr2.mem w hwlt fun q => q]; exact h⟩
      exact wown_lt hW this
    have hown : WOwn V w j := .inr ⟨ty, bs.length, unk + 1, by rw [← hfr2.mem w hwlt fun q => q]; exact h⟩
    have h3 : ((V2.set j .dead).set V1.next (.cells true (bs.map bv ++ (be n size).map bv) 5)).mem w = some (.cells true [.slice (some ⟨j, 0, none⟩) bs.length (unk + 1)] ty) := by
      rw [VS.set_other _ (Ne.symm hne), VS.set_other _ (Ne.symm hjw)]; exact h
    rw [st1_run h3 (by simp) rfl]
    refine ⟨_, rfl, ?_, ?_, fun q hq => ?_⟩
    · refine .row _ ty V1.next hw hidx hne ?_ ?_
      · rw [VS.set_same]; simp [be_length]
      · rw [VS.set_other _ hne, VS.set_same]; simp
    rotate_left
    · rcases wown_row (VS.set_same _ w _) hq with rfl | rfl
      · exact .inl (.inl rfl)
      · exact .inr (by omega)
    · refine ⟨by show V.next ≤ V2.next; omega, fun i hi hno => ?_⟩
      have hiw : i ≠ w := fun q => hno (.inl q)
      have hij : i ≠ j := fun q => hno (q ▸ hown)
      rw [VS.set_other _ hiw, VS.set_other _ (by omega), VS.set_other _ hij]
      exact hfr2.mem i hi fun q => q

/-- A capacity that may be: known, or that of a row of bytes that grows. -/
def capOk (n c : Nat) : Prop := n ≤ c ∧ (isUnk c = true → c = unk + 1)
theorem capOk_unk {n : Nat} (h : n ≤ 140737488355328) : capOk n (unk + 1) := ⟨by unfold unk; omega, fun _ => rfl⟩
theorem capOk_self {n : Nat} (h : n ≤ 140737488355328) : capOk n n := ⟨Nat.le_refl _, fun q => by simp [isUnk, unk] at q; omega⟩
/-- A slice value that holds bytes. -/
inductive BAt (V : VS) : Value → List Nat → Prop where
  | nil : BAt V (.slice none 0 0) []
  | zero (b o c : Nat) (hb : b < V.next) (hk : capOk 0 c) : BAt V (.slice (some ⟨b, o, none⟩) 0 c) []
  | row (bs : List Nat) (b o c : Nat) (own : Bool) (cs : List Value) (ty : TypeId) (hb : b < V.next) (hm : V.mem b = some (.cells own cs ty)) (hl : o + bs.length ≤ cs.length) (hc : (cs.drop o).take bs.length = bs.map bv) (hk : capOk bs.length c) : BAt V (.slice (some ⟨b, o, none⟩) bs.length c) bs
theorem BAt.cells {V : VS} {s : Value} {bs : List Nat} (h : BAt V s bs) : cellsOf 1 s V = some (bs.map bv) ∧ lenOfV s = bs.length := by
  cases h with
  | nil => exact ⟨rfl, rfl⟩
  | zero b o c hb hk => exact ⟨by simp [cellsOf], rfl⟩
  | row _ b o c own cs ty hb hm hl hc hk => exact ⟨by rw [cellsOf_row hm hl, hc], rfl⟩
/-- The block of a slice value. -/
def SOwn (s : Value) (i : Nat) : Prop := ∃ o n c, s = .slice (some ⟨i, o, none⟩) n c
theorem BAt.keep {V V' : VS} {s : Value} {bs : List Nat} (h : BAt V s bs) {S : Nat → Prop} (hf : Fr S V V') (hs : ∀ i, SOwn s i → ¬ S i) : BAt V' s bs := by
  cases h with
  | nil => exact .nil
  | zero b o c hb hk => exact .zero b o c (Nat.lt_of_lt_of_le hb hf.next) hk
  | row _ b o c own cs ty hb hm hl hc hk => exact .row bs b o c own cs ty (Nat.lt_of_lt_of_le hb hf.next) (by rw [hf.mem b hb (hs b ⟨_, _, _, rfl⟩)]; exact hm) hl hc hk
theorem BAt.own_lt {V : VS} {s : Value} {bs : List Nat} (h : BAt V s bs) {i : Nat} (hi : SOwn s i) : i < V.next := by
  obtain ⟨o, n, c, rfl⟩ := hi
  cases h <;> assumption
theorem append_run {V : VS} {w id : Nat} {bs d : List Nat} {x : Value} {β : Type} (hW : WAt V w bs) (hx : BAt V x d) (hid : id < V.next) (hno : ¬ WOwn V w id) (hb : bs.length + d.length ≤ 140737488355328) (k : M β) :
    ∃ V', (M.bind (ld1 (.pointer (some ⟨w, 0, none⟩))) fun t => M.bind (app id 5 1 1 t x) fun u => M.bind (st1 (.pointer (some ⟨w, 0, none⟩)) u) fun _ => k) V = k V' ∧ WAt V' w (bs ++ d) ∧ Fr (fun i => WOwn V w i ∨ i = id) V V' ∧ (∀ j, WOwn V' w j → WOwn V w j ∨ j = id) := by
  obtain ⟨hcells, hlen⟩ := hx.cells
  have hne : id ≠ w := fun q => hno (.inl q)
  by_cases h0 : d = []
  · subst h0
    have happ : ∀ t : Value, (∃ a n c, t = .slice a n c) → ∀ f : Value → M β, M.bind (app id 5 1 1 t x) f V = f t V := by
      rintro t ⟨a, n, c, rfl⟩ f
      unfold M.bind app
      simp only [hcells, hlen, List.length_nil, if_true]
    cases hW with
    | nil ty hw h =>
      rw [ld1_run h rfl, happ _ ⟨_, _, _, rfl⟩, st1_run h (by simp) rfl]
      refine ⟨_, rfl, ?_, Fr.set fun _ => .inl (.inl rfl), fun q hq => ?_⟩
      · exact .nil ty hw (by rw [VS.set_same]; rfl)
      · rcases hq with q | ⟨ty', n', c', q⟩
        · exact .inl (.inl q)
        · rw [VS.set_same] at q; cases q
    | row _ ty j hw hj hjw h hbm =>
      rw [ld1_run h rfl, happ _ ⟨_, _, _, rfl⟩, st1_run h (by simp) rfl]
      refine ⟨_, rfl, ?_, Fr.set fun _ => .inl (.inl rfl), fun q hq => ?_⟩
      · rw [List.append_nil]
        exact .row bs ty j hw hj hjw (by rw [VS.set_same]; rfl) (by rw [VS.set_other _ hjw]; exact hbm)
      · rcases wown_row (VS.set_same _ w _) hq with rfl | rfl
        · exact .inl (.inl rfl)
        · exact .inl (.inr ⟨_, _, _, h⟩)
  · have hd0 : d.length ≠ 0 := fun q => h0 (List.eq_nil_of_length_eq_zero q)
    cases hW with
    | nil ty hw h =>
      rw [ld1_run h rfl, app_nil hcells (by omega) (by omega) (bytes_one _), hlen]
      have h3 : (V.set id (.cells true (d.map bv) 5)).mem w = some (.cells true [.slice none 0 0] ty) := by rw [VS.set_other _ (Ne.symm hne)]; exact h
      rw [st1_run h3 (by simp) rfl]
      refine ⟨_, rfl, .row _ ty id hw hid hne ?_ ?_, ⟨Nat.le_refl _, fun i hi hnn => ?_⟩, fun q hq => (wown_row (VS.set_same _ w _) hq).imp (fun h => .inl h) fun h => h⟩
      · rw [VS.set_same]; simp
      · rw [VS.set_other _ hne, VS.set_same]; simp
      · rw [VS.set_other _ fun q => hnn (.inl (.inl q)), VS.set_other _ fun q => hnn (.inr q)]
    | row _ ty j hw hj hjw h hbm =>
      rw [ld1_run h rfl, app_row hcells (by omega) (by omega) (bytes_one _) hbm (by simp), hlen]
      have hown : WOwn V w j := .inr ⟨ty, bs.length, unk + 1, h⟩
      have h3 : ((V.set j .dead).set id (.cells true (bs.map bv ++ d.map bv) 5)).mem w = some (.cells true [.slice (some ⟨j, 0, none⟩) bs.length (unk + 1)] ty) := by
        rw [VS.set_other _ (Ne.symm hne), VS.set_other _ (Ne.symm hjw)]; exact h
      rw [st1_run h3 (by simp) rfl]
      refine ⟨_, rfl, .row _ ty id hw hid hne ?_ ?_, ⟨Nat.le_refl _, fun i hi hnn => ?_⟩, fun q hq => (wown_row (VS.set_same _ w _) hq).imp (fun h => .inl h) fun h => h⟩
      · rw [VS.set_same]; simp
      · rw [VS.set_other _ hne, VS.set_same]; simp
      · rw [VS.set_other _ fun q => hnn (.inl (.inl q)), VS.set_other _ fun q => hnn (.inr q), VS.set_other _ fun q => hnn (.inl (by rw [q]; exact hown))]
theorem u64_spec {V : VS} {w : Nat} {bs : List Nat} (hW : WAt V w bs) (n : Nat) (hn : n < 18446744073709551616) (hb : bs.length + 8 ≤ 140737488355328) :
    ∃ V', k21 (.pointer (some ⟨w, 0, none⟩)) (.int .u64 n) V = .ok (.tuple #[]) V' ∧ WSt V V' w (bs ++ be n 8) := by
  obtain ⟨V1, h1, h2⟩ := number_spec hW n 8 hn (by omega) (by omega) hb
  refine ⟨V1, ?_, h2⟩
  unfold k21 b21
  have : f58 [.pointer (some ⟨w, 0, none⟩), .int .u64 n, .int .i64 8] V = .ok (.tuple #[]) V1 := h1
  rw [bind_ok this]
  rfl
theorem bytes_spec {V : VS} {w : Nat} {bs d : List Nat} {x : Value} (hW : WAt V w bs) (hx : BAt V x d) (hxw : ∀ i, SOwn x i → ¬ WOwn V w i) (hxl : ∃ a n c, x = .slice a n c) (hd : d.length < 18446744073709551616) (hb : bs.length + 8 + d.length ≤ 140737488355328) :
    ∃ V', k22 (.pointer (some ⟨w, 0, none⟩)) x V = .ok (.tuple #[]) V' ∧ WSt V V' w (bs ++ be d.length 4 ++ d) := by
  obtain ⟨a, n, c, rfl⟩ := hxl
  have hn : n = d.length := (BAt.cells hx).2
  subst hn
  unfold k22 b22
  simp only [bump_run, lenSl_run, bind_pure_run, cvInt_run, wrap_u64 (Int.natCast_nonneg d.length) (by omega)]
  have hb0 : Fr (fun _ => False) V ⟨V.next + 1, V.tree⟩ := Fr.bump _ V 1
  have hW0 : WAt ⟨V.next + 1, V.tree⟩ w bs := hW.keep hb0 fun _ _ q => q
  obtain ⟨V1, e1, e2⟩ := number_spec hW0 d.length 4 hd (by omega) (by omega) (by omega)
  have e1' : f58 [.pointer (some ⟨w, 0, none⟩), .int .u64 d.length, .int .i64 4] ⟨V.next + 1, V.tree⟩ = .ok (.tuple #[]) V1 := e1
  rw [bind_ok e1']
  simp only [ptr_neq_nil, bind_pure_run, condM_true, bind_assoc, bump_run, nilChk_ptr, addOff_run, bind_pure', Nat.add_zero, onJ_norm]
  have hn1 : V.next + 1 ≤ V1.next := e2.fr.next
  have hx1 : BAt ⟨V1.next + 1, V1.tree⟩ (.slice a d.length c) d := by
    have h1 := hx.keep hb0 (fun _ _ q => q)
    have h2 := h1.keep e2.fr (fun i hi q => hxw i hi q)
    exact h2.keep (Fr.bump (fun _ => False) V1 1) (fun _ _ q => q)
  have hW1 : WAt ⟨V1.next + 1, V1.tree⟩ w (bs ++ be d.length 4) := e2.at_.keep (Fr.bump (fun _ => False) V1 1) fun _ _ q => q
  obtain ⟨V2, g1, g2, g3, g4⟩ := append_run (id := V1.next) hW1 hx1 (by show V1.next < V1.next + 1; omega) (fun q => by
    have := wown_lt e2.at_ (show WOwn V1 w V1.next from q); omega) (by simp [be_length]; omega) (M.pure (Value.tuple #[]))
  refine ⟨V2, g1, g2, ?_, fun j hj => ?_⟩
  · have f0 : Fr (WOwn V w) V V1 := (hb0.mono (S' := WOwn V w) fun _ _ q => q.elim).trans e2.fr fun i hi q => q
    have f1 : Fr (WOwn V w) V ⟨V1.next + 1, V1.tree⟩ := f0.trans (Fr.bump (WOwn V w) V1 1) fun _ _ q => q
    refine f1.trans g3 fun i hi q => ?_
    rcases q with q | q
    · rcases e2.own i q with q | q
      · exact q
      · exact absurd (show V.next + 1 ≤ i from q) (by omega)
    · omega
  · rcases g4 j hj with q | rfl
    · rcases e2.own j q with q | q
      · exact .inl q
      · exact .inr (by have : V.next + 1 ≤ j := q; omega)
    · exact .inr (by omega)

def sb (s : ByteArray) : List Nat := s.data.toList.map (·.toNat)
theorem sb_length (s : ByteArray) : (sb s).length = s.size := by simp [sb]
theorem byteCells_sb (s : ByteArray) : byteCells s = (sb s).map bv := by simp [byteCells, sb, bv]
theorem whole (d : List Nat) : ((d.map bv).drop 0).take d.length = d.map bv := by rw [List.drop_zero]; exact List.take_of_length_le (by simp)
theorem text_spec {V : VS} {w : Nat} {bs : List Nat} {s : ByteArray} (hW : WAt V w bs) (hb : bs.length + 8 + s.size ≤ 140737488355328) :
    ∃ V', k20 (.pointer (some ⟨w, 0, none⟩)) (.string s) V = .ok (.tuple #[]) V' ∧ WSt V V' w (bs ++ be s.size 4 ++ sb s) := by
  unfold k20 b20
  simp only [bump_run]
  have hcv : ∀ {β : Type} (f : Value → M β), M.bind (cvBytes V.next 5 (.string s)) f ⟨V.next + 1, V.tree⟩ = f (.slice (some ⟨V.next, 0, none⟩) s.size (unk + 1)) ((⟨V.next + 1, V.tree⟩ : VS).set V.next (.cells true (byteCells s) 5)) := by
    intro β f
    unfold M.bind cvBytes
    simp only [if_pos (show s.size ≤ 9223372036854775807 by omega)]
  rw [hcv]
  generalize hV1 : (⟨V.next + 1, V.tree⟩ : VS).set V.next (.cells true (byteCells s) 5) = V1
  have hn1 : V1.next = V.next + 1 := by rw [← hV1]; rfl
  have hf1 : Fr (fun _ => False) V V1 := by
    rw [← hV1]
    exact ⟨by show V.next ≤ V.next + 1; omega, fun i hi _ => by rw [VS.set_other _ (by omega)]; rfl⟩
  have hW1 : WAt V1 w bs := hW.keep hf1 fun _ _ q => q
  have hx : BAt V1 (.slice (some ⟨V.next, 0, none⟩) s.size (unk + 1)) (sb s) := by
    have := BAt.row (V := V1) (sb s) V.next 0 (unk + 1) true (byteCells s) 5 (by omega) (by rw [← hV1]; exact VS.set_same _ _ _) (by rw [byteCells_sb]; simp) (by rw [byteCells_sb]; exact whole _) (capOk_unk (by rw [sb_length]; omega))
    rwa [sb_length] at this
  have hown1 : ∀ j, WOwn V1 w j → WOwn V w j ∧ j < V.next := by
    intro j hj
    have : WOwn V w j := by
      rcases hj with q | ⟨ty, n, c, q⟩
      · exact .inl q
      · exact .inr ⟨ty, n, c, by rw [← hf1.mem w hW.lt fun q => q]; exact q⟩
    exact ⟨this, wown_lt hW this⟩
  obtain ⟨V2, e1, e2⟩ := bytes_spec hW1 hx (fun i hi q => by
    obtain ⟨o, n, c, hq⟩ := hi
    cases hq
    have := (hown1 _ q).2
    omega) ⟨_, _, _, rfl⟩ (by rw [sb_length]; omega) (by rw [sb_length]; omega)
  rw [sb_length] at e2
  have e1' : f22 [.pointer (some ⟨w, 0, none⟩), .slice (some ⟨V.next, 0, none⟩) s.size (unk + 1)] V1 = .ok (.tuple #[]) V2 := e1
  rw [bind_ok e1']
  refine ⟨V2, rfl, e2.at_, (hf1.mono (S' := WOwn V w) fun _ _ q => q.elim).trans e2.fr fun i hi q => (hown1 i q).1, fun j hj => ?_⟩
  rcases e2.own j hj with q | q
  · exact .inl (hown1 j q).1
  · exact .inr (by omega)
/-- slices.Clone of bytes. -/
theorem clone_spec {V : VS} {x : Value} {d : List Nat} (hx : BAt V x d) (hd : d.length ≤ 140737488355328) :
    ∃ r V', k59 x V = .ok r V' ∧ BAt V' r d ∧ Fr (fun _ => False) V V' ∧ (∀ i, SOwn r i → V.next ≤ i) ∧ (∃ a n c, r = .slice a n c) := by
  unfold k59 b59
  have row : ∀ (b o n c : Nat), x = .slice (some ⟨b, o, none⟩) n c → ∃ r V', (M.bind (bin .slice .eql x (Go.Value.slice none 0 0)) fun t4_1 =>
    condM t4_1 (
    M.pure (Go.Value.slice none 0 0)) (
    M.bind (bump 2) fun b_2 =>
    M.bind (mkLitSl b_2 5 [.int .u8 0] 0 []) fun t5_3 =>
    M.bind (app (b_2 + 1) 5 1 1 t5_3 x) fun t7_4 =>
    M.pure t7_4)) V = .ok r V' ∧ BAt V' r d ∧ Fr (fun _ => False) V V' ∧ (∀ i, SOwn r i → V.next ≤ i) ∧ (∃ a n c, r = .slice a n c) := by
    rintro b o n c rfl
    have hq : bin .slice .eql (.slice (some ⟨b, o, none⟩) n c) (.slice none 0 0) = M.pure (.bool false) := rfl
    rw [hq]
    simp only [bind_pure_run, condM_false, bump_run]
    have hmk : ∀ {β : Type} (f : Value → M β), M.bind (mkLitSl V.next 5 [.int .u8 0] 0 []) f ⟨V.next + 2, V.tree⟩ = f (.slice (some ⟨V.next, 0, none⟩) 0 0) ((⟨V.next + 2, V.tree⟩ : VS).set V.next (.cells true [] 5)) := fun f => rfl
    rw [hmk]
    generalize hV1 : (⟨V.next + 2, V.tree⟩ : VS).set V.next (.cells true [] 5) = V1
    have hn1 : V1.next = V.next + 2 := by rw [← hV1]; rfl
    have hf1 : Fr (fun _ => False) V V1 := by
      rw [← hV1]
      exact ⟨by show V.next ≤ V.next + 2; omega, fun i hi _ => by rw [VS.set_other _ (by omega)]; rfl⟩
    obtain ⟨hcells, hlen⟩ := (hx.keep hf1 fun _ _ q => q).cells
    by_cases h0 : d = []
    · subst h0
      have happ : M.bind (app (V.next + 1) 5 1 1 (.slice (some ⟨V.next, 0, none⟩) 0 0) (.slice (some ⟨b, o, none⟩) n c)) (fun t7_4 => M.pure t7_4) V1 = .ok (.slice (some ⟨V.next, 0, none⟩) 0 0) V1 := by
        unfold M.bind app
        simp only [hcells, hlen, List.length_nil, if_true]
        rfl
      rw [happ]
      exact ⟨_, V1, rfl, .zero _ _ _ (by omega) (capOk_self (by omega)), hf1, (by rintro i ⟨o', n', c', q⟩; cases q; omega), _, _, _, rfl⟩
    · have hd0 : d.length ≠ 0 := fun q => h0 (List.eq_nil_of_length_eq_zero q)
      have happ : M.bind (app (V.next + 1) 5 1 1 (.slice (some ⟨V.next, 0, none⟩) 0 0) (.slice (some ⟨b, o, none⟩) n c)) (fun t7_4 => M.pure t7_4) V1 = .ok (.slice (some ⟨V.next + 1, 0, none⟩) d.length (unk + 1)) (V1.set (V.next + 1) (.cells true (d.map bv) 5)) := by
        unfold M.bind app
        have hold : cellsOf 1 (.slice (some ⟨V.next, 0, none⟩) 0 0) V1 = some [] := by simp [cellsOf]
        have hu : isUnk 0 = false := rfl
        simp only [hcells, hlen, if_neg hd0]
        rw [if_pos ⟨by omega, by omega, by omega, bytes_one _⟩]
        simp only [hold, hu, cond_false, Nat.zero_add, List.nil_append]
        rw [if_neg (by omega)]
        rfl
      rw [happ]
      refine ⟨_, _, rfl, .row d (V.next + 1) 0 (unk + 1) true (d.map bv) 5 (by show V.next + 1 < V1.next; omega) (VS.set_same _ _ _) (by simp) (whole _) (capOk_unk hd), ⟨by show V.next ≤ V1.next; omega, fun i hi _ => ?_⟩, (by rintro i ⟨o', n', c', q⟩; cases q; omega), _, _, _, rfl⟩
      rw [VS.set_other _ (by omega)]
      exact hf1.mem i hi fun q => q
  cases hx with
  | nil => exact ⟨.slice none 0 0, V, rfl, .nil, Fr.refl _ _, (by rintro i ⟨o, n, c, q⟩; cases q), _, _, _, rfl⟩
  | zero b o c hb hk => exact row b o 0 c rfl
  | row _ b o c own cs ty hb hm hl hc hk => exact row b o _ c rfl
theorem done_spec {V : VS} {w : Nat} {bs : List Nat} (hW : WAt V w bs) (hb : bs.length ≤ 140737488355328) :
    ∃ r V', k23 (.pointer (some ⟨w, 0, none⟩)) V = .ok r V' ∧ BAt V' r bs ∧ Fr (fun _ => False) V V' ∧ (∀ i, SOwn r i → V.next ≤ i) ∧ (∃ a n c, r = .slice a n c) := by
  have hs : ∃ s ty, V.mem w = some (.cells true [s] ty) ∧ BAt V s bs := by
    cases hW with
    | nil ty hw h => exact ⟨_, ty, h, .nil⟩
    | row _ ty i hw hi hne h hbm => exact ⟨_, ty, h, .row bs i 0 (unk + 1) true (bs.map bv) 5 hi hbm (by simp) (whole _) (capOk_unk hb)⟩
  obtain ⟨s, ty, h1, h2⟩ := hs
  obtain ⟨r, V', e1, e2⟩ := clone_spec h2 hb
  refine ⟨r, V', ?_, e2⟩
  unfold k23 b23
  have e1' : f59 [s] V = .ok r V' := e1
  simp only [ptr_eql_nil, bind_pure_run, condM_false, nilChk_ptr, addOff_run, Nat.add_zero]
  rw [ld1_run h1 rfl, bind_ok e1']
  rfl
end Go.Vm.Tryd
end
section
set_option linter.unusedVariables false
set_option linter.unusedSimpArgs false
set_option maxRecDepth 100000
namespace Go.Vm.Tryd
open Go Go.Vm

def parcel (name : ByteArray) (seq : Nat) (key : ByteArray) (data : Value) : Value := .agg #[.string name, .int .u64 seq, .string key, data]
def entryB (name : ByteArray) (seq : Nat) (key : ByteArray) (d : List Nat) : List Nat := be name.size 4 ++ sb name ++ be seq 8 ++ (be key.size 4 ++ sb key) ++ (be d.length 4 ++ d)
theorem entryB_length (name : ByteArray) (seq : Nat) (key : ByteArray) (d : List Nat) : (entryB name seq key d).length = 20 + name.size + key.size + d.length := by
  simp [entryB, be_length, sb_length]; omega
/-- Nothing that was there has turned; what is given is new. -/
structure Out (V V' : VS) (r : Value) (bs : List Nat) : Prop where
  at_ : BAt V' r bs
  fr : Fr (fun _ => False) V V'
  own : ∀ i, SOwn r i → V.next ≤ i
  sl : ∃ a n c, r = .slice a n c

theorem lay_spec {V : VS} {name key : ByteArray} {seq : Nat} {data : Value} {d : List Nat} (hd : BAt V data d) (hsl : ∃ a n c, data = .slice a n c) (hseq : seq < 18446744073709551616) (hn : name.size ≤ 1000000) (hk : key.size ≤ 1000000) (hdl : d.length ≤ 1000000) :
    ∃ r V', k8 (parcel name seq key data) V = .ok (.tuple #[r, .int .i64 (if (entryB name seq key d).length ≤ 256 then 0 else 3)]) V' ∧ Out V V' r (if (entryB name seq key d).length ≤ 256 then entryB name seq key d else []) := by
  unfold k8 b8 parcel
  simp only [bump_run, newCells_run, Value.cells]
  have hagg : ∀ {β : Type} (f : Value → M β) (V : VS), M.bind (mkAgg [.slice none 0 0] []) f V = f (.agg #[.slice none 0 0]) V := fun f V => rfl
  rw [hagg]
  simp only [newCells_run, addOff_run, bind_pure', Nat.zero_add]
  -- the box of the argument, the writer
  generalize hA : (⟨V.next + 1, V.tree⟩ : VS).set V.next (.cells true [.string name, .int .u64 seq, .string key, data] 25) = VA
  have hnA : VA.next = V.next + 1 := by rw [← hA]; rfl
  have hmA : VA.mem V.next = some (.cells true [.string name, .int .u64 seq, .string key, data] 25) := by rw [← hA]; exact VS.set_same _ _ _
  have hfA : Fr (fun _ => False) V VA := by
    rw [← hA]
    exact ⟨by show V.next ≤ V.next + 1; omega, fun i hi _ => by rw [VS.set_other _ (by omega)]; rfl⟩
  generalize hB : (⟨VA.next + 1, VA.tree⟩ : VS).set VA.next (.cells true [.slice none 0 0] 66) = VB
  have hnB : VB.next = VA.next + 1 := by rw [← hB]; rfl
  have hfB : Fr (fun _ => False) VA VB := by
    rw [← hB]
    exact ⟨by show VA.next ≤ VA.next + 1; omega, fun i hi _ => by rw [VS.set_other _ (by omega)]; rfl⟩
  have hmB : VB.mem V.next = some (.cells true [.string name, .int .u64 seq, .string key, data] 25) := by rw [hfB.mem V.next (by omega) fun q => q]; exact hmA
  have hWB : WAt VB VA.next [] := .nil 66 (by omega) (by rw [← hB]; exact VS.set_same _ _ _)
  have hownB : ∀ j, WOwn VB VA.next j → j = VA.next := by
    intro j hj
    rcases hj with q | ⟨ty, n, c, q⟩
    · exact q
    · rw [← hB, VS.set_same] at q; cases q
  have hxB : BAt VB data d := (hd.keep hfA fun _ _ q => q).keep hfB fun _ _ q => q
  have hdown : ∀ i, SOwn data i → i < V.next := fun i hi => hd.own_lt hi
  obtain ⟨V1, e1, w1⟩ := text_spec (s := name) hWB (by simp; omega)
  have far : ∀ {Vk : VS} {bs : List Nat}, WSt VB Vk VA.next bs → Vk.mem V.next = some (.cells true [.string name, .int .u64 seq, .string key, data] 25) ∧ BAt Vk data d ∧ ∀ i, SOwn data i → ¬ WOwn Vk VA.next i := by
    intro Vk bs hk'
    refine ⟨?_, hxB.keep hk'.fr fun i hi q => ?_, fun i hi q => ?_⟩
    · rw [hk'.fr.mem V.next (by omega) fun q => by have := hownB _ q; omega]; exact hmB
    · have := hownB _ q; have := hdown i hi; omega
    · have := hdown i hi
      rcases hk'.own i q with q | q
      · have := hownB _ q; omega
      · omega
  have hlen1 : ([] ++ be name.size 4 ++ sb name).length = 4 + name.size := by simp [be_length, sb_length]
  obtain ⟨V2, e2, w2⟩ := u64_spec w1.at_ seq hseq (by omega)
  have w12 := w1.trans w2
  have hlen2 : ([] ++ be name.size 4 ++ sb name ++ be seq 8).length = 12 + name.size := by simp [be_length, sb_length]; omega
  obtain ⟨V3, e3, w3⟩ := text_spec (s := key) w12.at_ (by omega)
  have w123 := w12.trans w3
  have hlen3 : ([] ++ be name.size 4 ++ sb name ++ be seq 8 ++ be key.size 4 ++ sb key).length = 16 + name.size + key.size := by simp [be_length, sb_length]; omega
  obtain ⟨V4, e4, w4⟩ := bytes_spec w123.at_ (far w123).2.1 (far w123).2.2 hsl (by omega) (by omega)
  have w1234 := w123.trans w4
  have hE : [] ++ be name.size 4 ++ sb name ++ be seq 8 ++ be key.size 4 ++ sb key ++ be d.length 4 ++ d = entryB name seq key d := by simp [entryB]
  rw [hE] at w1234
  have hlen := entryB_length name seq key d
  obtain ⟨r, V5, e5, o1, o2, o3, o4⟩ := done_spec w1234.at_ (by omega)
  have e1' : f20 [.pointer (some ⟨VA.next, 0, none⟩), .string name] VB = .ok (.tuple #[]) V1 := e1
  have e2' : f21 [.pointer (some ⟨VA.next, 0, none⟩), .int .u64 seq] V1 = .ok (.tuple #[]) V2 := e2
  have e3' : f20 [.pointer (some ⟨VA.next, 0, none⟩), .string key] V2 = .ok (.tuple #[]) V3 := e3
  have e4' : f22 [.pointer (some ⟨VA.next, 0, none⟩), data] V3 = .ok (.tuple #[]) V4 := e4
  have e5' : f23 [.pointer (some ⟨VA.next, 0, none⟩)] V4 = .ok r V5 := e5
  have hnB2 : V.next ≤ VB.next := by omega
  have hfr : Fr (fun _ => False) V V5 := by
    refine ⟨Nat.le_trans hnB2 (Nat.le_trans w1234.fr.next o2.next), fun i hi _ => ?_⟩
    have h4 : i < V4.next := Nat.lt_of_lt_of_le hi (Nat.le_trans hnB2 w1234.fr.next)
    rw [o2.mem i h4 fun q => q, w1234.fr.mem i (by omega) (fun q => by have := hownB _ q; omega), hfB.mem i (by omega) fun q => q, hfA.mem i hi fun q => q]
  have hown5 : ∀ i, SOwn r i → V.next ≤ i := fun i hi => Nat.le_trans (Nat.le_trans hnB2 w1234.fr.next) (o3 i hi)
  rw [ld1_run (v := .string name) hmB rfl, bind_ok e1', ld1_run (v := .int .u64 seq) (far w1).1 rfl, bind_ok e2', ld1_run (v := .string key) (far w12).1 rfl, bind_ok e3', ld1_run (v := data) (far w123).1 rfl, bind_ok e4', bind_ok e5']
  obtain ⟨a, n, c, rfl⟩ := o4
  have hn' : n = (entryB name seq key d).length := o1.cells.2
  subst hn'
  simp only [lenSl_run, bind_pure_run, bin_leq]
  by_cases hle : (entryB name seq key d).length ≤ 256
  · have : decide (((entryB name seq key d).length : Int) ≤ 256) = true := by simp; omega
    rw [this]
    simp only [condM_true, if_pos hle]
    exact ⟨_, V5, rfl, o1, hfr, hown5, _, _, _, rfl⟩
  · have : decide (((entryB name seq key d).length : Int) ≤ 256) = false := by simp; omega
    rw [this]
    simp only [condM_false, if_neg hle]
    exact ⟨_, V5, rfl, .nil, hfr, (by rintro i ⟨o, n, c, q⟩; cases q), _, _, _, rfl⟩
end Go.Vm.Tryd
end
section
set_option linter.unusedVariables false
set_option linter.unusedSimpArgs false
set_option maxRecDepth 100000
namespace Go.Vm.Tryd
open Go Go.Vm

/-- A row of bytes that grows: nil, or a block of its own. -/
inductive OAt (V : VS) : Value → List Nat → Prop where
  | nil : OAt V (.slice none 0 0) []
  | row (bs : List Nat) (i : Nat) (hi : i < V.next) (hm : V.mem i = some (.cells true (bs.map bv) 5)) : OAt V (.slice (some ⟨i, 0, none⟩) bs.length (unk + 1)) bs
theorem OAt.bat {V : VS} {s : Value} {bs : List Nat} (h : OAt V s bs) (hb : bs.length ≤ 140737488355328) : BAt V s bs := by
  cases h with
  | nil => exact .nil
  | row _ i hi hm => exact .row bs i 0 (unk + 1) true (bs.map bv) 5 hi hm (by simp) (whole _) (capOk_unk hb)
theorem OAt.own_lt {V : VS} {s : Value} {bs : List Nat} (h : OAt V s bs) {i : Nat} (hi : SOwn s i) : i < V.next := by
  obtain ⟨o, n, c, rfl⟩ := hi
  cases h; assumption
theorem OAt.keep {V V' : VS} {s : Value} {bs : List Nat} (h : OAt V s bs) {S : Nat → Prop} (hf : Fr S V V') (hs : ∀ i, SOwn s i → ¬ S i) : OAt V' s bs := by
  cases h with
  | nil => exact .nil
  | row _ i hi hm => exact .row bs i (Nat.lt_of_lt_of_le hi hf.next) (by rw [hf.mem i hi (hs i ⟨_, _, _, rfl⟩)]; exact hm)
structure OSt (V V' : VS) (s s' : Value) (bs : List Nat) : Prop where
  at_ : OAt V' s' bs
  fr : Fr (SOwn s) V V'
  own : ∀ j, SOwn s' j → SOwn s j ∨ V.next ≤ j
theorem OSt.trans {A B C : VS} {s t u : Value} {bs cs : List Nat} (h : OSt A B s t bs) (k : OSt B C t u cs) : OSt A C s u cs :=
  ⟨k.at_, h.fr.trans k.fr fun i hi q => (h.own i q).resolve_right (by omega), fun j hj => by
    rcases k.own j hj with q | q
    · exact h.own j q
    · exact .inr (Nat.le_trans h.fr.next q)⟩
theorem sown_slice {a : Option Addr} {n c i j : Nat} {o : Nat} (h : SOwn (.slice (some ⟨i, o, none⟩) n c) j) : j = i := by
  obtain ⟨o', n', c', q⟩ := h
  cases q
  rfl
/-- 'append(s, x..)'. -/
theorem app_own {V : VS} {s x : Value} {bs d : List Nat} {id : Nat} (hs : OAt V s bs) (hx : BAt V x d) (hid : id < V.next) (hno : ¬ SOwn s id) (hb : bs.length + d.length ≤ 140737488355328) {β : Type} (f : Value → M β) :
    ∃ s' V', M.bind (app id 5 1 1 s x) f V = f s' V' ∧ OAt V' s' (bs ++ d) ∧ Fr (fun i => SOwn s i ∨ i = id) V V' ∧ (∀ j, SOwn s' j → SOwn s j ∨ j = id) ∧ V'.next = V.next := by
  obtain ⟨hcells, hlen⟩ := hx.cells
  by_cases h0 : d = []
  · subst h0
    have happ : ∀ t : Value, (∃ a n c, t = .slice a n c) → M.bind (app id 5 1 1 t x) f V = f t V := by
      rintro t ⟨a, n, c, rfl⟩
      unfold M.bind app
      simp only [hcells, hlen, List.length_nil, if_true]
    refine ⟨s, V, happ s ?_, by rw [List.append_nil]; exact hs, Fr.refl _ _, fun j hj => .inl hj, rfl⟩
    cases hs with
    | nil => exact ⟨_, _, _, rfl⟩
    | row _ i hi hm => exact ⟨_, _, _, rfl⟩
  · have hd0 : d.length ≠ 0 := fun q => h0 (List.eq_nil_of_length_eq_zero q)
    cases hs with
    | nil =>
      rw [app_nil hcells (by omega) (by omega) (bytes_one _), hlen]
      exact ⟨_, _, rfl, .row d id hid (VS.set_same _ _ _), Fr.set fun _ => .inr rfl, fun j hj => .inr (sown_slice (a := none) hj), rfl⟩
    | row _ i hi hm =>
      rw [app_row hcells (by omega) (by omega) (bytes_one _) hm (by simp), hlen]
      refine ⟨_, _, rfl, ?_, ⟨Nat.le_refl _, fun q hq hn => ?_⟩, fun j hj => .inr (sown_slice (a := none) hj), rfl⟩
      · have := OAt.row (V := (V.set i .dead).set id (.cells true (bs.map bv ++ d.map bv) 5)) (bs ++ d) id hid (by rw [VS.set_same]; simp)
        simpa using this
      · rw [VS.set_other _ fun h => hn (.inr h), VS.set_other _ fun h => hn (.inl (by rw [h]; exact ⟨_, _, _, rfl⟩))]

theorem div_loop {V : VS} (n i : Nat) (hn : n < 18446744073709551616) (hi : i < 100) {G : List Value → M J} {lim : Value} (hlim : lim = .int .i64 (i : Int))
    (hG : G = fun vs_4 =>
    M.bind (bin (.cell .int) .lss (nth vs_4 1) lim) fun t19_5 =>
    condM t19_5 (
    M.bind (bin (.cell .int) .quo (nth vs_4 0) (Go.Value.int Go.IntKind.u64 256)) fun t23_6 =>
    M.bind (bin (.cell .int) .add (nth vs_4 1) (Go.Value.int Go.IntKind.i64 1)) fun t21_7 =>
    M.pure (.norm [t23_6, t21_7])) (
    M.pure (.exit 2 [(nth vs_4 0)]))) : loopM G [.int .u64 (n : Int), .int .i64 0] V = .ok (.exit 2 [.int .u64 ((n / 256 ^ i : Nat) : Int)]) V := by
  refine loop_rule (Q := fun r => r = .ok (.exit 2 [.int .u64 ((n / 256 ^ i : Nat) : Int)]) V)
    (fun k vs V1 => ∃ j : Nat, k = i - j ∧ j ≤ i ∧ vs = [.int .u64 ((n / 256 ^ j : Nat) : Int), .int .i64 (j : Int)] ∧ V1 = V) ?_ (k := i) ⟨0, rfl, by omega, by simp, rfl⟩ (by unfold FUEL; omega)
  rintro k vs V1 ⟨j, rfl, hj, rfl, rfl⟩
  subst hG
  subst hlim
  by_cases hlt : j < i
  · left
    have hq : IntKind.u64.wrap (Int.tdiv ((n / 256 ^ j : Nat) : Int) 256) = ((n / 256 ^ (j + 1) : Nat) : Int) := by
      have h1 : Int.tdiv ((n / 256 ^ j : Nat) : Int) 256 = ((n / 256 ^ j / 256 : Nat) : Int) := by
        rw [Int.tdiv_eq_ediv_of_nonneg (Int.natCast_nonneg _)]; rfl
      rw [h1, Nat.div_div_eq_div_mul, ← Nat.pow_succ]
      exact wrap_u64 (Int.natCast_nonneg _) (by
        have : n / 256 ^ j.succ ≤ n := Nat.div_le_self _ _
        omega)
    have hw1 : IntKind.i64.wrap ((j : Int) + 1) = ((j + 1 : Nat) : Int) := by rw [wrap_i64 (by omega) (by omega)]; omega
    refine ⟨_, V1, i - (j + 1), ?_, by omega, j + 1, rfl, by omega, rfl, rfl⟩
    simp only [nth_zero, nth_succ, bin_lss, bind_pure_run]
    rw [show decide ((j : Int) < (i : Int)) = true by simp; omega]
    simp only [condM_true, bin_quo _ _ (show (256 : Int) ≠ 0 by omega), bind_pure_run, hq, bin_add, hw1, pure_run]
  · right
    have : j = i := by omega
    subst this
    have hrun : (M.bind (bin (.cell .int) .lss (nth [.int .u64 ((n / 256 ^ j : Nat) : Int), .int .i64 (j : Int)] 1) (.int .i64 (j : Int))) fun t19_5 =>
    condM t19_5 (
    M.bind (bin (.cell .int) .quo (nth [.int .u64 ((n / 256 ^ j : Nat) : Int), .int .i64 (j : Int)] 0) (Go.Value.int Go.IntKind.u64 256)) fun t23_6 =>
    M.bind (bin (.cell .int) .add (nth [.int .u64 ((n / 256 ^ j : Nat) : Int), .int .i64 (j : Int)] 1) (Go.Value.int Go.IntKind.i64 1)) fun t21_7 =>
    M.pure (J.norm [t23_6, t21_7])) (
    M.pure (.exit 2 [(nth [.int .u64 ((n / 256 ^ j : Nat) : Int), .int .i64 (j : Int)] 0)]))) V1 = .ok (.exit 2 [.int .u64 ((n / 256 ^ j : Nat) : Int)]) V1 := by
      simp only [nth_zero, nth_succ, bin_lss, bind_pure_run]
      rw [show decide ((j : Int) < (j : Int)) = false by simp]
      rfl
    refine ⟨fun vs' V' h => ?_, hrun⟩
    have h' := hrun.symm.trans h
    cases h'
theorem put_spec {V : VS} {s : Value} {bs : List Nat} (hs : OAt V s bs) (n size : Nat) (hn : n < 18446744073709551616) (h1 : 1 ≤ size) (h8 : size ≤ 8) (hb : bs.length + 8 ≤ 140737488355328) :
    ∃ s' V', k24 s (.int .u64 (n : Int)) (.int .i64 (size : Int)) V = .ok s' V' ∧ OSt V V' s s' (bs ++ be n size) := by
  unfold k24 b24
  have hw : IntKind.i64.wrap ((size : Int) - 1) = ((size : Int) - 1) := wrap_i64 (by omega) (by omega)
  simp only [bin_sub, bind_pure_run, hw]
  suffices hloop : ∃ s' V', loopM (fun vs_2 =>
    M.bind (bin (.cell .int) .geq (nth vs_2 1) (Go.Value.int Go.IntKind.i64 0)) fun t13_3 =>
    condM t13_3 (
    M.bind (loopM (fun vs_4 =>
    M.bind (bin (.cell .int) .lss (nth vs_4 1) (nth vs_2 1)) fun t19_5 =>
    condM t19_5 (
    M.bind (bin (.cell .int) .quo (nth vs_4 0) (Go.Value.int Go.IntKind.u64 256)) fun t23_6 =>
    M.bind (bin (.cell .int) .add (nth vs_4 1) (Go.Value.int Go.IntKind.i64 1)) fun t21_7 =>
    M.pure (.norm [t23_6, t21_7])) (
    M.pure (.exit 2 [(nth vs_4 0)]))) [(.int .u64 (n : Int)), (Go.Value.int Go.IntKind.i64 0)]) (onJ (fun _ => M.stuck) (fun id_8 vs_8 =>
    cond (Nat.beq id_8 2) (
    M.bind (bump 3) fun b_9 =>
    M.bind (bin (.cell .int) .rem (nth vs_8 0) (Go.Value.int Go.IntKind.u64 256)) fun t26_10 =>
    M.bind (cvInt .u8 t26_10) fun t27_11 =>
    M.bind (mkLitSl (b_9 + 1) 5 [.int .u8 0] 1 [(0, 1, t27_11)]) fun t28_12 =>
    M.bind (app (b_9 + 2) 5 1 1 (nth vs_2 0) t28_12) fun t29_13 =>
    M.bind (bin (.cell .int) .sub (nth vs_2 1) (Go.Value.int Go.IntKind.i64 1)) fun t15_14 =>
    M.pure (J.norm [t29_13, t15_14])) (M.stuck)) (fun _ => M.stuck))) (
    M.pure (.exit 0 [(nth vs_2 0)]))) [s, .int .i64 ((size : Int) - 1)] V = .ok (.exit 0 [s']) V' ∧ OSt V V' s s' (bs ++ be n size) by
    obtain ⟨s', V', e1, e2⟩ := hloop
    simp only [bin_sub] at e1
    rw [bind_ok e1]
    exact ⟨s', V', rfl, e2⟩
  refine loop_rule (Q := fun r => ∃ s' V', r = .ok (.exit 0 [s']) V' ∧ OSt V V' s s' (bs ++ be n size))
    (fun k vs V1 => ∃ (j : Nat) (s1 : Value) (acc : List Nat), k = j ∧ j ≤ size ∧ vs = [s1, .int .i64 ((j : Int) - 1)] ∧ OSt V V1 s s1 acc ∧ acc ++ be n j = bs ++ be n size) ?_ (k := size) ⟨size, s, bs, rfl, Nat.le_refl _, rfl, ⟨hs, Fr.refl _ _, fun j hj => .inl hj⟩, rfl⟩ (by unfold FUEL; omega)
  rintro k vs V1 ⟨j, s1, acc, hkj, hj, rfl, hst, hacc⟩
  subst hkj
  cases k with
  | zero =>
    right
    have hrun : ∀ (X : M J), (M.bind (bin (.cell .int) .geq (nth [s1, .int .i64 (((0 : Nat) : Int) - 1)] 1) (Go.Value.int Go.IntKind.i64 0)) fun t13_3 => condM t13_3 X (M.pure (.exit 0 [(nth [s1, .int .i64 (((0 : Nat) : Int) - 1)] 0)]))) V1 = .ok (.exit 0 [s1]) V1 := fun X => rfl
    refine ⟨fun vs' V' h => ?_, s1, V1, hrun _, ?_⟩
    · have h' := (hrun _).symm.trans h
      cases h'
    · have : acc = bs ++ be n size := by simpa [be] using hacc
      rw [← this]; exact hst
  | succ j =>
    left
    have hlen : acc.length + (j + 1) = bs.length + size := by
      have := congrArg List.length hacc
      simpa [be_length] using this
    have hge : decide ((((j + 1 : Nat) : Int) - 1) ≥ 0) = true := by rw [decide_eq_true_eq]; omega
    have hjj : (((j + 1 : Nat) : Int) - 1) = (j : Int) := by omega
    have hdl := div_loop (V := V1) n j hn (by omega) (lim := .int .i64 (((j + 1 : Nat) : Int) - 1)) (by rw [hjj]) rfl
    have hrem : Int.tmod ((n / 256 ^ j : Nat) : Int) 256 = ((n / 256 ^ j % 256 : Nat) : Int) := by
      rw [Int.tmod_eq_emod_of_nonneg (Int.natCast_nonneg _)]; rfl
    have hw8 : IntKind.u8.wrap ((n / 256 ^ j % 256 : Nat) : Int) = ((n / 256 ^ j % 256 : Nat) : Int) := by rw [wrap_u8, Nat.mod_mod]
    generalize hV2 : (⟨V1.next + 3, V1.tree⟩ : VS).set (V1.next + 1) (.cells true [bv (n / 256 ^ j % 256)] 5) = V2
    have hn2 : V2.next = V1.next + 3 := by rw [← hV2]; rfl
    have hf2 : Fr (fun _ => False) V1 V2 := by
      rw [← hV2]
      exact ⟨by show V1.next ≤ V1.next + 3; omega, fun i hi _ => by rw [VS.set_other _ (by omega)]; rfl⟩
    have hs2 : OAt V2 s1 acc := hst.at_.keep hf2 fun _ _ q => q
    have hx2 : BAt V2 (.slice (some ⟨V1.next + 1, 0, none⟩) 1 1) [n / 256 ^ j % 256] :=
      .row [n / 256 ^ j % 256] (V1.next + 1) 0 1 true [bv (n / 256 ^ j % 256)] 5 (by omega) (by rw [← hV2]; exact VS.set_same _ _ _) (by simp) rfl (capOk_self (by simp))
    obtain ⟨s', V', e1, e2, e3, e4, e5⟩ := app_own (id := V1.next + 2) hs2 hx2 (by omega) (fun q => by have := hst.at_.own_lt q; omega) (by simp; omega) (fun t29_13 =>
      M.bind (bin (.cell .int) .sub (.int .i64 (((j + 1 : Nat) : Int) - 1)) (Go.Value.int Go.IntKind.i64 1)) fun t15_14 => M.pure (J.norm [t29_13, t15_14]))
    have hmk : ∀ {β : Type} (f : Value → M β), M.bind (mkLitSl (V1.next + 1) 5 [.int .u8 0] 1 [(0, 1, .int .u8 ((n / 256 ^ j % 256 : Nat) : Int))]) f ⟨V1.next + 3, V1.tree⟩ = f (.slice (some ⟨V1.next + 1, 0, none⟩) 1 1) V2 := by
      intro β f
      rw [← hV2]
      rfl
    refine ⟨[s', .int .i64 ((j : Int) - 1)], V', j, ?_, by omega, j, s', acc ++ [n / 256 ^ j % 256], rfl, by omega, rfl, ?_, by rw [← hacc, be_cons, List.append_assoc]; rfl⟩
    · simp only [nth_zero, nth_succ, bin_geq, bind_pure_run, hge, condM_true]
      rw [bind_ok hdl]
      simp only [onJ_exit]
      rw [show Nat.beq 2 2 = true from rfl]
      simp only [cond_true, bump_run, nth_zero, bin_rem _ _ (show (256 : Int) ≠ 0 by omega), bind_pure_run, hrem, cvInt_run, hw8]
      rw [hmk]
      refine e1.trans ?_
      simp only [bin_sub, bind_pure_run, hjj, pure_run]
      rw [wrap_i64 (by omega) (by omega)]
    · refine hst.trans ⟨e2, (hf2.mono (S' := SOwn s1) fun _ _ q => q.elim).trans e3 fun i hi q => ?_, fun i hi => ?_⟩
      · rcases q with q | q
        · exact q
        · omega
      · rcases e4 i hi with q | q
        · exact .inl q
        · exact .inr (by omega)
end Go.Vm.Tryd
end
section
set_option linter.unusedVariables false
set_option linter.unusedSimpArgs false
set_option maxRecDepth 100000
namespace Go.Vm.Tryd
open Go Go.Vm

theorem putBytes_spec {V : VS} {s x : Value} {bs d : List Nat} (hs : OAt V s bs) (hx : BAt V x d) (hsl : ∃ a n c, x = .slice a n c) (hno : ∀ i, SOwn x i → ¬ SOwn s i) (hd : d.length < 18446744073709551616) (hb : bs.length + 8 + d.length ≤ 140737488355328) :
    ∃ s' V', k25 s x V = .ok s' V' ∧ OSt V V' s s' (bs ++ be d.length 4 ++ d) := by
  obtain ⟨a, n, c, rfl⟩ := hsl
  have hn : n = d.length := hx.cells.2
  subst hn
  unfold k25 b25
  simp only [bump_run, lenSl_run, bind_pure_run, cvInt_run, wrap_u64 (Int.natCast_nonneg d.length) (by omega)]
  have hb0 : Fr (fun _ => False) V ⟨V.next + 2, V.tree⟩ := Fr.bump _ V 2
  have hs0 : OAt ⟨V.next + 2, V.tree⟩ s bs := hs.keep hb0 fun _ _ q => q
  obtain ⟨s1, V1, e1, o1⟩ := put_spec hs0 d.length 4 hd (by omega) (by omega) (by omega)
  have e1' : f24 [s, .int .u64 d.length, .int .i64 4] ⟨V.next + 2, V.tree⟩ = .ok s1 V1 := e1
  rw [bind_ok e1']
  have hx1 : BAt V1 (.slice a d.length c) d := (hx.keep hb0 fun _ _ q => q).keep o1.fr fun i hi q => hno i hi q
  have hn1 : V.next + 2 ≤ V1.next := o1.fr.next
  obtain ⟨s2, V2, e2, q1, q2, q3, q4⟩ := app_own (id := V.next + 1) o1.at_ hx1 (by omega) (fun q => by
    rcases o1.own _ q with q | q
    · have := hs.own_lt q; omega
    · have : V.next + 2 ≤ V.next + 1 := q; omega) (by simp [be_length]; omega) (fun t11_5 => M.pure t11_5)
  refine ⟨s2, V2, e2, q1, ?_, fun j hj => ?_⟩
  · have f0 : Fr (SOwn s) V V1 := (hb0.mono (S' := SOwn s) fun _ _ q => q.elim).trans o1.fr fun i hi q => q
    refine f0.trans q2 fun i hi q => ?_
    rcases q with q | q
    · rcases o1.own i q with q | q
      · exact q
      · have : V.next + 2 ≤ i := q; omega
    · omega
  · rcases q3 j hj with q | q
    · rcases o1.own j q with q | q
      · exact .inl q
      · exact .inr (by have : V.next + 2 ≤ j := q; omega)
    · exact .inr (by omega)
theorem same_run {β : Type} {m : M Value} {u : Value} {V V1 : VS} (h : m V = .ok u V1) (he : eqVal u u = true) (k : M β) : same m u k V = k V := by
  unfold same; rw [h]; simp only [he, cond_true]
theorem ld1_at {b o : Nat} {own : Bool} {cs : List Value} {ty : TypeId} {v : Value} {V : VS} (hm : V.mem b = some (.cells own cs ty)) (hv : cs[o]? = some v) : ld1 (.pointer (some ⟨b, o, none⟩)) V = .ok v V := by
  unfold ld1; simp only [hm, hv]
theorem eqVal_int (k : IntKind) (n : Int) : eqVal (.int k n) (.int k n) = true := by simp [eqVal, eqFlat]
theorem eqVal_slice {V : VS} {s : Value} {bs : List Nat} (h : BAt V s bs) : eqVal s s = true := by
  cases h <;> simp [eqVal, eqFlat]
theorem cvBytes_run {V : VS} {id : Nat} {s : ByteArray} (hs : s.size ≤ 1000000) {β : Type} (f : Value → M β) : M.bind (cvBytes id 5 (.string s)) f V = f (.slice (some ⟨id, 0, none⟩) s.size (unk + 1)) (V.set id (.cells true (byteCells s) 5)) := by
  unfold M.bind cvBytes
  simp only [if_pos (show s.size ≤ 9223372036854775807 by omega)]
theorem bytesOf_string {V : VS} {id : Nat} {s : ByteArray} (hid : id < V.next) (hsz : s.size ≤ 1000000) : BAt (V.set id (.cells true (byteCells s) 5)) (.slice (some ⟨id, 0, none⟩) s.size (unk + 1)) (sb s) := by
  have := BAt.row (V := V.set id (.cells true (byteCells s) 5)) (sb s) id 0 (unk + 1) true (byteCells s) 5 hid (VS.set_same _ _ _) (by rw [byteCells_sb]; simp) (by rw [byteCells_sb]; exact whole _) (capOk_unk (by rw [sb_length]; omega))
  rwa [sb_length] at this

theorem entry_spec {V : VS} {name key : ByteArray} {seq : Nat} {data : Value} {d : List Nat} (hd : BAt V data d) (hsl : ∃ a n c, data = .slice a n c) (hseq : seq < 18446744073709551616) (hn : name.size ≤ 1000000) (hk : key.size ≤ 1000000) (hdl : d.length ≤ 1000000) :
    ∃ r V', k9 (parcel name seq key data) V = .ok (.tuple #[r, .int .i64 (if (entryB name seq key d).length ≤ 256 then 0 else 3)]) V' ∧ Out V V' r (if (entryB name seq key d).length ≤ 256 then entryB name seq key d else []) := by
  unfold k9 b9 parcel
  simp only [bump_run, newCells_run, Value.cells, addOff_run, bind_pure', Nat.zero_add, bumpC_run]
  generalize hA : (⟨V.next + 1, V.tree⟩ : VS).set V.next (.cells true [.string name, .int .u64 seq, .string key, data] 25) = VA
  have hnA : VA.next = V.next + 1 := by rw [← hA]; rfl
  have hmA : VA.mem V.next = some (.cells true [.string name, .int .u64 seq, .string key, data] 25) := by rw [← hA]; exact VS.set_same _ _ _
  have hfA : Fr (fun _ => False) V VA := by
    rw [← hA]
    exact ⟨by show V.next ≤ V.next + 1; omega, fun i hi _ => by rw [VS.set_other _ (by omega)]; rfl⟩
  generalize hB0 : (⟨VA.next + 1, clearT VA.next 1 VA.tree⟩ : VS) = VB0
  have hnB0 : VB0.next = VA.next + 1 := by rw [← hB0]
  have hfB0 : Fr (fun _ => False) VA VB0 := by rw [← hB0]; exact Fr.bumpC _ _ _
  have hmB0 : VB0.mem V.next = some (.cells true [.string name, .int .u64 seq, .string key, data] 25) := by rw [hfB0.mem V.next (by omega) fun q => q]; exact hmA
  rw [ld1_run (v := .string name) hmB0 rfl, cvBytes_run hn]
  generalize hB : VB0.set VA.next (.cells true (byteCells name) 5) = VB
  have hnB : VB.next = VA.next + 1 := by rw [← hB]; exact hnB0
  have hfB : Fr (fun _ => False) VA VB := by
    rw [← hB]
    exact ⟨by show VA.next ≤ VB0.next; omega, fun i hi _ => by rw [VS.set_other _ (by omega)]; exact hfB0.mem i hi fun q => q⟩
  have hmB : VB.mem V.next = some (.cells true [.string name, .int .u64 seq, .string key, data] 25) := by rw [hfB.mem V.next (by omega) fun q => q]; exact hmA
  have hxn : BAt VB (.slice (some ⟨VA.next, 0, none⟩) name.size (unk + 1)) (sb name) := by rw [← hB]; exact bytesOf_string (by omega) hn
  obtain ⟨s1, V1, e1, o1⟩ := putBytes_spec (V := VB) (s := .slice none 0 0) (bs := []) .nil hxn ⟨_, _, _, rfl⟩ (by rintro i _ ⟨o, n, c, q⟩; cases q) (by rw [sb_length]; omega) (by simp [sb_length]; omega)
  rw [sb_length] at o1
  have nilo : ∀ j, ¬ SOwn (.slice none 0 0) j := by rintro j ⟨o, n, c, q⟩; cases q
  have e1' : f25 [.slice none 0 0, .slice (some ⟨VA.next, 0, none⟩) name.size (unk + 1)] VB = .ok s1 V1 := e1
  have fr1 : Fr (fun _ => False) VB V1 := o1.fr.mono fun i _ q => (nilo i q).elim
  have hm1 : V1.mem V.next = some (.cells true [.string name, .int .u64 seq, .string key, data] 25) := by rw [fr1.mem V.next (by omega) fun q => q]; exact hmB
  rw [ld1_run (v := .int .u64 seq) hmB rfl, bind_ok e1', same_run (ld1_at (v := .int .u64 seq) hm1 rfl) (eqVal_int ..)]
  have hlen1 : ([] ++ be name.size 4 ++ sb name).length = 4 + name.size := by simp [be_length, sb_length]
  obtain ⟨s2, V2, e2, o2⟩ := put_spec o1.at_ seq 8 hseq (by omega) (by omega) (by omega)
  have o12 := o1.trans o2
  have hlen2 : ([] ++ be name.size 4 ++ sb name ++ be seq 8).length = 12 + name.size := by simp [be_length, sb_length]; omega
  have e2' : f24 [s1, .int .u64 seq, .int .i64 8] V1 = .ok s2 V2 := e2
  rw [bind_ok e2']
  have hs2own : ∀ j, SOwn s2 j → VB.next ≤ j := fun j hj => (o12.own j hj).resolve_left (nilo j)
  have fr2 : Fr (fun _ => False) VB V2 := o12.fr.mono fun i _ q => (nilo i q).elim
  have hn2 : VB.next ≤ V2.next := fr2.next
  generalize hC0 : (⟨V2.next + 1, clearT V2.next 1 V2.tree⟩ : VS) = VC0
  have hnC0 : VC0.next = V2.next + 1 := by rw [← hC0]
  have hfC0 : Fr (fun _ => False) V2 VC0 := by rw [← hC0]; exact Fr.bumpC _ _ _
  have hmC0 : VC0.mem V.next = some (.cells true [.string name, .int .u64 seq, .string key, data] 25) := by rw [hfC0.mem V.next (by omega) fun q => q, fr2.mem V.next (by omega) fun q => q]; exact hmB
  rw [bumpC_run, hC0, ld1_run (v := .string key) hmC0 rfl, cvBytes_run hk]
  generalize hC : VC0.set V2.next (.cells true (byteCells key) 5) = VC
  have hnC : VC.next = V2.next + 1 := by rw [← hC]; exact hnC0
  have hfC : Fr (fun _ => False) V2 VC := by
    rw [← hC]
    exact ⟨by show V2.next ≤ VC0.next; omega, fun i hi _ => by rw [VS.set_other _ (by omega)]; exact hfC0.mem i hi fun q => q⟩
  have hmC : VC.mem V.next = some (.cells true [.string name, .int .u64 seq, .string key, data] 25) := by rw [hfC.mem V.next (by omega) fun q => q, fr2.mem V.next (by omega) fun q => q]; exact hmB
  have hxk : BAt VC (.slice (some ⟨V2.next, 0, none⟩) key.size (unk + 1)) (sb key) := by rw [← hC]; exact bytesOf_string (by omega) hk
  have hsC : OAt VC s2 _ := o12.at_.keep hfC fun _ _ q => q
  obtain ⟨s3, V3, e3, o3⟩ := putBytes_spec hsC hxk ⟨_, _, _, rfl⟩ (fun i hi q => by
    have h1 : i = V2.next := sown_slice (a := none) hi
    have h2 := o12.at_.own_lt q
    omega) (by rw [sb_length]; omega) (by rw [sb_length]; omega)
  rw [sb_length] at o3
  have e3' : f25 [s2, .slice (some ⟨V2.next, 0, none⟩) key.size (unk + 1)] VC = .ok s3 V3 := e3
  have dataVC : BAt VC data d := (((hd.keep hfA fun _ _ q => q).keep hfB fun _ _ q => q).keep fr2 fun _ _ q => q).keep hfC fun _ _ q => q
  have hdown : ∀ i, SOwn data i → i < V.next := fun i hi => hd.own_lt hi
  have hdV3 : BAt V3 data d := dataVC.keep o3.fr fun i hi q => by have := hs2own i q; have := hdown i hi; omega
  have hm3 : V3.mem V.next = some (.cells true [.string name, .int .u64 seq, .string key, data] 25) := by
    rw [o3.fr.mem V.next (by omega) fun q => by have := hs2own _ q; omega]; exact hmC
  rw [ld1_run (v := data) hmC rfl, bind_ok e3', same_run (ld1_at (v := data) hm3 rfl) (eqVal_slice hd)]
  have hlen3 : ([] ++ be name.size 4 ++ sb name ++ be seq 8 ++ be key.size 4 ++ sb key).length = 16 + name.size + key.size := by simp [be_length, sb_length]; omega
  obtain ⟨s4, V4, e4, o4⟩ := putBytes_spec o3.at_ hdV3 hsl (fun i hi q => by
    have := hdown i hi
    rcases o3.own i q with q | q
    · have := hs2own i q; omega
    · omega) (by omega) (by omega)
  have e4' : f25 [s3, data] V3 = .ok s4 V4 := e4
  rw [bind_ok e4']
  have hE : [] ++ be name.size 4 ++ sb name ++ be seq 8 ++ be key.size 4 ++ sb key ++ be d.length 4 ++ d = entryB name seq key d := by simp [entryB]
  have o34 := o3.trans o4
  rw [hE] at o34
  have hown4 : ∀ i, SOwn s4 i → V.next ≤ i := fun i hi => by
    rcases o34.own i hi with q | q
    · have := hs2own i q; omega
    · omega
  have hfr : Fr (fun _ => False) V V4 := by
    refine ⟨by have := o34.fr.next; omega, fun i hi _ => ?_⟩
    rw [o34.fr.mem i (by omega) fun q => by have := hs2own i q; omega, hfC.mem i (by omega) fun q => q, fr2.mem i (by omega) fun q => q, hfB.mem i (by omega) fun q => q, hfA.mem i hi fun q => q]
  have hb4 := o34.at_.bat (by rw [entryB_length]; omega)
  have hsl4 : ∃ a n c, s4 = .slice a n c := by
    have h := o34.at_
    generalize entryB name seq key d = E at h
    cases h <;> exact ⟨_, _, _, rfl⟩
  obtain ⟨a, n, c, rfl⟩ := hsl4
  have hn' : n = (entryB name seq key d).length := hb4.cells.2
  subst hn'
  simp only [lenSl_run, bind_pure_run, bin_gtr]
  by_cases hle : (entryB name seq key d).length ≤ 256
  · have : decide (((entryB name seq key d).length : Int) > 256) = false := by rw [decide_eq_false_iff_not]; omega
    rw [this]
    simp only [condM_false, if_pos hle]
    exact ⟨_, V4, rfl, hb4, hfr, hown4, _, _, _, rfl⟩
  · have : decide (((entryB name seq key d).length : Int) > 256) = true := by rw [decide_eq_true_eq]; omega
    rw [this]
    simp only [condM_true, if_neg hle]
    exact ⟨_, V4, rfl, .nil, hfr, (by rintro i ⟨o, n, c, q⟩; cases q), _, _, _, rfl⟩
end Go.Vm.Tryd
end
