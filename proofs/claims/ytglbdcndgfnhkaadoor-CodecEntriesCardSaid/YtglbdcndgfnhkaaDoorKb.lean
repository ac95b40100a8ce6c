/- The virtual machine's operations, all of them, against the model's 'Oper.wp'. -/
import Derived.Test.YtglbdcndgfnhkaaDoorKa
import Derived.Orders
import Derived.Laws.Tables
section
set_option linter.unusedVariables false
set_option linter.unusedSimpArgs false
namespace Go.Vm
open Go Go.RowKit

/-- What comes of a call: it answers, or it panics with one value. -/
def CallOut (P : Program) (ok pan : Value → World → Prop) : Result Next → Prop
  | .ok (.value v) w => ok v w
  | .ok (.enter f args) w => Calls P f args w fun
      | .returned v, w' => ok v w'
      | .panicked ch, w' => ∃ v, ch = [{ v := v, recovered := false }] ∧ pan v w'
      | _, _ => False
  | .halt (.panic v) w => pan v w
  | _ => False
/-- 'F' says what function g does. -/
def Summ (P : Program) (g : FuncId) (F : List Value → M Value) : Prop :=
  ∀ (w0 : World) (B : Nat) (ρ : Ren) (V : VS) (w : World) (args rargs : List Value), Sim P w0 B ρ V w → LR ρ args rargs → F args V ≠ .stuck →
    CallOut P (fun r w' => ∃ u V' ρ', F args V = .ok u V' ∧ VR ρ' u r ∧ Sim P w0 B ρ' V' w' ∧ Ext (fun _ => False) ρ V ρ' V')
      (fun r w' => ∃ v V' ρ', F args V = .panic v V' ∧ VR ρ' v r ∧ Sim P w0 B ρ' V' w' ∧ Ext (fun _ => False) ρ V ρ' V') ((callFunc g rargs.toArray).run P w)
def Summs (P : Program) (G : FT) : Prop := ∀ g F, G.get g = some F → Summ P g F

def EnvR (ρ : Ren) (e : Env) (a : Act) : Prop := ∀ t v, e.get t = some v → ∃ r, a.tmps[t]? = some r ∧ VR ρ v r
theorem EnvR.mono {ρ ρ' : Ren} {e : Env} {a : Act} (hg : Grows ρ ρ') (h : EnvR ρ e a) : EnvR ρ' e a :=
  fun t v ht => by obtain ⟨r, h1, h2⟩ := h t v ht; exact ⟨r, h1, h2.mono hg⟩

section
variable (P : Program) (w0 : World) (B : Nat) (ex : Nat → Prop) (ρ : Ren) (V : VS) (w : World) (o : Oper) (a : Act)
/-- What the virtual operation answers, the model's own gives. -/
def OpOk (R : Res Value) : Prop :=
  R ≠ .stuck → ∀ (next : Act → World → Prop) (Q : Exit → Act → World → Prop),
    (∀ u V' r w' ρ', R = .ok u V' → VR ρ' u r → Sim P w0 B ρ' V' w' → Ext ex ρ V ρ' V' → next (a.put o.dst r) w') →
    (∀ v V' r w' ρ', R = .panic v V' → VR ρ' v r → Sim P w0 B ρ' V' w' → Ext ex ρ V ρ' V' → Q (.panic [{ v := r, recovered := false }]) a w') → o.wp P a w next Q
end

section
variable {P : Program} {w0 : World} {B : Nat} {ex : Nat → Prop} {ρ : Ren} {V : VS} {w : World} {T : TT} {o : Oper} {a : Act}

theorem OpOk.stuck : OpOk P w0 B ex ρ V w o a .stuck := fun h => absurd rfl h
theorem OpOk.of_good {s : Sem Value} {R : Res Value} (h : Good P w0 B ex ρ V w s R) (hs : execOp a.eval o = (do pure (Next.value (← s)))) : OpOk P w0 B ex ρ V w o a R := by
  intro hR next Q hn hp
  unfold Oper.wp
  rw [hs]
  match R, h with
  | .stuck, _ => exact absurd rfl hR
  | .ok u V', ⟨r, w', ρ', h1, h2, h3, h4⟩ =>
    simp only [Sem.run_bind, h1, Result.andThen_ok, Sem.run_pure, Oper.upon_value]
    exact hn u V' r w' ρ' rfl h2 h3 h4
  | .panic v V', ⟨r, w', ρ', h1, h2, h3, h4⟩ =>
    simp only [Sem.run_bind, h1]
    exact hp v V' r w' ρ' rfl h2 h3 h4
theorem OpOk.of_goodU {s : Sem Unit} {R : Res Value} (h : GoodU P w0 B ex ρ V w s R) (hs : execOp a.eval o = (do s; pure Next.skip)) : OpOk P w0 B ex ρ V w o a R := by
  intro hR next Q hn hp
  unfold Oper.wp
  rw [hs]
  match R, h with
  | .stuck, _ => exact absurd rfl hR
  | .ok u V', ⟨hu, w', ρ', h1, h3, h4⟩ =>
    subst hu
    simp only [Sem.run_bind, h1, Result.andThen_ok, Sem.run_pure, Oper.upon_skip]
    exact hn _ V' undef w' ρ' rfl (LR.tuple .nil) h3 h4

/-! ### Operands -/
theorem ev_run (hT : TOk P T) (h : Sim P w0 B ρ V w) {e : Env} (he : EnvR ρ e a) {x : Operand} {v : Value} (hx : ev T e x = some v) : VR ρ v (a.eval x) := by
  cases x with
  | tmp t =>
    obtain ⟨r, h1, h2⟩ := he t v hx
    simpa [Act.eval, Array.getD_eq_getD_getElem?, h1] using h2
  | const c =>
    simp only [ev] at hx
    cases hc : constOk c with
    | false => rw [hc] at hx; cases hx
    | true => rw [hc] at hx; cases hx; exact const_vr hc
  | global g =>
    simp only [ev] at hx
    cases hc : Nat.blt g T.globals with
    | false => rw [hc] at hx; cases hx
    | true =>
      rw [hc] at hx
      cases hx
      have hlt : g < P.globals.size := by rw [← hT.globals]; simpa [Nat.blt_eq] using hc
      obtain ⟨n, hn⟩ := h.glob g hlt
      have := VR.ptr (o := 0) hn
      simpa [Act.eval] using this
  | func f =>
    simp only [ev] at hx
    cases hx
    exact .func rfl (fun i x y hx => by simp at hx) rfl (fun i x y hx => by simp at hx)
theorem evL_run (hT : TOk P T) (h : Sim P w0 B ρ V w) {e : Env} (he : EnvR ρ e a) : ∀ {l : List Operand} {vs : List Value}, evL T e l = some vs → LR ρ vs (l.map a.eval)
  | [], vs, hx => by simp [evL] at hx; subst hx; exact .nil
  | x :: l, vs, hx => by
    unfold evL at hx
    split at hx
    · rename_i v l' h1 h2
      cases hx
      exact .cons (ev_run hT h he h1) (evL_run hT h he h2)
    · cases hx
theorem withV_opOk {o' : Option Value} {k : Value → M Value} (h : ∀ v, o' = some v → OpOk P w0 B ex ρ V w o a (k v V)) : OpOk P w0 B ex ρ V w o a (withV o' k V) := by
  cases o' with
  | none => exact OpOk.stuck
  | some v => exact h v rfl
theorem withT_opOk {o' : Option TI} {k : TI → M Value} (h : ∀ v, o' = some v → OpOk P w0 B ex ρ V w o a (k v V)) : OpOk P w0 B ex ρ V w o a (withT o' k V) := by
  cases o' with
  | none => exact OpOk.stuck
  | some v => exact h v rfl
theorem withL_opOk {o' : Option (List Value)} {k : List Value → M Value} (h : ∀ v, o' = some v → OpOk P w0 B ex ρ V w o a (k v V)) : OpOk P w0 B ex ρ V w o a (withL o' k V) := by
  cases o' with
  | none => exact OpOk.stuck
  | some v => exact h v rfl
theorem withP_opOk {o' : Option (List (Nat × Nat × Value))} {k : List (Nat × Nat × Value) → M Value} (h : ∀ v, o' = some v → OpOk P w0 B ex ρ V w o a (k v V)) : OpOk P w0 B ex ρ V w o a (withP o' k V) := by
  cases o' with
  | none => exact OpOk.stuck
  | some v => exact h v rfl
theorem withO_opOk (hT : TOk P T) (h : Sim P w0 B ρ V w) {e : Env} (he : EnvR ρ e a) {x : Option Operand} {k : Option Value → M Value} (hk : ∀ v, VO ρ v (x.map a.eval) → OpOk P w0 B ex ρ V w o a (k v V)) : OpOk P w0 B ex ρ V w o a (withO T e x k V) := by
  unfold withO
  split
  · exact hk none trivial
  · rename_i x
    exact withV_opOk fun v hv => hk (some v) (ev_run hT h he hv)
theorem partsOf_run (hT : TOk P T) (h : Sim P w0 B ρ V w) {e : Env} (he : EnvR ρ e a) {place : Nat → Option (Nat × Nat)} : ∀ {l : List (Nat × Operand)} {ps : List (Nat × Nat × Value)}, partsOf T e place l = some ps → PR ρ place ps (l.map fun (i, x) => (i, a.eval x))
  | [], ps, hx => by simp [partsOf] at hx; subst hx; exact .nil
  | (i, x) :: l, ps, hx => by
    unfold partsOf at hx
    split at hx
    · rename_i off size v l' h0 h1 h2
      cases hx
      exact .cons h0 (ev_run hT h he h1) (partsOf_run hT h he h2)
    · cases hx
theorem PR.congr {place place' : Nat → Option (Nat × Nat)} (hp : ∀ i x, place i = some x → place' i = some x) {a : List (Nat × Nat × Value)} {b : List (Nat × Value)} (h : PR ρ place a b) : PR ρ place' a b := by
  induction h with
  | nil => exact .nil
  | cons h0 hv _ ih => exact .cons (hp _ _ h0) hv ih

theorem zeroVal_vr (hT : TOk P T) {t : TypeId} {i : TI} (hi : T.get t = some i) : VR ρ i.zeroVal i.zeroVal := by
  obtain ⟨hfl, hce, hlen, hone⟩ := hT.zero t i hi
  unfold TI.zeroVal
  cases ha : i.kind.isAgg with
  | true => exact (flats_lr hfl).agg
  | false =>
    have hl : i.zero.length = 1 := hlen.trans (hone ha)
    match hz : i.zero, hl with
    | [v], _ =>
      rw [hz] at hfl
      exact flat_vr (by simpa using hfl)
/-! ### Calls -/
theorem callV_opOk {G : FT} (hG : Summs P G) (h : Sim P w0 B ρ V w) {f rf : Value} (hf : VR ρ f rf) {args rargs : List Value} (ha : LR ρ args rargs)
    (hs : execOp a.eval o = (do let d ← Deferred.ofValue rf rargs.toArray; invoke d.target d.args)) : OpOk P w0 B ex ρ V w o a (callV G f args V) := by
  unfold callV
  split
  · rename_i g first cap
    cases hf with
    | func hfs h1 hc h2 =>
    rename_i first' cap'
    cases hF : G.get g with
    | none => exact OpOk.stuck
    | some F =>
      intro hR next Q hn hp
      simp only [hF] at hR hn hp
      have hl : LR ρ (first.toList ++ args ++ cap.toList) (first'.toList ++ rargs ++ cap'.toList) := ((LR.of_arr hfs h1).append ha).append (LR.of_arr hc h2)
      have hsum := hG g F hF w0 B ρ V w _ _ h hl hR
      have harr : (first'.toList ++ rargs ++ cap'.toList).toArray = first' ++ rargs.toArray ++ cap' := by apply Array.ext'; simp
      rw [harr] at hsum
      unfold Oper.wp
      have hrun : (execOp a.eval o).run P w = (callFunc g (first' ++ rargs.toArray ++ cap')).run P w := by
        rw [hs]
        simp [Deferred.ofValue, invoke]
      rw [hrun]
      generalize (callFunc g (first' ++ rargs.toArray ++ cap')).run P w = res at hsum
      unfold CallOut at hsum
      have ext : ∀ {ρ' V'}, Ext (fun _ => False) ρ V ρ' V' → Ext ex ρ V ρ' V' := fun hx => hx.mono fun i _ q => q.elim
      split at hsum
      · obtain ⟨u, V', ρ', e1, e2, e3, e4⟩ := hsum
        exact hn u V' _ _ ρ' e1 e2 e3 (ext e4)
      · rw [Oper.upon_enter]
        refine Calls.mono hsum fun en w' hen => ?_
        split at hen
        · obtain ⟨u, V', ρ', e1, e2, e3, e4⟩ := hen
          exact hn u V' _ _ ρ' e1 e2 e3 (ext e4)
        · obtain ⟨v, rfl, u, V', ρ', e1, e2, e3, e4⟩ := hen
          exact hp u V' _ _ ρ' e1 e2 e3 (ext e4)
        · exact hen.elim
      · obtain ⟨u, V', ρ', e1, e2, e3, e4⟩ := hsum
        exact hp u V' _ _ ρ' e1 e2 e3 (ext e4)
      · exact hsum.elim
  · exact OpOk.stuck
theorem array2 {x y : Operand} {args : Array Operand} (h : args.toList = [x, y]) : args = #[x, y] := by
  apply Array.ext'; simpa using h
theorem tk_not_int {d : TypeDesc} (h : ∀ k, tkOf d ≠ .int k) : ∀ k, d ≠ .int k := by rintro k rfl; exact h k rfl

theorem prim_ok (hT : TOk P T) {G : FT} (hG : Summs P G) (h : Sim P w0 B ρ V w) {e : Env} (he : EnvR ρ e a) {id : Nat} (hid : makes o ≠ 0 → id < V.next ∧ ρ id = none) :
    OpOk P w0 B (· = id) ρ V w o a (prim T G id e o V) := by
  obtain ⟨dst, op, type, pos, after, guard⟩ := o
  have evr := fun {x v} (hx : ev T e x = some v) => ev_run hT h he hx
  unfold prim
  simp only
  cases op with
  | move x => exact withV_opOk fun v hv => OpOk.of_good (s := pure (a.eval x)) (Good.pure_ h rfl (evr hv)) rfl
  | assign x => exact withV_opOk fun v hv => OpOk.of_good (s := pure (a.eval x)) (Good.pure_ h rfl (evr hv)) rfl
  | pick c x y => exact withV_opOk fun v hv => withV_opOk fun u hu => withV_opOk fun u' hu' => OpOk.of_good (good_pick h (evr hv) (evr hu) (evr hu')) (by simp [execOp])
  | alloc t =>
    obtain ⟨h1, h2⟩ := hid (by simp [makes])
    refine withT_opOk fun i hi => ?_
    obtain ⟨inf, hinf, hsz, hby, hz⟩ := hT.info t i hi
    obtain ⟨hfl, hce, hlen, _⟩ := hT.zero t i hi
    exact OpOk.of_good (good_alloc h h1 h2 hinf hz hce hfl) rfl
  | box t x =>
    obtain ⟨h1, h2⟩ := hid (by simp [makes])
    exact withV_opOk fun v hv => OpOk.of_good (good_box h h1 h2 (evr hv)) rfl
  | load t x =>
    refine withT_opOk fun i hi => withV_opOk fun v hv => ?_
    obtain ⟨inf, hinf, hsz, hby, hz⟩ := hT.info t i hi
    obtain ⟨d, hu, hk⟩ := hT.under t i hi
    rw [← hk, ← hsz]
    cases ha : (tkOf d).isAgg with
    | true => exact OpOk.of_good (good_ldN h hu ha hinf (evr hv)) rfl
    | false => exact OpOk.of_good (good_ld1 h hu ha (evr hv)) rfl
  | store t x y =>
    refine withT_opOk fun i hi => withV_opOk fun v hv => withV_opOk fun u hu => ?_
    obtain ⟨inf, hinf, hsz, hby, hz⟩ := hT.info t i hi
    obtain ⟨_, _, _, hone⟩ := hT.zero t i hi
    cases ha : i.kind.isAgg with
    | true => rw [← hsz]; exact OpOk.of_goodU (good_stN h hinf (evr hv) (evr hu)) rfl
    | false => exact OpOk.of_goodU (good_st1 h hinf (hsz.trans (hone ha)) (evr hv) (evr hu)) rfl
  | nilCheck x =>
    refine withV_opOk fun v hv => ?_
    intro hR next Q hn hp
    cases hq : nilChk v V with
    | stuck => exact absurd hq hR
    | panic u V' => exact absurd hq nilChk_panic
    | ok u V' =>
      obtain ⟨rfl, r', h1, h2⟩ := good_nilChk (P := P) (w := w) (evr hv) { dst, op := .nilCheck x, type, pos, after, guard } x a.eval rfl rfl hq
      unfold Oper.wp
      rw [h1]
      exact hn u _ r' w ρ hq h2 h (Ext.refl ..)
  | binOp op t x y cc =>
    refine withV_opOk fun v hv => withV_opOk fun u hu => ?_
    cases hif : isIfaceT T t with
    | true =>
      simp only [cond_true]
      cases hnc : isNilConst y with
      | false => exact OpOk.stuck
      | true =>
        simp only [cond_true]
        have hy : y = .const .nilIface := by
          unfold isNilConst at hnc
          split at hnc
          · rfl
          · cases hnc
        subst hy
        cases op <;> first
          | exact OpOk.of_good (good_isNil hT h false hif x (evr hv)) rfl
          | exact OpOk.of_good (good_isNil hT h true hif x (evr hv)) rfl
          | exact OpOk.stuck
    | false =>
      simp only [cond_false]
      exact OpOk.of_good (good_bin hT h op t x y (evr hv) (evr hu)) rfl
  | unOp op t x => exact withV_opOk fun v hv => OpOk.of_good (good_un h op (evr hv)) rfl
  | makeInterface t x =>
    refine withT_opOk fun i hi => ?_
    obtain ⟨d, hu, hk⟩ := hT.under t i hi
    cases hik : i.kind <;> first
      | exact OpOk.stuck
      | exact withV_opOk fun v hv => OpOk.of_good (good_mkIface h hu (tk_not_iface (by rw [hk, hik]; simp)) (evr hv)) rfl
  | makeFunc fn first cap =>
    refine withL_opOk fun vs hvs => withL_opOk fun us hus => ?_
    have l1 := evL_run hT h he hvs
    have l2 := evL_run hT h he hus
    refine OpOk.of_good (s := pure (.func fn (first.map a.eval) (cap.map a.eval))) (Good.pure_ h rfl ?_) rfl
    refine .func (by simpa using l1.length) ?_ (by simpa using l2.length) ?_
    · intro i x y hx hy
      obtain ⟨y', hy', hr⟩ := l1.get i x (by simpa using hx)
      have : y = y' := by
        have h1 : (first.toList.map a.eval)[i]? = some y := by simpa using hy
        rw [hy'] at h1; cases h1; rfl
      exact this ▸ hr
    · intro i x y hx hy
      obtain ⟨y', hy', hr⟩ := l2.get i x (by simpa using hx)
      have : y = y' := by
        have h1 : (cap.toList.map a.eval)[i]? = some y := by simpa using hy
        rw [hy'] at h1; cases h1; rfl
      exact this ▸ hr
  | extract x n => exact withV_opOk fun v hv => OpOk.of_good (good_extr h n (evr hv)) rfl
  | panic x => exact withV_opOk fun v hv => OpOk.of_good (good_throw h (evr hv)) rfl
  | build t parts =>
    refine withT_opOk fun i hi => ?_
    obtain ⟨inf, hinf, hsz, hby, hz⟩ := hT.info t i hi
    obtain ⟨d, hu, hk⟩ := hT.under t i hi
    obtain ⟨hfl, hce, hlen, _⟩ := hT.zero t i hi
    cases hik : i.kind <;> first | exact OpOk.stuck | skip
    case array n el =>
      rw [hik] at hk
      have hd := tk_array hk
      subst hd
      refine withT_opOk fun j hj => withP_opOk fun ps hps => ?_
      obtain ⟨inf', hinf', hsz', _, _⟩ := hT.info el j hj
      have hpr := partsOf_run hT h he hps
      refine OpOk.of_good (good_mkAgg h (s := Instr.build t (parts.map fun (i, x) => (i, a.eval x))) (z := i.zeroVal) hpr hce hfl (fun rs1 h1 => ?_)) rfl
      refine run_build w t _ rs1 ?_
      unfold Program.built
      simp only [hinf, hu, hz, hinf', hsz', Array.toList_map]
      exact h1
    case struct fs =>
      rw [hik] at hk
      obtain ⟨F, rfl, hF⟩ := tk_struct hk
      refine withP_opOk fun ps hps => ?_
      have hpr := partsOf_run hT h he hps
      have hall : ∀ f ∈ F.toList, ∃ inf, P.info? f.type = some inf := by
        intro f hf
        have : (f.offset, f.type) ∈ fs := by rw [← hF]; exact List.mem_map.2 ⟨f, hf, rfl⟩
        obtain ⟨k0, n0, b0, z0⟩ := i
        simp only at hik
        subst hik
        exact hT.fields t fs _ _ _ hi _ this
      have hmap : ∀ (l : List Field), (∀ f ∈ l, ∃ inf, P.info? f.type = some inf) → ∃ places, l.mapM (fun f => (P.info? f.type).map fun i => (f.offset, i.size)) = some places ∧ places.length = l.length ∧
          ∀ (n : Nat) f inf, l[n]? = some f → P.info? f.type = some inf → places[n]? = some (f.offset, inf.size) := by
        intro l
        induction l with
        | nil => intro _; exact ⟨[], rfl, rfl, fun n f inf hn => by simp at hn⟩
        | cons f l ih =>
          intro hl
          obtain ⟨inf, hinf⟩ := hl f (by simp)
          obtain ⟨pl, h1, h2, h3⟩ := ih fun g hg => hl g (by simp [hg])
          refine ⟨(f.offset, inf.size) :: pl, by simp [List.mapM_cons, hinf, h1], by simp [h2], fun n g inf' hn hg => ?_⟩
          cases n with
          | zero => simp at hn; subst hn; rw [hinf] at hg; cases hg; rfl
          | succ n => simp at hn ⊢; exact h3 n g inf' hn hg
      obtain ⟨places, hp1, hp2, hp3⟩ := hmap F.toList hall
      have hplace : ∀ i x, placeS T fs i = some x → places.toArray[i]? = some x := by
        intro n x hx
        unfold placeS at hx
        split at hx
        · rename_i off tt hf
          split at hx
          · rename_i ti hti
            cases hx
            obtain ⟨inf', hi', hs', _, _⟩ := hT.info tt ti hti
            rw [← hF] at hf
            simp only [List.getElem?_map] at hf
            cases hfn : F.toList[n]? with
            | none => rw [hfn] at hf; cases hf
            | some f =>
              rw [hfn] at hf
              cases hf
              have := hp3 n f inf' hfn hi'
              simpa [hs'] using this
          · cases hx
        · cases hx
      refine OpOk.of_good (good_mkAgg h (s := Instr.build t (parts.map fun (i, x) => (i, a.eval x))) (z := i.zeroVal) (hpr.congr hplace) hce hfl (fun rs1 h1 => ?_)) rfl
      refine run_build w t _ rs1 ?_
      unfold Program.built
      simp only [hinf, hu, hz, hp1, Array.toList_map]
      exact h1
  | buildSlice t len parts =>
    obtain ⟨g1, g2⟩ := hid (by simp [makes])
    refine withT_opOk fun i hi => ?_
    obtain ⟨d, hu, hk⟩ := hT.under t i hi
    cases hik : i.kind <;> first | exact OpOk.stuck | skip
    case slice el =>
      rw [hik] at hk
      rw [tk_slice hk] at hu
      refine withT_opOk fun j hj => withP_opOk fun ps hps => ?_
      obtain ⟨inf', hinf', hsz', _, hz'⟩ := hT.info el j hj
      obtain ⟨hfl, hce, hlen, _⟩ := hT.zero el j hj
      have hpr := partsOf_run hT h he hps
      rw [← hsz'] at hpr
      have hpa : (parts.map fun (x : Nat × Operand) => (x.1, a.eval x.2)) = (parts.toList.map fun (i, x) => (i, a.eval x)).toArray := by apply Array.ext'; simp
      refine OpOk.of_good (good_mkLitSl h g1 g2 hu hinf' hz' hce hfl (hlen.trans hsz'.symm) hpr) ?_
      rw [← hpa]
      rfl
  | convert s t x =>
    obtain ⟨g1, g2⟩ := hid (by simp [makes])
    refine withT_opOk fun i hi => withT_opOk fun j hj => withV_opOk fun v hv => ?_
    obtain ⟨d, hu, hk⟩ := hT.under s i hi
    obtain ⟨d', hu', hk'⟩ := hT.under t j hj
    cases hik : i.kind <;> first | exact OpOk.stuck | skip
    all_goals (cases hjk : j.kind <;> first | exact OpOk.stuck | skip)
    all_goals (rw [hik] at hk; rw [hjk] at hk')
    case int.int k k2 => rw [tk_int hk] at hu; rw [tk_int hk'] at hu'; exact OpOk.of_good (good_cvInt h hu hu' (evr hv)) rfl
    case string.string => rw [tk_string hk] at hu; rw [tk_string hk'] at hu'; exact OpOk.of_good (good_cvStr h hu hu' (evr hv)) rfl
    case string.slice el =>
      rw [tk_string hk] at hu; rw [tk_slice hk'] at hu'
      refine withT_opOk fun ti hti => ?_
      obtain ⟨de, hue, hke⟩ := hT.under el ti hti
      cases htk : ti.kind <;> first | exact OpOk.stuck | skip
      case int ik =>
        cases ik <;> first | exact OpOk.stuck | skip
        rw [htk] at hke; rw [tk_int hke] at hue
        exact OpOk.of_good (good_cvBytes h g1 g2 hu hu' hue (evr hv)) rfl
    case slice.string el =>
      rw [tk_slice hk] at hu; rw [tk_string hk'] at hu'
      refine withT_opOk fun ti hti => ?_
      obtain ⟨de, hue, hke⟩ := hT.under el ti hti
      cases htk : ti.kind <;> first | exact OpOk.stuck | skip
      case int ik =>
        cases ik <;> first | exact OpOk.stuck | skip
        rw [htk] at hke; rw [tk_int hke] at hue
        exact OpOk.of_good (good_cvString h hu hu' hue (evr hv)) rfl
  | makeMap t r =>
    cases r with
    | some _ => exact OpOk.stuck
    | none =>
      obtain ⟨g1, g2⟩ := hid (by simp [makes])
      exact OpOk.of_good (good_newMap h g1 g2 t) rfl
  | makeSlice t l c =>
    obtain ⟨g1, g2⟩ := hid (by simp [makes])
    refine withT_opOk fun i hi => ?_
    obtain ⟨d, hu, hk⟩ := hT.under t i hi
    cases hik : i.kind <;> first | exact OpOk.stuck | skip
    case slice el =>
      rw [hik] at hk
      rw [tk_slice hk] at hu
      refine withT_opOk fun j hj => withV_opOk fun v hv => withV_opOk fun u hu2 => ?_
      obtain ⟨inf', hinf', hsz', hby', hz'⟩ := hT.info el j hj
      obtain ⟨hfl, hce, hlen, _⟩ := hT.zero el j hj
      rw [← hby']
      exact OpOk.of_good (good_mkSl h g1 g2 hu hinf' hz' hce hfl (hlen.trans hsz'.symm) (evr hv) (evr hu2)) rfl
  | slice t x lo hi mx =>
    refine withT_opOk fun i hi' => withV_opOk fun v hv => withO_opOk hT h he fun vl hl => withO_opOk hT h he fun vh hh => withO_opOk hT h he fun vm hm => ?_
    obtain ⟨d, hu, hk⟩ := hT.under t i hi'
    cases hik : i.kind <;> first | exact OpOk.stuck | skip
    all_goals rw [hik] at hk
    case slice el =>
      rw [tk_slice hk] at hu
      refine withT_opOk fun j hj => ?_
      obtain ⟨inf', hinf', hsz', _, _⟩ := hT.info el j hj
      rw [← hsz']
      exact OpOk.of_good (good_slSl h hu hinf' (evr hv) hl hh hm) rfl
    case array n el =>
      rw [tk_array hk] at hu
      refine withT_opOk fun j hj => ?_
      obtain ⟨inf', hinf', hsz', _, _⟩ := hT.info el j hj
      rw [← hsz']
      exact OpOk.of_good (good_slArr h hu hinf' (evr hv) hl hh hm) rfl
    case string =>
      rw [tk_string hk] at hu
      cases vm with
      | some _ => exact OpOk.stuck
      | none =>
        have hm' : mx.map a.eval = none := by
          cases hmm : mx.map a.eval with
          | none => rfl
          | some _ => rw [hmm] at hm; exact hm.elim
        refine OpOk.of_good (good_slStr h hu (evr hv) hl hh) ?_
        simp only [execOp, hm']
  | fieldAddr s x f =>
    refine withT_opOk fun i hi => ?_
    obtain ⟨d, hu, hk⟩ := hT.under s i hi
    cases hik : i.kind <;> first | exact OpOk.stuck | skip
    case struct fs =>
      rw [hik] at hk
      obtain ⟨F, rfl, hF⟩ := tk_struct hk
      simp only
      cases hf : fs[f]? with
      | none => exact OpOk.stuck
      | some p =>
        obtain ⟨off, tt⟩ := p
        refine withT_opOk fun j hj => ?_
        obtain ⟨inf', hinf', hsz', _, _⟩ := hT.info tt j hj
        rw [← hF, List.getElem?_map] at hf
        cases hfn : F.toList[f]? with
        | none => rw [hfn] at hf; cases hf
        | some fd =>
          rw [hfn] at hf
          cases hf
          cases hz0 : Nat.beq j.size 0 with
          | true => exact OpOk.stuck
          | false =>
            refine withV_opOk fun v hv => ?_
            exact OpOk.of_good (good_addOff h hu (by simpa using hfn) hinf' (by rw [hsz']; exact Nat.ne_of_beq_eq_false hz0) (evr hv)) rfl
  | field s x f =>
    refine withT_opOk fun i hi => ?_
    obtain ⟨d, hu, hk⟩ := hT.under s i hi
    cases hik : i.kind <;> first | exact OpOk.stuck | skip
    case struct fs =>
      rw [hik] at hk
      obtain ⟨F, rfl, hF⟩ := tk_struct hk
      simp only
      cases hf : fs[f]? with
      | none => exact OpOk.stuck
      | some p =>
        obtain ⟨off, tt⟩ := p
        refine withT_opOk fun j hj => withV_opOk fun v hv => ?_
        obtain ⟨inf', hinf', hsz', _, _⟩ := hT.info tt j hj
        obtain ⟨dj, huj, hkj⟩ := hT.under tt j hj
        rw [← hF, List.getElem?_map] at hf
        cases hfn : F.toList[f]? with
        | none => rw [hfn] at hf; cases hf
        | some fd =>
          rw [hfn] at hf
          cases hf
          rw [← hkj, ← hsz']
          exact OpOk.of_good (good_field h hu (by simpa using hfn) huj hinf' (evr hv)) rfl
  | indexAddr t x ix =>
    refine withT_opOk fun i hi => withV_opOk fun v hv => withV_opOk fun u hu2 => ?_
    obtain ⟨d, hu, hk⟩ := hT.under t i hi
    cases hik : i.kind <;> first | exact OpOk.stuck | skip
    all_goals rw [hik] at hk
    case slice el =>
      rw [tk_slice hk] at hu
      refine withT_opOk fun j hj => ?_
      obtain ⟨inf', hinf', hsz', _, _⟩ := hT.info el j hj
      rw [← hsz']
      exact OpOk.of_good (good_idxSl h hu hinf' (evr hv) (evr hu2)) rfl
    case array n el =>
      rw [tk_array hk] at hu
      refine withT_opOk fun j hj => ?_
      obtain ⟨inf', hinf', hsz', _, _⟩ := hT.info el j hj
      rw [← hsz']
      exact OpOk.of_good (good_idxArr h hu hinf' (evr hv) (evr hu2)) rfl
  | index t x ix =>
    refine withT_opOk fun i hi => withV_opOk fun v hv => withV_opOk fun u hu2 => ?_
    obtain ⟨d, hu, hk⟩ := hT.under t i hi
    cases hik : i.kind <;> first | exact OpOk.stuck | skip
    all_goals rw [hik] at hk
    case string =>
      rw [tk_string hk] at hu
      exact OpOk.of_good (good_idxStr h hu (evr hv) (evr hu2)) rfl
    case array n el =>
      rw [tk_array hk] at hu
      refine withT_opOk fun j hj => ?_
      obtain ⟨inf', hinf', hsz', _, _⟩ := hT.info el j hj
      obtain ⟨dj, huj, hkj⟩ := hT.under el j hj
      rw [← hsz', ← hkj]
      exact OpOk.of_good (good_idxAgg h hu huj hinf' (evr hv) (evr hu2)) rfl
  | lookup t m k ok =>
    refine withT_opOk fun i hi => ?_
    obtain ⟨d, hu, hk⟩ := hT.under t i hi
    cases hik : i.kind <;> first | exact OpOk.stuck | skip
    case map kt el =>
      rw [hik] at hk
      rw [tk_map hk] at hu
      refine withT_opOk fun j hj => withV_opOk fun v hv => withV_opOk fun u hu2 => ?_
      obtain ⟨inf', hinf', hsz', _, hz'⟩ := hT.info el j hj
      have hzr := zeroVal_vr (ρ := ρ) hT hj
      exact OpOk.of_good (good_look hT h hu hinf' hz' hzr ok (evr hv) (evr hu2)) rfl
  | mapUpdate t m k x =>
    refine withT_opOk fun i hi => ?_
    obtain ⟨d, hu, hk⟩ := hT.under t i hi
    cases hik : i.kind <;> first | exact OpOk.stuck | skip
    case map kt el =>
      rw [hik] at hk
      rw [tk_map hk] at hu
      refine withV_opOk fun v hv => withV_opOk fun u hu2 => withV_opOk fun u' hu' => ?_
      exact OpOk.of_goodU (good_upd hT h hu (evr hv) (evr hu2) (evr hu')) rfl
  | typeAssert x xt t ok =>
    cases ok with
    | false => exact OpOk.stuck
    | true =>
      refine withT_opOk fun i hi => ?_
      obtain ⟨inf, hinf, hsz, _, hz⟩ := hT.info t i hi
      obtain ⟨d, hu, hk⟩ := hT.under t i hi
      have hzr := zeroVal_vr (ρ := ρ) hT hi
      cases hik : i.kind <;> first
        | exact OpOk.stuck
        | exact withV_opOk fun v hv => OpOk.of_good (good_assertOk h hu (tk_not_iface (by rw [hk, hik]; simp)) hinf hz hzr (evr hv)) rfl
  | call c =>
    obtain ⟨callee, args, tys⟩ := c
    cases callee with
    | invoke r n => exact OpOk.stuck
    | value f =>
      refine withV_opOk fun v hv => withL_opOk fun vs hvs => ?_
      refine callV_opOk hG h (evr hv) (evL_run hT h he hvs) ?_
      have : (args.toList.map a.eval).toArray = args.map a.eval := by apply Array.ext'; simp
      rw [this]
      rfl
    | builtin b =>
      have args1 : ∀ {x}, args.toList = [x] → args.map a.eval = #[a.eval x] := fun {x} hx => by apply Array.ext'; simp [hx]
      have args2 : ∀ {x y}, args.toList = [x, y] → args.map a.eval = #[a.eval x, a.eval y] := fun {x y} hx => by apply Array.ext'; simp [hx]
      have tys1 : ∀ {t}, tys.toList = [t] → tys = #[t] := fun {t} ht => by apply Array.ext'; simpa using ht
      have tys2 : ∀ {t u}, tys.toList = [t, u] → tys = #[t, u] := fun {t u} ht => by apply Array.ext'; simpa using ht
      have ex1 : ∀ (bi : Builtin) (f : Array TypeId → TypeId → Array Value → Sem Value), (∀ ty cs vs, builtin bi tys ty cs vs = (do pure (Next.value (← f tys ty vs)))) →
          execOp a.eval { dst, op := .call ⟨.builtin bi, args, tys⟩, type, pos, after, guard } = (do pure (Next.value (← f tys type (args.map a.eval)))) := by
        intro bi f hf
        simp only [execOp, resolve]
        exact (hf _ _ _)
      simp only
      generalize hal : args.toList = al
      generalize htl : tys.toList = tl
      cases b <;> first | exact OpOk.stuck | skip
      case append =>
        obtain ⟨g1, g2⟩ := hid (by simp [makes])
        rcases al with _ | ⟨x, _ | ⟨y, _ | ⟨z, l⟩⟩⟩ <;> first | exact OpOk.stuck | skip
        rcases tl with _ | ⟨t, _ | ⟨u, _ | ⟨z, l⟩⟩⟩ <;> first | exact OpOk.stuck | skip
        refine withT_opOk fun i hi => withT_opOk fun iu hiu => ?_
        obtain ⟨d, hu, hk⟩ := hT.under t i hi
        obtain ⟨d2, hu2, hk2⟩ := hT.under u iu hiu
        have fin : ∀ el, i.kind = .slice el → (∀ k, iu.kind ≠ .int k) → OpOk P w0 B (· = id) ρ V w { dst, op := .call ⟨.builtin .append, args, tys⟩, type, pos, after, guard } a
            (withT (T.get el) (fun j => withV (ev T e x) fun s => withV (ev T e y) fun x => app id el j.size j.bytes s x) V) := by
          intro el hik hnk
          rw [hik] at hk
          rw [tk_slice hk] at hu
          refine withT_opOk fun j hj => withV_opOk fun v hv => withV_opOk fun v' hv' => ?_
          obtain ⟨inf', hinf', hsz', hby', hz'⟩ := hT.info el j hj
          obtain ⟨hfl, hce, hlen, _⟩ := hT.zero el j hj
          rw [← hsz', ← hby']
          refine OpOk.of_good (good_app h g1 g2 hu hu2 (tk_not_int (by rw [hk2]; exact hnk)) (ty := type) hinf' hz' (by rw [hsz', ← hlen, ← hce]; simp) (evr hv) (evr hv')) ?_
          rw [ex1 .append Builtin.append_ (fun _ _ _ => rfl), args2 hal, tys2 htl]
        cases hik : i.kind <;> first | exact OpOk.stuck | skip
        cases hjk : iu.kind <;> first | exact OpOk.stuck | exact fin _ hik (by rw [hjk]; simp)
      case len =>
        rcases al with _ | ⟨x, _ | ⟨y, l⟩⟩ <;> first | exact OpOk.stuck | skip
        rcases tl with _ | ⟨t, _ | ⟨u, l⟩⟩ <;> first | exact OpOk.stuck | skip
        refine withT_opOk fun i hi => ?_
        obtain ⟨d, hu, hk⟩ := hT.under t i hi
        cases hik : i.kind <;> first | exact OpOk.stuck | skip
        all_goals rw [hik] at hk
        case array n el =>
          rw [tk_array hk] at hu
          refine OpOk.of_good (s := Builtin.len_ tys type (args.map a.eval)) (Good.pure_ h (r := .int .i64 n) ?_ (.int _ _)) (ex1 .len Builtin.len_ (fun _ _ _ => rfl))
          rw [args1 hal, tys1 htl]
          simp [Builtin.len_, run_underlying hu, goInt]
        case slice el =>
          rw [tk_slice hk] at hu
          refine withV_opOk fun v hv => OpOk.of_good (good_lenSl h (ty := type) hu (evr hv)) ?_
          rw [ex1 .len Builtin.len_ (fun _ _ _ => rfl), args1 hal, tys1 htl]
        case string =>
          rw [tk_string hk] at hu
          refine withV_opOk fun v hv => OpOk.of_good (good_lenStr h (ty := type) hu (evr hv)) ?_
          rw [ex1 .len Builtin.len_ (fun _ _ _ => rfl), args1 hal, tys1 htl]
        case map k el =>
          rw [tk_map hk] at hu
          refine withV_opOk fun v hv => OpOk.of_good (good_lenMap h (ty := type) hu (evr hv)) ?_
          rw [ex1 .len Builtin.len_ (fun _ _ _ => rfl), args1 hal, tys1 htl]
      case cap =>
        rcases al with _ | ⟨x, _ | ⟨y, l⟩⟩ <;> first | exact OpOk.stuck | skip
        rcases tl with _ | ⟨t, _ | ⟨u, l⟩⟩ <;> first | exact OpOk.stuck | skip
        refine withT_opOk fun i hi => ?_
        obtain ⟨d, hu, hk⟩ := hT.under t i hi
        cases hik : i.kind <;> first | exact OpOk.stuck | skip
        all_goals rw [hik] at hk
        case array n el =>
          rw [tk_array hk] at hu
          refine OpOk.of_good (s := Builtin.cap_ tys type (args.map a.eval)) (Good.pure_ h (r := .int .i64 n) ?_ (.int _ _)) (ex1 .cap Builtin.cap_ (fun _ _ _ => rfl))
          rw [args1 hal, tys1 htl]
          simp [Builtin.cap_, run_underlying hu, goInt]
        case slice el =>
          rw [tk_slice hk] at hu
          refine withV_opOk fun v hv => OpOk.of_good (good_capV h (ty := type) hu (evr hv)) ?_
          rw [ex1 .cap Builtin.cap_ (fun _ _ _ => rfl), args1 hal, tys1 htl]
      case copy =>
        rcases al with _ | ⟨x, _ | ⟨y, _ | ⟨z, l⟩⟩⟩ <;> first | exact OpOk.stuck | skip
        rcases tl with _ | ⟨t, _ | ⟨u, _ | ⟨z, l⟩⟩⟩ <;> first | exact OpOk.stuck | skip
        refine withT_opOk fun i hi => ?_
        obtain ⟨d, hu, hk⟩ := hT.under t i hi
        cases hik : i.kind <;> first | exact OpOk.stuck | skip
        case slice el =>
          rw [hik] at hk
          rw [tk_slice hk] at hu
          refine withT_opOk fun j hj => withV_opOk fun v hv => withV_opOk fun v' hv' => ?_
          obtain ⟨inf', hinf', hsz', _, _⟩ := hT.info el j hj
          rw [← hsz']
          refine OpOk.of_good (good_cpy h hu (u := u) (ty := type) hinf' (evr hv) (evr hv')) ?_
          rw [ex1 .copy Builtin.copy_ (fun _ _ _ => rfl), args2 hal, tys2 htl]
      case delete =>
        rcases al with _ | ⟨x, _ | ⟨y, _ | ⟨z, l⟩⟩⟩ <;> first | exact OpOk.stuck | skip
        rcases tl with _ | ⟨t, _ | ⟨u, _ | ⟨z, l⟩⟩⟩ <;> first | exact OpOk.stuck | skip
        refine withT_opOk fun i hi => ?_
        obtain ⟨d, hu, hk⟩ := hT.under t i hi
        cases hik : i.kind <;> first | exact OpOk.stuck | skip
        case map k el =>
          rw [hik] at hk
          rw [tk_map hk] at hu
          refine withV_opOk fun v hv => withV_opOk fun v' hv' => ?_
          refine OpOk.of_good (good_del hT h hu (u := u) (ty := type) (evr hv) (evr hv')) ?_
          rw [ex1 .delete Builtin.delete_ (fun _ _ _ => rfl), args2 hal, tys2 htl]
      case max =>
        rcases al with _ | ⟨x, _ | ⟨y, _ | ⟨z, l⟩⟩⟩ <;> first | exact OpOk.stuck | skip
        refine withV_opOk fun v hv => withV_opOk fun v' hv' => ?_
        refine OpOk.of_good (good_most h (evr hv) (evr hv') tys type) ?_
        rw [ex1 .max Builtin.max_ (fun _ _ _ => rfl), args2 hal]
      case min =>
        rcases al with _ | ⟨x, _ | ⟨y, _ | ⟨z, l⟩⟩⟩ <;> first | exact OpOk.stuck | skip
        refine withV_opOk fun v hv => withV_opOk fun v' hv' => ?_
        refine OpOk.of_good (good_least h (evr hv) (evr hv') tys type) ?_
        rw [ex1 .min Builtin.min_ (fun _ _ _ => rfl), args2 hal]
  | _ => exact OpOk.stuck
end
end Go.Vm
end
section
/- The virtual machine's regions that run in order. -/
set_option linter.unusedVariables false
set_option linter.unusedSimpArgs false
namespace Go.Vm
open Go Go.RowKit

theorem prim_id (T : TT) (G : FT) (id id' : Nat) (e : Env) (o : Oper) (h : makes o = 0) : prim T G id e o = prim T G id' e o := by
  obtain ⟨dst, op, type, pos, after, guard⟩ := o
  cases op with
  | call c =>
    obtain ⟨callee, args, tys⟩ := c
    cases callee with
    | builtin b =>
      unfold prim
      simp only
      generalize args.toList = al
      generalize tys.toList = tl
      cases b <;> first
        | (simp [makes] at h; done)
        | (rcases al with _ | ⟨x, _ | ⟨y, _ | ⟨z, l⟩⟩⟩ <;> rcases tl with _ | ⟨t, _ | ⟨u, _ | ⟨z, l⟩⟩⟩ <;> rfl)
    | value f => rfl
    | invoke r n => rfl
  | alloc t => simp [makes] at h
  | box t x => simp [makes] at h
  | buildSlice t l p => simp [makes] at h
  | makeMap t r => simp [makes] at h
  | makeSlice t l c => simp [makes] at h
  | convert a b c => simp [makes] at h
  | typeAssert a b c d => cases d <;> rfl
  | _ => rfl

/-- The slots that stay. -/
structure Kept (ws : Nat → Prop) (a a' : Act) : Prop where
  size : a'.tmps.size = a.tmps.size
  defers : a'.defers = a.defers
  tmps : ∀ t, ¬ ws t → a'.tmps[t]? = a.tmps[t]?
theorem Kept.refl (ws : Nat → Prop) (a : Act) : Kept ws a a := ⟨rfl, rfl, fun _ _ => rfl⟩
theorem Kept.trans {ws ws' : Nat → Prop} {a b c : Act} (h : Kept ws a b) (k : Kept ws' b c) : Kept (fun t => ws t ∨ ws' t) a c :=
  ⟨k.size.trans h.size, k.defers.trans h.defers, fun t ht => (k.tmps t fun q => ht (.inr q)).trans (h.tmps t fun q => ht (.inl q))⟩
theorem Kept.mono {ws ws' : Nat → Prop} {a b : Act} (h : Kept ws a b) (k : ∀ t, ws t → ws' t) : Kept ws' a b :=
  ⟨h.size, h.defers, fun t ht => h.tmps t fun q => ht (k t q)⟩
theorem kept_put (a : Act) (d : Option Nat) (v : Value) : Kept (fun t => d = some t) a (a.put d v) := by
  cases d with
  | none => exact Kept.refl _ _
  | some d =>
    refine ⟨by simp [Act.put], rfl, fun t ht => ?_⟩
    have : d ≠ t := fun q => ht (by rw [q])
    simp [Act.put, Array.getElem?_setIfInBounds_ne this]
theorem envR_put {ρ : Ren} {e : Env} {a : Act} (h : EnvR ρ e a) {d : Option Nat} (hd : ∀ x, d = some x → x < a.tmps.size) {u r : Value} (hr : VR ρ u r) : EnvR ρ (put e d u) (a.put d r) := by
  cases d with
  | none => exact h
  | some d =>
    intro t v ht
    simp only [put, Env.get] at ht
    cases hb : Nat.beq d t with
    | true =>
      rw [hb] at ht
      cases ht
      have hdt : d = t := Nat.eq_of_beq_eq_true hb
      subst hdt
      exact ⟨r, by simp [Act.put, hd d rfl], hr⟩
    | false =>
      rw [hb] at ht
      have hne : d ≠ t := Nat.ne_of_beq_eq_false hb
      obtain ⟨q, h1, h2⟩ := h t v ht
      exact ⟨q, by simp [Act.put, Array.getElem?_setIfInBounds_ne hne, h1], h2⟩

section
variable {P : Program} {w0 : World} {B : Nat} {ρ : Ren} {V : VS} {w : World} {T : TT} {o : Oper} {a : Act} {G : FT}

theorem prim_ok' (hT : TOk P T) (hG : Summs P G) (h : Sim P w0 B ρ V w) {e : Env} (he : EnvR ρ e a) {id : Nat} (hid : makes o ≠ 0 → id < V.next ∧ ρ id = none) :
    OpOk P w0 B (fun i => makes o ≠ 0 ∧ i = id) ρ V w o a (prim T G id e o V) := by
  by_cases hm : makes o = 0
  · rw [prim_id T G id V.next e o hm]
    have := prim_ok hT hG h he (id := V.next) (fun q => absurd hm q)
    intro hR next Q hn hp
    refine this hR next Q (fun u V' r w' ρ' a1 a2 a3 a4 => hn u V' r w' ρ' a1 a2 a3 (a4.mono fun i hi q => ?_)) (fun u V' r w' ρ' a1 a2 a3 a4 => hp u V' r w' ρ' a1 a2 a3 (a4.mono fun i hi q => ?_))
    · omega
    · omega
  · have := prim_ok hT hG h he hid
    intro hR next Q hn hp
    exact this hR next Q (fun u V' r w' ρ' a1 a2 a3 a4 => hn u V' r w' ρ' a1 a2 a3 (a4.mono fun i hi q => ⟨hm, q⟩)) (fun u V' r w' ρ' a1 a2 a3 a4 => hp u V' r w' ρ' a1 a2 a3 (a4.mono fun i hi q => ⟨hm, q⟩))
/-- One operation of a region, its guard seen. -/
theorem guarded_ok (hT : TOk P T) (hG : Summs P G) {ops : Array Oper} {i : Nat} (ho : ops[i]? = some o) (h : Sim P w0 B ρ V w) {e : Env} (he : EnvR ρ e a) {id : Nat} (hid : makes o ≠ 0 → id < V.next ∧ ρ id = none)
    {R : Res Value} (hR : guarded T G ops.toList id e o V = R) (hs : R ≠ .stuck) {K : Act → World → Prop} {Q : Exit → Act → World → Prop}
    (hn : ∀ u V' r w' ρ', R = .ok u V' → VR ρ' u r → Sim P w0 B ρ' V' w' → Ext (fun i => makes o ≠ 0 ∧ i = id) ρ V ρ' V' → K (a.put o.dst r) w')
    (hp : ∀ v V' r w' ρ', R = .panic v V' → VR ρ' v r → Sim P w0 B ρ' V' w' → Ext (fun i => makes o ≠ 0 ∧ i = id) ρ V ρ' V' → Q (.panic [{ v := r, recovered := false }]) a w') :
    wpOp P ops Q i K a w := by
  subst hR
  unfold wpOp
  simp only [ho]
  unfold guarded at hs hn hp
  cases hg : o.guard with
  | none =>
    simp only [hg] at hs hn hp
    rw [if_pos (by simp [Region.wanted, hg])]
    exact .inl (prim_ok' hT hG h he hid hs K Q hn hp)
  | some gw =>
    obtain ⟨g, want⟩ := gw
    simp only [hg] at hs hn hp
    cases hd : dstOf ops.toList g with
    | none => simp only [hd] at hs; exact absurd rfl hs
    | some d =>
      simp only [hd] at hs hn hp
      cases hb : e.get d with
      | none => simp only [hb, withV] at hs; exact absurd rfl hs
      | some b =>
        simp only [hb, withV] at hs hn hp
        obtain ⟨rb, h1, h2⟩ := he d b hb
        cases hbv : b <;> (subst hbv; first | (exact absurd rfl hs) | skip)
        rename_i c
        cases h2
        have hy : yielded ops a.tmps g = some c := by
          unfold yielded
          unfold dstOf at hd
          have hop : ∃ og, ops[g]? = some og ∧ og.dst = some d := by
            cases hq : ops.toList[g]? with
            | none => rw [hq] at hd; cases hd
            | some og => rw [hq] at hd; exact ⟨og, by simpa using hq, hd⟩
          obtain ⟨og, q1, q2⟩ := hop
          simp [q1, q2, h1]
        have hw : Region.wanted o (yielded ops a.tmps) = (c == want) := by
          simp only [Region.wanted, hg, hy]
          cases c <;> cases want <;> rfl
        rw [hw]
        simp only [guardM] at hs hn hp
        cases hcw : (c == want) with
        | true =>
          simp only [hcw, cond_true] at hs hn hp
          rw [if_pos rfl]
          exact .inl (prim_ok' hT hG h he hid hs K Q hn hp)
        | false =>
          simp only [hcw, cond_false] at hs hn hp
          rw [if_neg (by simp)]
          exact hn undefV V undef w ρ rfl (LR.tuple .nil) h (Ext.refl ..)
theorem stepOp_inv {β : Type} {nt : Nat} {ops : List Oper} {id : Nat} {e : Env} {k : Env → M β} {R : Res β} (h : stepOp T G nt ops id e o k V = R) (hs : R ≠ .stuck) :
    (∀ d, o.dst = some d → d < nt) ∧ guarded T G ops id e o V ≠ .stuck ∧ (∀ u V1, guarded T G ops id e o V = .ok u V1 → k (put e o.dst u) V1 = R) ∧ (∀ v V1, guarded T G ops id e o V = .panic v V1 → R = .panic v V1) := by
  subst h
  unfold stepOp at hs ⊢
  cases hc : dstOk nt o.dst with
  | false => rw [hc] at hs; exact absurd rfl hs
  | true =>
    rw [hc] at hs
    simp only [cond_true] at hs ⊢
    refine ⟨fun d hd => ?_, ?_⟩
    · rw [hd] at hc; simpa [dstOk, Nat.blt_eq] using hc
    · have plain : ∀ x, o.guard = none → (o.op = .move x ∨ o.op = .assign x) → withV (ev T e x) (fun v => k (put e o.dst v)) V ≠ .stuck →
          guarded T G ops id e o V ≠ .stuck ∧ (∀ u V1, guarded T G ops id e o V = .ok u V1 → k (put e o.dst u) V1 = withV (ev T e x) (fun v => k (put e o.dst v)) V) ∧
          (∀ v V1, guarded T G ops id e o V = .panic v V1 → withV (ev T e x) (fun v => k (put e o.dst v)) V = .panic v V1) := by
        intro x hg hop hns
        have : guarded T G ops id e o = withV (ev T e x) M.pure := by
          unfold guarded
          simp only [hg]
          unfold prim
          rcases hop with h | h <;> simp only [h]
        rw [this]
        cases hx : ev T e x with
        | none => rw [hx] at hns; exact absurd rfl hns
        | some v =>
          simp only [withV, M.pure]
          refine ⟨by simp, fun u V1 hq => ?_, fun u V1 hq => by cases hq⟩
          cases hq
          rfl
      have bound : M.bind (guarded T G ops id e o) (fun v => k (put e o.dst v)) V ≠ .stuck →
          guarded T G ops id e o V ≠ .stuck ∧ (∀ u V1, guarded T G ops id e o V = .ok u V1 → k (put e o.dst u) V1 = M.bind (guarded T G ops id e o) (fun v => k (put e o.dst v)) V) ∧
          (∀ v V1, guarded T G ops id e o V = .panic v V1 → M.bind (guarded T G ops id e o) (fun v => k (put e o.dst v)) V = .panic v V1) := by
        intro hns
        unfold M.bind at hns ⊢
        cases hq : guarded T G ops id e o V with
        | stuck => rw [hq] at hns; exact absurd rfl hns
        | ok u V1 => refine ⟨by simp, fun u' V1' hq' => ?_, fun u' V1' hq' => by cases hq'⟩; cases hq'; rfl
        | panic u V1 => refine ⟨by simp, fun u' V1' hq' => (by cases hq'), fun u' V1' hq' => ?_⟩; cases hq'; rfl
      cases hg : o.guard with
      | some _ => rw [hg] at hs; exact bound hs
      | none =>
        rw [hg] at hs
        cases hop : o.op <;> rw [hop] at hs <;> first
          | exact plain _ hg (.inl hop) hs
          | exact plain _ hg (.inr hop) hs
          | exact bound hs

theorem runOps_ok (hT : TOk P T) (hG : Summs P G) {β : Type} {nt : Nat} {ops : Array Oper} {base : Nat} {k : Env → M β} {R : Res β} {Q : Exit → Act → World → Prop} (hs : R ≠ .stuck) :
    ∀ (rest pre : List Oper), ops.toList = pre ++ rest → ∀ (n : Nat) (e : Env) (a : Act) (ρ : Ren) (V : VS) (w : World), Sim P w0 B ρ V w → EnvR ρ e a → a.tmps.size = nt →
    base + n + makesAll rest ≤ V.next ∨ makesAll rest = 0 → (∀ j, n ≤ j → j < n + makesAll rest → ρ (base + j) = none) → runOps T G nt ops.toList base rest n e k V = R →
    (∀ e' a' ρ' V' w', EnvR ρ' e' a' → Sim P w0 B ρ' V' w' → Ext (fun i => base + n ≤ i ∧ i < base + n + makesAll rest) ρ V ρ' V' → Kept (fun t => ∃ o ∈ rest, o.dst = some t) a a' → k e' V' = R → Q .normal a' w') →
    (∀ v V' r w' ρ' a', R = .panic v V' → VR ρ' v r → Sim P w0 B ρ' V' w' → Ext (fun i => base + n ≤ i ∧ i < base + n + makesAll rest) ρ V ρ' V' → Kept (fun t => ∃ o ∈ rest, o.dst = some t) a a' → Q (.panic [{ v := r, recovered := false }]) a' w') →
    wpOps P ops Q (List.range' pre.length rest.length) a w
  | [], pre, hops, n, e, a, ρ, V, w, h, he, hnt, hb, hfree, hrun, hn, hp => by
    simp only [runOps] at hrun
    exact hn e a ρ V w he h (Ext.refl ..) (Kept.refl ..) hrun
  | o :: rest, pre, hops, n, e, a, ρ, V, w, h, he, hnt, hb, hfree, hrun, hn, hp => by
    simp only [List.length_cons, List.range'_succ, wpOps_cons]
    have ho : ops[pre.length]? = some o := by
      have : ops.toList[pre.length]? = some o := by rw [hops]; simp
      simpa using this
    simp only [runOps] at hrun
    obtain ⟨hd, hgs, hok, hpan⟩ := stepOp_inv hrun hs
    have hmk : makes o ≤ 1 := by
      unfold makes
      split <;> simp
    have hmall : makesAll (o :: rest) = makes o + makesAll rest := rfl
    refine guarded_ok hT hG ho h he (id := base + n) (fun hm => ⟨?_, hfree n (Nat.le_refl _) (by omega)⟩) rfl hgs (fun u V' r w' ρ' e1 e2 e3 e4 => ?_) (fun v V' r w' ρ' e1 e2 e3 e4 => ?_)
    · rcases hb with hb | hb <;> omega
    · have hrest := hok u V' e1
      refine runOps_ok hT hG hs rest (pre ++ [o]) (by rw [hops]; simp) (n + makes o) (put e o.dst u) (a.put o.dst r) ρ' V' w' e3 (envR_put (he.mono e4.keep) (fun x hx => by rw [hnt]; exact hd x hx) e2) (by rw [(kept_put a o.dst r).size, hnt]) ?_ ?_ hrest ?_ ?_ |> (by simpa using ·)
      · rcases hb with hb | hb
        · exact .inl (by have := e4.next; omega)
        · exact .inr (by omega)
      · intro j h1 h2
        have hlt : base + j < V.next := by rcases hb with hb | hb <;> omega
        refine (e4.fresh (base + j) hlt ?_ (hfree j (by omega) (by omega))).1
        rintro ⟨hm, hj⟩
        omega
      · intro e' a' ρ2 V2 w2 g1 g2 g3 g4 g5
        refine hn e' a' ρ2 V2 w2 g1 g2 ((e4.trans g3).mono fun i hi q => ?_) (((kept_put a o.dst r).trans g4).mono fun t q => ?_) g5
        · rcases q with ⟨hm, rfl⟩ | ⟨q1, q2⟩ <;> omega
        · rcases q with q | ⟨o', q1, q2⟩
          · exact ⟨o, by simp, q⟩
          · exact ⟨o', by simp [q1], q2⟩
      · intro v V2 r2 w2 ρ2 a2 g1 g2 g3 g4 g5
        refine hp v V2 r2 w2 ρ2 a2 g1 g2 g3 ((e4.trans g4).mono fun i hi q => ?_) (((kept_put a o.dst r).trans g5).mono fun t q => ?_)
        · rcases q with ⟨hm, rfl⟩ | ⟨q1, q2⟩ <;> omega
        · rcases q with q | ⟨o', q1, q2⟩
          · exact ⟨o, by simp, q⟩
          · exact ⟨o', by simp [q1], q2⟩
    · refine hp v V' r w' ρ' a (hpan v V' e1) e2 e3 (e4.mono fun i hi q => ?_) (Kept.refl ..)
      omega
/-- A region that runs in order. -/
theorem region_ok (hT : TOk P T) (hG : Summs P G) {β : Type} {nt : Nat} {ops : Array Oper} {rid : Nat} {k : Env → M β} {R : Res β} {Q : Exit → Act → World → Prop} (hs : R ≠ .stuck)
    {e : Env} (h : Sim P w0 B ρ V w) (he : EnvR ρ e a) (hnt : a.tmps.size = nt) (hrun : region T G nt ops.toList e k V = R)
    (hn : ∀ e' a' ρ' V' w', EnvR ρ' e' a' → Sim P w0 B ρ' V' w' → Ext (fun _ => False) ρ V ρ' V' → Kept (fun t => ∃ o ∈ ops.toList, o.dst = some t) a a' → k e' V' = R → Q .normal a' w')
    (hp : ∀ v V' r w' ρ' a', R = .panic v V' → VR ρ' v r → Sim P w0 B ρ' V' w' → Ext (fun _ => False) ρ V ρ' V' → Kept (fun t => ∃ o ∈ ops.toList, o.dst = some t) a a' → Q (.panic [{ v := r, recovered := false }]) a' w') :
    (Code.region rid ops false).wp P Q a w := by
  apply wp_region
  have hrange : List.range ops.size = List.range' ([] : List Oper).length ops.toList.length := by simp [List.range_eq_range']
  rw [hrange]
  unfold region at hrun
  cases hm : Nat.beq (makesAll ops.toList) 0 with
  | true =>
    rw [hm] at hrun
    simp only [cond_true] at hrun
    have hm0 : makesAll ops.toList = 0 := Nat.eq_of_beq_eq_true hm
    exact runOps_ok hT hG hs ops.toList [] rfl 0 e a ρ V w h he hnt (.inr hm0) (fun j h1 h2 => by omega) hrun
      (fun e' a' ρ' V' w' g1 g2 g3 g4 g5 => hn e' a' ρ' V' w' g1 g2 (g3.mono fun i _ q => by omega) g4 g5)
      (fun v V' r w' ρ' a' g1 g2 g3 g4 g5 => hp v V' r w' ρ' a' g1 g2 g3 (g4.mono fun i _ q => by omega) g5)
  | false =>
    rw [hm] at hrun
    simp only [cond_false, M.bind, bump] at hrun
    have hnone : ∀ j, V.next ≤ j → ρ j = none := by
      intro j hj
      cases hq : ρ j with
      | none => rfl
      | some L => have := (h.dom j L hq).1; omega
    have ext : ∀ {ρ' V'}, Ext (fun i => V.next + 0 ≤ i ∧ i < V.next + 0 + makesAll ops.toList) ρ { V with next := V.next + makesAll ops.toList } ρ' V' → Ext (fun _ => False) ρ V ρ' V' := by
      intro ρ' V' g
      refine ⟨g.keep, fun i hi _ h0 => g.fresh i (by show i < V.next + _; omega) (by omega) h0, ?_⟩
      have : V.next + makesAll ops.toList ≤ V'.next := g.next
      omega
    exact runOps_ok hT hG hs ops.toList [] rfl 0 e a ρ { V with next := V.next + makesAll ops.toList } w (h.bump _) he hnt (.inl (by simp)) (fun j h1 h2 => hnone _ (by omega)) hrun
      (fun e' a' ρ' V' w' g1 g2 g3 g4 g5 => hn e' a' ρ' V' w' g1 g2 (ext g3) g4 g5)
      (fun v V' r w' ρ' a' g1 g2 g3 g4 g5 => hp v V' r w' ρ' a' g1 g2 g3 (ext g4) g5)
end
end Go.Vm
end
section
/- The virtual machine's code against the model's 'Code.wp'; functions. -/
set_option linter.unusedVariables false
set_option linter.unusedSimpArgs false
namespace Go.Vm
open Go Go.RowKit

/-- A loop with a bound on its rounds. -/
theorem wp_loop_fuel {P : Program} {Q : Exit → Act → World → Prop} {c : Code} (I : Nat → Act → World → Prop) (round : ∀ k a w, I k a w → c.wp P (Exit.then (fun a' w' => ∃ j, j < k ∧ I j a' w') Q) a w)
    {n : Nat} {a : Act} {w : World} (h0 : I n a w) : (Code.loop c).wp P Q a w := by
  classical
  have least : ∀ a w, (∃ k, I k a w) → ∃ k, I k a w ∧ ∀ j, I j a w → k ≤ j := by
    intro a w ⟨k, hk⟩
    induction k using Nat.strongRecOn with
    | _ k ih =>
      by_cases h : ∃ j, j < k ∧ I j a w
      · obtain ⟨j, hj, hi⟩ := h
        exact ih j hj hi
      · exact ⟨k, hk, fun j hj => Nat.le_of_not_lt fun q => h ⟨j, q, hj⟩⟩
  let μ : Act → World → Nat := fun a w => if h : ∃ k, I k a w then (least a w h).choose else 0
  have hμ : ∀ a w (h : ∃ k, I k a w), I (μ a w) a w ∧ ∀ j, I j a w → μ a w ≤ j := by
    intro a w h
    show I (if h : ∃ k, I k a w then (least a w h).choose else 0) a w ∧ _
    have hm : μ a w = (least a w h).choose := dif_pos h
    rw [dif_pos h]
    refine ⟨(least a w h).choose_spec.1, fun j hj => ?_⟩
    rw [hm]
    exact (least a w h).choose_spec.2 j hj
  refine wp_loop (fun a w => ∃ k, I k a w) μ ⟨n, h0⟩ fun a w hI => ?_
  obtain ⟨h1, h2⟩ := hμ a w hI
  refine wp_mono (round _ a w h1) fun e a' w' hq => ?_
  cases e with
  | normal =>
    obtain ⟨j, hj, hi⟩ := hq
    exact ⟨⟨j, hi⟩, Nat.lt_of_le_of_lt ((hμ a' w' ⟨j, hi⟩).2 j hi) hj⟩
  | exit id => exact hq
  | goto l => exact hq
  | ret => exact hq
  | panic ch => exact hq
  | outgrown => exact hq

section
variable (P : Program) (w0 : World) (B : Nat)
structure At (ρ0 : Ren) (V0 : VS) (ws : List Nat) (a0 : Act) (e : Env) (ρ : Ren) (V : VS) (a : Act) (w : World) : Prop where
  env : EnvR ρ e a
  sim : Sim P w0 B ρ V w
  ext : Ext (fun _ => False) ρ0 V0 ρ V
  kept : Kept (· ∈ ws) a0 a
/-- What the rest answers is 'R'. -/
def Post {β : Type} (ρ0 : Ren) (V0 : VS) (ws : List Nat) (a0 : Act) (R : Res β) (kN : Env → M β) (kE : Nat → Env → M β) (kR : Env → M β) : Exit → Act → World → Prop
  | .normal, a, w => ∃ e ρ V, At P w0 B ρ0 V0 ws a0 e ρ V a w ∧ kN e V = R
  | .exit id, a, w => ∃ e ρ V, At P w0 B ρ0 V0 ws a0 e ρ V a w ∧ kE id e V = R
  | .ret, a, w => ∃ e ρ V, At P w0 B ρ0 V0 ws a0 e ρ V a w ∧ kR e V = R
  | .panic ch, a, w => ∃ v r ρ V, ch = [{ v := r, recovered := false }] ∧ R = .panic v V ∧ VR ρ v r ∧ Sim P w0 B ρ V w ∧ Ext (fun _ => False) ρ0 V0 ρ V ∧ Kept (· ∈ ws) a0 a
  | _, _, _ => False
end

section
variable {P : Program} {w0 : World} {B : Nat} {ρ : Ren} {V : VS} {w : World} {T : TT} {a : Act} {G : FT} {β : Type}

theorem ext_trans {ρ1 ρ2 : Ren} {V1 V2 : VS} (h : Ext (fun _ => False) ρ V ρ1 V1) (k : Ext (fun _ => False) ρ1 V1 ρ2 V2) : Ext (fun _ => False) ρ V ρ2 V2 :=
  (h.trans k).mono fun i _ q => by rcases q with q | q <;> exact q
theorem At.trans {ρ0 ρ1 ρ2 : Ren} {V0 V1 V2 : VS} {ws ws' ws'' : List Nat} {a0 a1 a2 : Act} {e : Env} (hx : Ext (fun _ => False) ρ0 V0 ρ1 V1) (hk : Kept (· ∈ ws) a0 a1) (h : At P w0 B ρ1 V1 ws' a1 e ρ2 V2 a2 w)
    (h1 : ∀ t, t ∈ ws → t ∈ ws'') (h2 : ∀ t, t ∈ ws' → t ∈ ws'') : At P w0 B ρ0 V0 ws'' a0 e ρ2 V2 a2 w :=
  ⟨h.env, h.sim, ext_trans hx h.ext, (hk.trans h.kept).mono fun t q => by rcases q with q | q; exact h1 t q; exact h2 t q⟩
theorem Post.trans {ρ0 ρ1 : Ren} {V0 V1 : VS} {ws ws' ws'' : List Nat} {a0 a1 : Act} {R : Res β} {kN : Env → M β} {kE : Nat → Env → M β} {kR : Env → M β} {x : Exit} (hx : Ext (fun _ => False) ρ0 V0 ρ1 V1) (hk : Kept (· ∈ ws) a0 a1)
    (h1 : ∀ t, t ∈ ws → t ∈ ws'') (h2 : ∀ t, t ∈ ws' → t ∈ ws'') (h : Post P w0 B ρ1 V1 ws' a1 R kN kE kR x a w) : Post P w0 B ρ0 V0 ws'' a0 R kN kE kR x a w := by
  cases x with
  | normal => obtain ⟨e, ρ2, V2, g1, g2⟩ := h; exact ⟨e, ρ2, V2, g1.trans hx hk h1 h2, g2⟩
  | exit id => obtain ⟨e, ρ2, V2, g1, g2⟩ := h; exact ⟨e, ρ2, V2, g1.trans hx hk h1 h2, g2⟩
  | ret => obtain ⟨e, ρ2, V2, g1, g2⟩ := h; exact ⟨e, ρ2, V2, g1.trans hx hk h1 h2, g2⟩
  | panic ch => obtain ⟨v, r, ρ2, V2, g1, g2, g3, g4, g5, g6⟩ := h; exact ⟨v, r, ρ2, V2, g1, g2, g3, g4, ext_trans hx g5, (hk.trans g6).mono fun t q => by rcases q with q | q; exact h1 t q; exact h2 t q⟩
  | goto l => exact h
  | outgrown => exact h
theorem Post.wider {ρ0 : Ren} {V0 : VS} {ws ws' : List Nat} {a0 : Act} {R : Res β} {kN : Env → M β} {kE : Nat → Env → M β} {kR : Env → M β} {x : Exit} (h2 : ∀ t, t ∈ ws → t ∈ ws')
    (h : Post P w0 B ρ0 V0 ws a0 R kN kE kR x a w) : Post P w0 B ρ0 V0 ws' a0 R kN kE kR x a w :=
  h.trans (ws := []) (Ext.refl ..) (Kept.refl ..) (fun t ht => by cases ht) h2

/-! ### Joins -/
theorem keepE_get {ws : List Nat} : ∀ {e : Env} {t : Nat} {v : Value}, (keepE ws e).get t = some v → ¬ t ∈ ws ∧ e.get t = some v
  | [], t, v, h => by simp [keepE, Env.get] at h
  | (d, u) :: e, t, v, h => by
    simp only [keepE, List.filter_cons] at h
    cases hc : ws.contains d with
    | true =>
      rw [hc] at h
      simp only [Bool.not_true, Bool.false_eq_true, if_false] at h
      obtain ⟨h1, h2⟩ := keepE_get (e := e) h
      refine ⟨h1, ?_⟩
      have hne : d ≠ t := fun q => h1 (by subst q; simpa using hc)
      simp only [Env.get]
      rw [show Nat.beq d t = false from by cases hq : Nat.beq d t with | false => rfl | true => exact absurd (Nat.eq_of_beq_eq_true hq) hne]
      exact h2
    | false =>
      rw [hc] at h
      simp only [Bool.not_false, if_true, Env.get] at h ⊢
      cases hb : Nat.beq d t with
      | true =>
        rw [hb] at h
        have : d = t := Nat.eq_of_beq_eq_true hb
        subst this
        exact ⟨by simpa using hc, h⟩
      | false =>
        rw [hb] at h
        exact keepE_get (e := e) h
theorem keepE_env {ρ ρ' : Ren} {e : Env} {a a' : Act} {ws : List Nat} (h : EnvR ρ e a) (hg : Grows ρ ρ') (hk : Kept (· ∈ ws) a a') : EnvR ρ' (keepE ws e) a' := by
  intro t v ht
  obtain ⟨h1, h2⟩ := keepE_get ht
  obtain ⟨r, h3, h4⟩ := h t v h2
  exact ⟨r, by rw [hk.tmps t h1]; exact h3, h4.mono hg⟩
theorem zipE_env {ρ : Ren} {a : Act} {e1 : Env} (he1 : EnvR ρ e1 a) {vs : List Value} : ∀ (l : List Nat) (i : Nat) (e : Env), EnvR ρ e a → (∀ (j : Nat) t, l[j]? = some t → ∃ v, vs[i + j]? = some v ∧ e1.get t = some v) → EnvR ρ (zipE l vs i e) a
  | [], i, e, he, _ => he
  | t :: l, i, e, he, h => by
    intro s v hs
    simp only [zipE, Env.get] at hs
    cases hb : Nat.beq t s with
    | true =>
      rw [hb] at hs
      cases hs
      have hts : t = s := Nat.eq_of_beq_eq_true hb
      subst hts
      obtain ⟨u, h1, h2⟩ := h 0 t rfl
      have : nth vs i = u := by simp at h1; simp [nth, h1]
      rw [this]
      exact he1 t u h2
    | false =>
      rw [hb] at hs
      exact zipE_env he1 l (i + 1) e he (fun j t' hj => by
        obtain ⟨u, h1, h2⟩ := h (j + 1) t' (by simpa using hj)
        exact ⟨u, by rw [show i + 1 + j = i + (j + 1) by omega]; exact h1, h2⟩) s v hs
theorem sel_get {e : Env} : ∀ {l : List Nat} {vs : List Value}, sel e l = some vs → ∀ (j : Nat) t, l[j]? = some t → ∃ v, vs[j]? = some v ∧ e.get t = some v
  | [], vs, h, j, t, hj => by simp at hj
  | x :: l, vs, h, j, t, hj => by
    unfold sel at h
    split at h
    · rename_i v l' h1 h2
      cases h
      cases j with
      | zero => simp at hj; subst hj; exact ⟨v, rfl, h1⟩
      | succ j => exact sel_get h2 j t (by simpa using hj)
    · cases h
theorem selJ_inv {mk : List Value → J} {l : List Nat} {e : Env} {V : VS} {R : Res J} (h : selJ mk l e V = R) (hs : R ≠ .stuck) : ∃ vs, sel e l = some vs ∧ R = .ok (mk vs) V := by
  subst h
  unfold selJ at *
  cases hl : sel e l with
  | none => rw [hl] at hs; exact absurd rfl hs
  | some vs => exact ⟨vs, rfl, rfl⟩
theorem bind_inv {α : Type} {m : M α} {f : α → M β} {V : VS} {R : Res β} (h : M.bind m f V = R) (hs : R ≠ .stuck) :
    m V ≠ .stuck ∧ (∀ j V1, m V = .ok j V1 → f j V1 = R) ∧ (∀ v V1, m V = .panic v V1 → R = .panic v V1) := by
  subst h
  unfold M.bind at *
  cases hm : m V with
  | stuck => rw [hm] at hs; exact absurd rfl hs
  | ok j V1 => exact ⟨by simp, fun j' V' h => by cases h; rfl, fun v V' h => by cases h⟩
  | panic v V1 =>
    refine ⟨by simp, ?_, ?_⟩
    · intro j' V' h; cases h
    · intro v V' h; cases h; rfl
theorem onExit_inv {id : Nat} {k : Nat → M β} {V : VS} {R : Res β} (hs : R ≠ .stuck) : ∀ {ids : List Nat}, onExit id k ids V = R → k id V = R
  | [], h => by subst h; exact absurd rfl hs
  | q :: r, h => by
    unfold onExit at h
    cases hb : Nat.beq id q with
    | true => rw [hb] at h; rw [Nat.eq_of_beq_eq_true hb]; exact h
    | false => rw [hb] at h; exact onExit_inv hs h
/-- Behind a join. -/
theorem join_post {ρ0 : Ren} {V0 : VS} {ws : List Nat} {a0 : Act} {e : Env} (he : EnvR ρ0 e a0) {n ids x : List Nat} {r : Option (List Nat)} {Ri : Res J} {R : Res β} (hs : R ≠ .stuck) (hsi : Ri ≠ .stuck)
    {kN : Env → M β} {kE : Nat → Env → M β} {kR : Env → M β} (hok : ∀ j V1, Ri = .ok j V1 → joinK ws n ids x r e kN kE kR j V1 = R) (hpan : ∀ v V1, Ri = .panic v V1 → R = .panic v V1)
    {X : Exit} (h : Post P w0 B ρ0 V0 ws a0 Ri (selJ .norm n) (fun id => selJ (.exit id) x) (selR r) X a w) : Post P w0 B ρ0 V0 ws a0 R kN kE kR X a w := by
  have env : ∀ {e1 : Env} {ρ1 : Ren} {V1 : VS} {l : List Nat} {vs : List Value}, At P w0 B ρ0 V0 ws a0 e1 ρ1 V1 a w → sel e1 l = some vs → At P w0 B ρ0 V0 ws a0 (zipE l vs 0 (keepE ws e)) ρ1 V1 a w :=
    fun g hv => ⟨zipE_env g.env _ 0 _ (keepE_env he g.ext.keep g.kept) (fun j t hj => by simpa using sel_get hv j t hj), g.sim, g.ext, g.kept⟩
  cases X with
  | normal =>
    obtain ⟨e1, ρ1, V1, g1, g2⟩ := h
    obtain ⟨vs, h1, h2⟩ := selJ_inv g2 hsi
    exact ⟨_, ρ1, V1, env g1 h1, hok _ _ h2⟩
  | exit id =>
    obtain ⟨e1, ρ1, V1, g1, g2⟩ := h
    obtain ⟨vs, h1, h2⟩ := selJ_inv g2 hsi
    have := hok _ _ h2
    simp only [joinK, onJ] at this
    exact ⟨_, ρ1, V1, env g1 h1, onExit_inv (k := fun q => kE q (zipE x vs 0 (keepE ws e))) hs this⟩
  | ret =>
    obtain ⟨e1, ρ1, V1, g1, g2⟩ := h
    cases r with
    | none => simp only [selR] at g2; exact absurd g2.symm hsi
    | some l =>
      obtain ⟨vs, h1, h2⟩ := selJ_inv g2 hsi
      exact ⟨_, ρ1, V1, env g1 h1, hok _ _ h2⟩
  | panic ch => obtain ⟨v, r', ρ2, V2, g1, g2, g3⟩ := h; exact ⟨v, r', ρ2, V2, g1, hpan _ _ g2, g3⟩
  | goto l => exact h
  | outgrown => exact h

/-- Regions that draw are sound. -/
def DrawSound (P : Program) (T : TT) (G : FT) (nt : Nat) : Prop :=
  ∀ {β : Type} (w0 : World) (B : Nat) (ρ : Ren) (V : VS) (w : World) (a : Act) (ops : Array Oper) (rid : Nat) (perm : List Nat) (k : Env → M β) (R : Res β) (Q : Exit → Act → World → Prop), R ≠ .stuck →
    ∀ (e : Env), Sim P w0 B ρ V w → EnvR ρ e a → a.tmps.size = nt → draw T G nt ops.toList perm e k V = R →
    (∀ e' a' ρ' V' w', EnvR ρ' e' a' → Sim P w0 B ρ' V' w' → Ext (fun _ => False) ρ V ρ' V' → Kept (fun t => ∃ o ∈ ops.toList, o.dst = some t) a a' → k e' V' = R → Q .normal a' w') →
    (∀ v V' r w' ρ' a', R = .panic v V' → VR ρ' v r → Sim P w0 B ρ' V' w' → Ext (fun _ => False) ρ V ρ' V' → Kept (fun t => ∃ o ∈ ops.toList, o.dst = some t) a a' → Q (.panic [{ v := r, recovered := false }]) a' w') →
    (Code.region rid ops true).wp P Q a w

theorem condM_inv {v : Value} {A C : M β} {V : VS} {R : Res β} (h : condM v A C V = R) (hs : R ≠ .stuck) : ∃ t, v = .bool t ∧ (if t then A V = R else C V = R) := by
  subst h
  unfold condM at *
  split at hs
  · rename_i t; exact ⟨t, rfl, by cases t <;> rfl⟩
  · exact absurd rfl hs

theorem exec_sound (hT : TOk P T) (hG : Summs P G) {nt : Nat} (hD : DrawSound P T G nt) : ∀ (c : Code) {β : Type} (h : Hint) (e : Env) (kN : Env → M β) (kE : Nat → Env → M β) (kR : Env → M β) (a : Act) (ρ : Ren) (V : VS) (w : World) (R : Res β),
    Sim P w0 B ρ V w → EnvR ρ e a → a.tmps.size = nt → exec T G nt c h e kN kE kR V = R → R ≠ .stuck → c.wp P (Post P w0 B ρ V (writes c) a R kN kE kR) a w := by
  intro c
  induction c with
  | skip =>
    intro β h e kN kE kR a ρ V w R hsim he hnt hR hs
    simp only [exec] at hR
    exact wp_skip ⟨e, ρ, V, ⟨he, hsim, Ext.refl .., Kept.refl ..⟩, hR⟩
  | region id ops d =>
    intro β h e kN kE kR a ρ V w R hsim he hnt hR hs
    have mem : ∀ t, (∃ o ∈ ops.toList, o.dst = some t) → t ∈ writes (.region id ops d) := by
      rintro t ⟨o, ho, hd⟩
      exact List.mem_filterMap.2 ⟨o, ho, hd⟩
    have hn : ∀ e' a' ρ' V' w', EnvR ρ' e' a' → Sim P w0 B ρ' V' w' → Ext (fun _ => False) ρ V ρ' V' → Kept (fun t => ∃ o ∈ ops.toList, o.dst = some t) a a' → kN e' V' = R → Post P w0 B ρ V (writes (.region id ops d)) a R kN kE kR .normal a' w' :=
      fun e' a' ρ' V' w' g1 g2 g3 g4 g5 => ⟨e', ρ', V', ⟨g1, g2, g3, g4.mono mem⟩, g5⟩
    have hp : ∀ v V' r w' ρ' a', R = .panic v V' → VR ρ' v r → Sim P w0 B ρ' V' w' → Ext (fun _ => False) ρ V ρ' V' → Kept (fun t => ∃ o ∈ ops.toList, o.dst = some t) a a' → Post P w0 B ρ V (writes (.region id ops d)) a R kN kE kR (.panic [{ v := r, recovered := false }]) a' w' :=
      fun v V' r w' ρ' a' g1 g2 g3 g4 g5 => ⟨v, r, ρ', V', rfl, g1, g2, g3, g4, g5.mono mem⟩
    cases d with
    | false =>
      simp only [exec] at hR
      exact region_ok hT hG hs hsim he hnt hR hn hp
    | true =>
      cases h <;> first | (simp only [exec] at hR; exact absurd hR.symm hs) | skip
      rename_i perm
      simp only [exec] at hR
      exact hD w0 B ρ V w a ops id perm kN R _ hs e hsim he hnt hR hn hp
  | seq x y ihx ihy =>
    intro β h e kN kE kR a ρ V w R hsim he hnt hR hs
    cases h <;> first | (simp only [exec] at hR; exact absurd hR.symm hs) | skip
    rename_i h g
    simp only [exec] at hR
    refine wp_seq (wp_mono (ihx h e _ kE kR a ρ V w R hsim he hnt hR hs) fun X a1 w1 hq => ?_)
    have hwx : ∀ t, t ∈ writes x → t ∈ writes (.seq x y) := fun t ht => by simp [writes, ht]
    have hwy : ∀ t, t ∈ writes y → t ∈ writes (.seq x y) := fun t ht => by simp [writes, ht]
    cases X with
    | normal =>
      obtain ⟨e1, ρ1, V1, g1, g2⟩ := hq
      refine wp_mono (ihy g e1 kN kE kR a1 ρ1 V1 w1 R g1.sim g1.env (by rw [g1.kept.size, hnt]) g2 hs) fun X a2 w2 hq2 => ?_
      exact hq2.trans g1.ext g1.kept hwx hwy
    | exit id => obtain ⟨e1, ρ1, V1, g1, g2⟩ := hq; exact ⟨e1, ρ1, V1, g1.trans (ws := []) (Ext.refl ..) (Kept.refl ..) (fun t ht => by cases ht) hwx, g2⟩
    | ret => obtain ⟨e1, ρ1, V1, g1, g2⟩ := hq; exact ⟨e1, ρ1, V1, g1.trans (ws := []) (Ext.refl ..) (Kept.refl ..) (fun t ht => by cases ht) hwx, g2⟩
    | panic ch => obtain ⟨v, r, ρ2, V2, g1, g2, g3, g4, g5, g6⟩ := hq; exact ⟨v, r, ρ2, V2, g1, g2, g3, g4, g5, g6.mono fun t q => hwx t q⟩
    | goto l => exact hq
    | outgrown => exact hq
  | cond c x y ihx ihy =>
    intro β h e kN kE kR a ρ V w R hsim he hnt hR hs
    have hwx : ∀ t, t ∈ writes x → t ∈ writes (.cond c x y) := fun t ht => by simp [writes, ht]
    have hwy : ∀ t, t ∈ writes y → t ∈ writes (.cond c x y) := fun t ht => by simp [writes, ht]
    cases h <;> first | (simp only [exec] at hR; exact absurd hR.symm hs) | skip
    case cond h g =>
      simp only [exec] at hR
      cases hv : ev T e c with
      | none => rw [hv] at hR; exact absurd hR.symm hs
      | some v =>
        rw [hv] at hR
        obtain ⟨t, rfl, ht⟩ := condM_inv hR hs
        have hev := ev_run hT hsim he hv
        have hc : a.eval c = .bool t := by generalize a.eval c = q at hev; cases hev; rfl
        refine wp_cond hc ?_
        cases t with
        | true => exact wp_mono (ihx h e kN kE kR a ρ V w R hsim he hnt ht hs) fun X a2 w2 hq => hq.wider hwx
        | false => exact wp_mono (ihy g e kN kE kR a ρ V w R hsim he hnt ht hs) fun X a2 w2 hq => hq.wider hwy
    case condJ n ids x' r h g =>
      simp only [exec] at hR
      cases hv : ev T e c with
      | none => rw [hv] at hR; exact absurd hR.symm hs
      | some v =>
        rw [hv] at hR
        obtain ⟨hsi, hok, hpan⟩ := bind_inv hR hs
        obtain ⟨t, rfl, ht⟩ := condM_inv rfl hsi
        have hev := ev_run hT hsim he hv
        have hc : a.eval c = .bool t := by generalize a.eval c = q at hev; cases hev; rfl
        refine wp_cond hc ?_
        cases t with
        | true => exact wp_mono (ihx h e _ _ _ a ρ V w _ hsim he hnt ht hsi) fun X a2 w2 hq => join_post (ws := writes (.cond c x y)) he hs hsi hok hpan (hq.wider hwx)
        | false => exact wp_mono (ihy g e _ _ _ a ρ V w _ hsim he hnt ht hsi) fun X a2 w2 hq => join_post (ws := writes (.cond c x y)) he hs hsi hok hpan (hq.wider hwy)
  | block id x ihx =>
    intro β h e kN kE kR a ρ V w R hsim he hnt hR hs
    have hwx : ∀ t, t ∈ writes x → t ∈ writes (.block id x) := fun t ht => by simpa [writes] using ht
    cases h <;> first | (simp only [exec] at hR; exact absurd hR.symm hs) | skip
    case block h =>
      simp only [exec] at hR
      refine wp_block (wp_mono (ihx h e _ _ _ a ρ V w R hsim he hnt hR hs) fun X a2 w2 hq => ?_)
      have hq := hq.wider hwx
      cases X with
      | exit id' =>
        obtain ⟨e1, ρ1, V1, g1, g2⟩ := hq
        simp only [Exit.inBlock]
        cases hb : Nat.beq id' id with
        | true =>
          simp only [hb, cond_true] at g2
          rw [if_pos (Nat.eq_of_beq_eq_true hb)]
          exact ⟨e1, ρ1, V1, g1, g2⟩
        | false =>
          simp only [hb, cond_false] at g2
          rw [if_neg (Nat.ne_of_beq_eq_false hb)]
          exact ⟨e1, ρ1, V1, g1, g2⟩
      | normal => exact hq
      | ret => exact hq
      | panic ch => exact hq
      | goto l => exact hq
      | outgrown => exact hq
    case blockJ n ids x' r h =>
      simp only [exec] at hR
      obtain ⟨hsi, hok, hpan⟩ := bind_inv hR hs
      refine wp_block (wp_mono (ihx h e _ _ _ a ρ V w _ hsim he hnt rfl hsi) fun X a2 w2 hq => ?_)
      have hq := hq.wider hwx
      cases X with
      | exit id' =>
        obtain ⟨e1, ρ1, V1, g1, g2⟩ := hq
        simp only [Exit.inBlock]
        cases hb : Nat.beq id' id with
        | true =>
          simp only [hb, cond_true] at g2
          rw [if_pos (Nat.eq_of_beq_eq_true hb)]
          exact join_post (X := .normal) (ws := writes (.block id x)) he hs hsi hok hpan ⟨e1, ρ1, V1, g1, g2⟩
        | false =>
          simp only [hb, cond_false] at g2
          rw [if_neg (Nat.ne_of_beq_eq_false hb)]
          exact join_post (X := .exit id') (ws := writes (.block id x)) he hs hsi hok hpan ⟨e1, ρ1, V1, g1, g2⟩
      | normal => exact join_post (X := .normal) (ws := writes (.block id x)) he hs hsi hok hpan hq
      | ret => exact join_post (X := .ret) (ws := writes (.block id x)) he hs hsi hok hpan hq
      | panic ch => exact join_post (X := .panic ch) (ws := writes (.block id x)) he hs hsi hok hpan hq
      | goto l => exact hq
      | outgrown => exact hq
  | loop x ihx =>
    intro β h e kN kE kR a ρ V w R hsim he hnt hR hs
    cases h <;> first | (simp only [exec] at hR; exact absurd hR.symm hs) | skip
    rename_i n ids x' r h
    simp only [exec] at hR
    cases hv : sel e n with
    | none => rw [hv] at hR; exact absurd hR.symm hs
    | some vs =>
      rw [hv] at hR
      obtain ⟨hsi, hok, hpan⟩ := bind_inv hR hs
      generalize hbody : (fun vs => exec T G nt x h (zipE n vs 0 (keepE (writes x) e)) (selJ .norm n) (fun id => selJ (.exit id) x') (selR r)) = body at hsi hok hpan
      generalize hRi : loopM body vs V = Ri at hsi hok hpan
      unfold loopM at hRi
      let I : Nat → Act → World → Prop := fun k a' w' => ∃ vs' ρ' V', iter body k vs' V' = Ri ∧ At P w0 B ρ V (writes x) a (zipE n vs' 0 (keepE (writes x) e)) ρ' V' a' w'
      have hI0 : I FUEL a w := ⟨vs, ρ, V, hRi, zipE_env he _ 0 _ (keepE_env he (Grows.refl ρ) (Kept.refl ..)) (fun j t hj => by simpa using sel_get hv j t hj), hsim, Ext.refl .., Kept.refl ..⟩
      refine wp_loop_fuel I (fun k a1 w1 hI => ?_) hI0
      obtain ⟨vs1, ρ1, V1, hit, hat⟩ := hI
      cases k with
      | zero => simp only [iter] at hit; exact absurd hit.symm hsi
      | succ k =>
        simp only [iter] at hit
        obtain ⟨hsb, hokb, hpanb⟩ := bind_inv hit hsi
        have hb1 : body vs1 = exec T G nt x h (zipE n vs1 0 (keepE (writes x) e)) (selJ .norm n) (fun id => selJ (.exit id) x') (selR r) := by rw [← hbody]
        refine wp_mono (ihx h _ _ _ _ a1 ρ1 V1 w1 (body vs1 V1) hat.sim hat.env (by rw [hat.kept.size, hnt]) (by rw [hb1]) hsb) fun X a2 w2 hq => ?_
        have hq := hq.trans (ws'' := writes x) hat.ext hat.kept (fun t ht => ht) (fun t ht => ht)
        -- an end of the loop
        have out : ∀ (Y : Exit), (∀ j V2, body vs1 V1 = .ok j V2 → Ri = .ok j V2) → Post P w0 B ρ V (writes x) a (body vs1 V1) (selJ .norm n) (fun id => selJ (.exit id) x') (selR r) Y a2 w2 → Post P w0 B ρ V (writes x) a R (fun _ => M.stuck) kE kR Y a2 w2 :=
          fun Y hj hq => join_post (ws := writes x) he hs hsb (fun j V2 hj2 => hok j V2 (hj j V2 hj2)) (fun v V2 hv2 => hpan v V2 (hpanb v V2 hv2)) hq
        have hout : ∀ Y : Exit, Y ≠ .normal → Post P w0 B ρ V (writes x) a R (fun _ => M.stuck) kE kR Y a2 w2 → Exit.then (fun a' w' => ∃ j, j < k + 1 ∧ I j a' w') (Post P w0 B ρ V (writes (.loop x)) a R kN kE kR) Y a2 w2 := by
          intro Y hY hp
          cases Y with
          | normal => exact absurd rfl hY
          | exit id => exact hp
          | ret => exact hp
          | panic ch => exact hp
          | goto l => exact hp
          | outgrown => exact hp
        cases X with
        | normal =>
          obtain ⟨e2, ρ2, V2, g1, g2⟩ := hq
          obtain ⟨vs2, h1, h2⟩ := selJ_inv g2 hsb
          have := hokb _ _ h2
          simp only at this
          exact ⟨k, Nat.lt_succ_self k, vs2, ρ2, V2, this, zipE_env g1.env _ 0 _ (keepE_env he g1.ext.keep g1.kept) (fun j t hj => by simpa using sel_get h1 j t hj), g1.sim, g1.ext, g1.kept⟩
        | exit id =>
          refine hout (.exit id) (by simp) (out (.exit id) (fun j V2 hj => ?_) hq)
          obtain ⟨e2, ρ2, V3, g1, g2⟩ := hq
          obtain ⟨vs2, h1, h2⟩ := selJ_inv g2 hsb
          have := hokb _ _ hj
          rw [h2] at hj
          cases hj
          exact this.symm
        | ret =>
          refine hout .ret (by simp) (out .ret (fun j V2 hj => ?_) hq)
          obtain ⟨e2, ρ2, V3, g1, g2⟩ := hq
          cases r with
          | none => simp only [selR] at g2; exact absurd g2.symm hsb
          | some l =>
            obtain ⟨vs2, h1, h2⟩ := selJ_inv g2 hsb
            have := hokb _ _ hj
            rw [h2] at hj
            cases hj
            exact this.symm
        | panic ch =>
          refine hout (.panic ch) (by simp) (out (.panic ch) (fun j V2 hj => ?_) hq)
          obtain ⟨v, r', ρ2, V3, g1, g2, g3⟩ := hq
          rw [g2] at hj
          cases hj
        | goto l => exact hq
        | outgrown => exact hq
  | exit id =>
    intro β h e kN kE kR a ρ V w R hsim he hnt hR hs
    simp only [exec] at hR
    exact wp_exit ⟨e, ρ, V, ⟨he, hsim, Ext.refl .., Kept.refl ..⟩, hR⟩
  | ret =>
    intro β h e kN kE kR a ρ V w R hsim he hnt hR hs
    simp only [exec] at hR
    exact wp_ret ⟨e, ρ, V, ⟨he, hsim, Ext.refl .., Kept.refl ..⟩, hR⟩
  | _ =>
    intro β h e kN kE kR a ρ V w R hsim he hnt hR hs
    simp only [exec] at hR
    exact absurd hR.symm hs
end
end Go.Vm
end
section
/- The virtual machine's functions: what 'execFn' answers a call of the function does. -/
set_option linter.unusedVariables false
set_option linter.unusedSimpArgs false
namespace Go.Vm
open Go Go.RowKit

section
variable {P : Program} {w0 : World} {B : Nat} {ρ : Ren} {V : VS} {w : World} {T : TT} {a : Act} {G : FT} {β : Type}

theorem ld_same {b : Bool} {n : Nat} {x : Value} {R : Res Value} (h : cond b (ldN n x) (ld1 x) V = R) (hs : R ≠ .stuck) : ∃ u, R = .ok u V ∧ ∃ q, x = .pointer (some q) := by
  subst h
  cases b with
  | true =>
    simp only [cond_true] at *
    unfold ldN at *
    split at hs
    · split at hs
      · split at hs
        · rename_i hq; exact ⟨_, by rw [if_pos hq], _, rfl⟩
        · exact absurd rfl hs
      · exact absurd rfl hs
    · exact absurd rfl hs
  | false =>
    simp only [cond_false] at *
    unfold ld1 at *
    split at hs
    · split at hs
      · split at hs
        · exact ⟨_, rfl, _, rfl⟩
        · exact absurd rfl hs
      · exact absurd rfl hs
    · exact absurd rfl hs
/-- The real result of one variable. -/
def resRun (tmps : Array Value) : ResultVar → Sem Value
  | .tmp t => pure (tmps.getD t undef)
  | .cell a t => do loadVar t (← asAddr (tmps.getD a undef))
theorem resOne_inv (hT : TOk P T) (h : Sim P w0 B ρ V w) {e : Env} (he : EnvR ρ e a) {r : ResultVar} {k : Value → M Value} {R : Res Value} (hR : resOne T e r k V = R) (hs : R ≠ .stuck) :
    ∃ u q, VR ρ u q ∧ (resRun a.tmps r).run P w = .ok q w ∧ k u V = R := by
  unfold resOne at hR
  cases r with
  | tmp t =>
    simp only at hR
    cases hg : e.get t with
    | none => rw [hg] at hR; exact absurd hR.symm hs
    | some v =>
      rw [hg] at hR
      obtain ⟨q, h1, h2⟩ := he t v hg
      exact ⟨v, q, h2, by simp [resRun, Array.getD_eq_getD_getElem?, h1], hR⟩
  | cell c t =>
    simp only at hR
    cases hi : T.get t with
    | none => rw [hi] at hR; exact absurd hR.symm hs
    | some i =>
      rw [hi] at hR
      simp only [withT] at hR
      cases hg : e.get c with
      | none => rw [hg] at hR; exact absurd hR.symm hs
      | some v =>
        rw [hg] at hR
        simp only [withV] at hR
        obtain ⟨hm, hok, hpp⟩ := bind_inv hR hs
        clear hpp
        obtain ⟨u, h1, ad, hv⟩ := ld_same rfl hm
        subst hv
        obtain ⟨q, h3, h4⟩ := he c _ hg
        obtain ⟨inf, hinf, hsz, hby, hz⟩ := hT.info t i hi
        obtain ⟨d, hu, hk⟩ := hT.under t i hi
        have hgood : Good P w0 B (fun _ => False) ρ V w (Instr.loadAt t q) (cond i.kind.isAgg (ldN i.size (.pointer (some ad))) (ld1 (.pointer (some ad))) V) := by
          rw [← hk, ← hsz]
          cases ha : (tkOf d).isAgg with
          | true => exact good_ldN h hu ha hinf h4
          | false => exact good_ld1 h hu ha h4
        -- loads leave the world
        cases h4 with
        | ptr hL =>
          rename_i b o L
          have hrd : ∃ r', (Instr.loadAt t (.pointer (some ⟨L.b, L.s + o, none⟩))).run P w = .ok r' w ∧ VR ρ u r' := by
            rw [← hk, ← hsz] at h1
            cases ha : (tkOf d).isAgg with
            | true =>
              rw [ha] at h1
              simp only [cond_true, ldN] at h1
              split at h1
              · rename_i own cs ty hmem
                split at h1
                · rename_i hle
                  cases h1
                  obtain ⟨rs, hl, hlr, hc⟩ := h.reads hL hmem o inf.size hle
                  refine ⟨_, ?_, hlr.agg⟩
                  have := run_loadCells (P := P) (w := w) rs hc
                  rw [hl] at this
                  simp [Instr.loadAt, Instr.sureAddr, loadVar, run_isAgg hu, ha, run_size hinf, this]
                · cases h1
              · cases h1
            | false =>
              rw [ha] at h1
              simp only [cond_false, ld1] at h1
              split at h1
              · rename_i own cs ty hmem
                split at h1
                · rename_i v' hv'
                  cases h1
                  obtain ⟨q', hq', hvr⟩ := h.read hL hmem hv'
                  exact ⟨q', by simp [Instr.loadAt, Instr.sureAddr, loadVar, run_isAgg hu, ha, hq'], hvr⟩
                · cases h1
              · cases h1
          obtain ⟨r', hr1, hr2⟩ := hrd
          refine ⟨u, r', hr2, ?_, hok u V h1⟩
          simp only [Instr.loadAt, Instr.sureAddr, Sem.run_bind, Sem.run_pure, Result.andThen_ok] at hr1
          simp only [resRun, Array.getD_eq_getD_getElem?, h3, Option.getD_some, asAddr, Sem.run_bind, Sem.run_pure, Result.andThen_ok]
          exact hr1
theorem resAll_inv (hT : TOk P T) (h : Sim P w0 B ρ V w) {e : Env} (he : EnvR ρ e a) : ∀ {rs : List ResultVar} {k : List Value → M Value} {R : Res Value}, resAll T e rs k V = R → R ≠ .stuck →
    ∃ us qs, LR ρ us qs ∧ (rs.mapM (resRun a.tmps)).run P w = .ok qs w ∧ k us V = R
  | [], k, R, hR, hs => ⟨[], [], .nil, by simp, by simpa [resAll] using hR⟩
  | r :: rs, k, R, hR, hs => by
    obtain ⟨u, q, h1, h2, h3⟩ := resOne_inv (k := fun v => resAll T e rs fun vs => k (v :: vs)) hT h he hR hs
    obtain ⟨us, qs, g1, g2, g3⟩ := resAll_inv hT h he h3 hs
    exact ⟨u :: us, q :: qs, .cons h1 g1, by simp [List.mapM_cons, h2, g2], g3⟩
theorem results_eq (fn : Func) (tmps : Array Value) : results fn tmps = (do let vs ← fn.results.mapM (resRun tmps); pure (if h : vs.size = 1 then vs[0] else .tuple vs)) := by
  unfold results
  congr 1
theorem resK_inv (hT : TOk P T) (h : Sim P w0 B ρ V w) {e : Env} (he : EnvR ρ e a) {fn : Func} {R : Res Value} (hR : resK T fn.results.toList e V = R) (hs : R ≠ .stuck) :
    ∃ u q, R = .ok u V ∧ VR ρ u q ∧ (results fn a.tmps).run P w = .ok q w := by
  unfold resK at hR
  obtain ⟨us, qs, h1, h2, h3⟩ := resAll_inv hT h he hR hs
  have hm : (fn.results.mapM (resRun a.tmps)).run P w = .ok qs.toArray w := by
    rw [Array.mapM_eq_mapM_toList]
    simp [h2]
  rw [results_eq]
  simp only [Sem.run_bind, hm, Result.andThen_ok, Sem.run_pure]
  match us, qs, h1 with
  | [], [], _ => exact ⟨_, _, h3.symm, LR.tuple .nil, rfl⟩
  | [u], [q], .cons hv .nil => exact ⟨_, _, h3.symm, hv, rfl⟩
  | u :: u' :: us, q :: q' :: qs, .cons hv (.cons hv' t) => exact ⟨_, _, h3.symm, LR.tuple (.cons hv (.cons hv' t)), by simp⟩
theorem argE_get : ∀ {l : List Value} {i t : Nat} {v : Value}, (argE l i).get t = some v → ∃ j, t = i + j ∧ l[j]? = some v
  | [], i, t, v, h => by simp [argE, Env.get] at h
  | x :: l, i, t, v, h => by
    simp only [argE, Env.get] at h
    cases hb : Nat.beq i t with
    | true => rw [hb] at h; cases h; exact ⟨0, (Nat.eq_of_beq_eq_true hb).symm, rfl⟩
    | false =>
      rw [hb] at h
      obtain ⟨j, h1, h2⟩ := argE_get h
      exact ⟨j + 1, by omega, by simpa using h2⟩
/-- A function's summary. -/
theorem summ_of_exec (hT : TOk P T) (hG : Summs P G) {f : FuncId} {fn : Func} {c : Code} (hD : DrawSound P T G fn.ntmps) (hf : P.funcs[f]? = some fn) (hname : (fn.name == "runtime.NumGoroutine") = false) (hb : fn.body = some c) (hint : Hint)
    {F : List Value → M Value} (hF : ∀ args, F args = M.stuck ∨ F args = execFn T G fn hint args) : Summ P f F := by
  intro w0 B ρ V w args rargs hsim hargs hs
  rcases hF args with h0 | h0
  · rw [h0] at hs; exact absurd rfl hs
  · have hcall : (callFunc f rargs.toArray).run P w = .ok (.enter f rargs.toArray) w := by
      unfold callFunc
      have hname' : fn.name ≠ "runtime.NumGoroutine" := by simpa using hname
      simp [hf, hname', hb]
    rw [hcall]
    unfold execFn at h0
    simp only [hb] at h0
    cases hle : Nat.ble args.length fn.ntmps with
    | false => rw [hle] at h0; rw [h0] at hs; exact absurd rfl hs
    | true =>
    rw [hle] at h0
    simp only [cond_true] at h0
    have hlen : args.length ≤ fn.ntmps := Nat.le_of_ble_eq_true hle
    have hlr := hargs.length
    generalize hR : F args V = R at hs
    refine calls_of_wp hf hb ?_
    have henv : EnvR ρ (argE args 0) { tmps := rargs.toArray ++ Array.replicate (fn.ntmps - rargs.toArray.size) undef, defers := [] } := by
      intro t v ht
      obtain ⟨j, rfl, hj⟩ := argE_get ht
      obtain ⟨q, h1, h2⟩ := hargs.get j v hj
      refine ⟨q, ?_, h2⟩
      have hlt : j < rargs.length := (List.getElem?_eq_some_iff.1 h1).1
      simp only [Nat.zero_add]
      rw [Array.getElem?_append_left (by simpa using hlt)]
      simpa using h1
    refine wp_mono (exec_sound hT hG hD c hint (argE args 0) _ _ _ _ ρ V w R hsim henv (by simp; omega) (by rw [← hR, h0]) hs) fun X a1 w1 hq => ?_
    have fin : (∃ e ρ1 V1, At P w0 B ρ V (writes c) { tmps := rargs.toArray ++ Array.replicate (fn.ntmps - rargs.toArray.size) undef, defers := [] } e ρ1 V1 a1 w1 ∧ resK T fn.results.toList e V1 = R) →
        a1.defers = [] ∧ ∃ v, (results fn a1.tmps).run P w1 = .ok v w1 ∧ ∃ u V' ρ', R = .ok u V' ∧ VR ρ' u v ∧ Sim P w0 B ρ' V' w1 ∧ Ext (fun _ => False) ρ V ρ' V' := by
      rintro ⟨e, ρ1, V1, g1, g2⟩
      obtain ⟨u, q, h1, h2, h3⟩ := resK_inv hT g1.sim g1.env g2 hs
      exact ⟨g1.kept.defers, q, h3, u, V1, ρ1, h1, h2, g1.sim, g1.ext⟩
    cases X with
    | normal =>
      obtain ⟨h1, v, h2, u, V', ρ', h3⟩ := fin hq
      exact ⟨h1, v, h2, u, V', ρ', h3⟩
    | ret =>
      obtain ⟨h1, v, h2, u, V', ρ', h3⟩ := fin hq
      exact ⟨h1, v, h2, u, V', ρ', h3⟩
    | exit id => obtain ⟨e1, ρ1, V1, g1, g2⟩ := hq; exact absurd g2.symm hs
    | panic ch =>
      obtain ⟨v, r, ρ1, V1, rfl, g2, g3, g4, g5, g6⟩ := hq
      exact ⟨g6.defers, r, rfl, v, V1, ρ1, g2, g3, g4, g5⟩
    | goto l => exact hq
    | outgrown => exact hq.elim
end
end Go.Vm
end
