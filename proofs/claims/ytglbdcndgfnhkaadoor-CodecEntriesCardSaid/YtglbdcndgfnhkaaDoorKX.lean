/- Parts of the proof. -/
import Derived.RangeFuncNested
import Derived.RangeFuncBound
import Derived.RangeFuncCalls
import Derived.RangeFuncLeaves
import Derived.RangeFuncFrom
import Derived.Maps.AppendAt
import Derived.Laws.IdiomRangeMap
import Derived.Shelf.Abstract
import Derived.WalkKit
import Derived.OwnWalkIn
import Derived.TacticsInMore
import Derived.LoopNIn
import Derived.LoopIn
import Derived.Test.YtglbdcndgfnhkaaDoorKd
import Derived.Test.YtglbdcndgfnhkaaDoorKT
section
set_option linter.unusedVariables false
set_option maxRecDepth 100000
set_option maxHeartbeats 1000000
namespace Go.Vm.Tryd
open Go Go.Vm Go.RowKit Go.Shelf Go.Proofs
attribute [local go_sem] Oper.semAt_some

theorem vals_empty {α : Type} (l : Nat) (p : Addr) (b clock : Nat) (J : List α → World → Prop) (W : World) (hJ : AbidesFrom W.heap.size J) (hm : W.cell? p = some (.map (some b))) (hb : W.heap[b]? = some (.map #[] clock)) (h0 : J [] W) :
    Calls Tryd.prog 83 #[.func (.yield l) #[] #[], .pointer (some p)] W fun e W' => (∃ v, e = .returned v) ∧ J [] W' := by
  have hrg := run_range_map (P := Tryd.prog) W 145 _ _ b #[] clock Tryd.underlying145 hb
  have hnx : ∀ ty, (Instr.next (.pointer (some ⟨W.heap.size, 0, none⟩)) false ty).run Tryd.prog (W.alloc (.mapIter (some b) clock #[] clock)) = .ok (.tuple #[.bool false]) (W.alloc (.mapIter (some b) clock #[] clock)) := by
    intro ty
    rcases run_next_map (P := Tryd.prog) W ty b clock clock #[] #[] clock hb (fun x hx => by simp at hx) (Nat.le_refl _) with ⟨_, h⟩ | ⟨e, he, _⟩
    · exact h
    · simp [leftOf] at he
  go_enter Tryd.func83, Tryd.ntmps83
  go_wp2
  refine wp_loop (fun a' w' => a' = _ ∧ w' = W.alloc (.mapIter (some b) clock #[] clock)) (fun _ _ => 0) ⟨rfl, rfl⟩ ?_
  rintro a' w' ⟨rfl, rfl⟩
  have hnx0 := hnx 0
  go_wp2
  go_end0
  exact ⟨⟨_, rfl⟩, hJ [] W _ none h0 (World.grownBy_alloc W _ none) (fun r e => by cases e)⟩
theorem append_empty (p : Addr) (b clock : Nat) (w : World) (hm : w.cell? p = some (.map (some b))) (hb : w.heap[b]? = some (.map #[] clock)) :
    Calls Tryd.prog 88 #[.slice none 0 0, .func (.func 83) #[] #[.pointer (some p)]] w fun e w' => e = .returned (.slice none 0 0) ∧ Below w.heap.size w w' := by
  refine (callsIn_wide (n := 9)).1 ?_
  refine callsIn_of_wp_marks Tryd.func88 rfl trivial ?_ rfl
  simp only [Tryd.ntmps88, List.size_toArray, List.length_cons, List.length_nil, Nat.reduceAdd, Nat.reduceSub, Array.replicate_succ, Array.replicate_zero, List.push_toArray, List.append_toArray, List.nil_append, List.cons_append]
  gi_wp2
  have hBm : p.block < w.heap.size := by
    rcases Nat.lt_or_ge p.block w.heap.size with h | h
    · exact h
    · simp [World.cell?, Array.getElem?_eq_none h] at hm
  have hbl : b < w.heap.size := (Array.getElem?_eq_some_iff.1 hb).1
  refine wpIn_rangeFunc_ownF (α := Empty) rfl (by decide) (gf := 83) (lb := #[.pointer (some p)]) rfl trivial (enters_of Tryd.func83 (by kernel_rfl) rfl)
    (encs := fun x => nomatch x) (Kp := fun _ _ => True) (S := fun _ => True) (Sp := fun _ => True) (N := 0) (w0 := w.alloc (.cells #[.slice none 0 0] 41)) ?contract (fun _ _ => trivial) (fun _ _ _ _ _ _ _ _ => trivial) (Below.refl _ _) (fun x => nomatch x)
    (fun _ W => (W.cell? ⟨w.heap.size, 0, none⟩ = some (.slice none 0 0) ∧ W.frozen? ⟨w.heap.size, 0, none⟩ = false) ∧ Below w.heap.size w W) (fun _ _ _ => False)
    (OwnFrom.and (Own.from (fun s A B row hs hg hr => ⟨cell_kept hs.1 hg hr, (frozen_kept hs.1 hg hr).trans hs.2⟩) _) (ownFrom_below (Nat.le_refl _) (by simp))) (fun _ _ _ _ _ hs _ _ => hs)
    ?start (fun x => nomatch x) (fun l x => nomatch x) (fun l pre x => nomatch x) ?done ?stop
  case contract =>
    intro l J Jx W hW hJ hJx hY h0
    have B1 : Below w.heap.size w (w.alloc (.cells #[.slice none 0 0] 41)) := (Below.refl _ w).alloc (Nat.le_refl _) _
    have hb' : W.heap[b]? = some (.map #[] clock) := (hW.block b (Nat.lt_of_lt_of_le hbl B1.size)).trans ((B1.block b hbl).trans hb)
    have hm' : W.cell? p = some (.map (some b)) := (hW.cell (p := p) (Nat.lt_of_lt_of_le hBm B1.size)).trans ((B1.cell (p := p) hBm).trans hm)
    exact callsIn_wide.2 (Calls.mono (vals_empty l p b clock J W hJ hm' hb' h0) fun e W' h => ⟨h.1, .inl ⟨[], trivial, h.2⟩⟩)
  case start =>
    refine ⟨⟨?_, ?_⟩, (Below.refl _ w).alloc (Nat.le_refl _) _⟩
    · exact cell_one_new w (.slice none 0 0) 41 0 _ rfl
    · have hh := World.alloc_heap_new w (.cells #[.slice none 0 0] 41)
      simp only [World.frozen?, hh]
      rfl
  case done =>
    rintro D xs W hD _ ⟨⟨hc, hf⟩, hB⟩ hK
    gi_wp2
    have hD' : w.heap.size ≤ D := Nat.le_trans (Nat.le_of_lt (by rw [World.size_alloc]; exact Nat.lt_succ_self _)) hD
    refine ⟨by simp, .inl ⟨_, _, rfl, run_takeDeferred hK, ?_⟩⟩
    exact ⟨_, results_tmp rfl _ _ _, rfl, hB.trans (belowK_b (w := w) (Nat.le_refl _) W D _ _ hD' hK rfl rfl)⟩
  case stop =>
    rintro D c pre W _ _ h _
    exact h.elim
def emptyAt (x : Value) (V : VS) : Bool :=
  match x with
  | .pointer (some ⟨b, o, none⟩) => match V.mem b with
    | some (.cells _ cs _) => match cs[o]? with
      | some (.map (some m)) => match V.mem m with
        | some (.map []) => true
        | _ => false
      | _ => false
    | _ => false
  | _ => false
theorem emptyAt_inv {x : Value} {V : VS} (h : emptyAt x V = true) : ∃ b o own cs ty m, x = .pointer (some ⟨b, o, none⟩) ∧ V.mem b = some (.cells own cs ty) ∧ cs[o]? = some (.map (some m)) ∧ V.mem m = some (.map []) := by
  unfold emptyAt at h
  split at h
  · rename_i b o
    split at h
    · rename_i own cs ty hb
      split at h
      · rename_i m hm
        split at h
        · rename_i he; exact ⟨b, o, own, cs, ty, m, rfl, hb, hm, he⟩
        · cases h
      · cases h
    · cases h
  · cases h
def clo83 : Value → Option Value
  | .func (.func g) first cap => cond (Nat.beq g 83) (match first.toList, cap.toList with | [], [x] => some x | _, _ => none) none
  | _ => none
theorem clo83_inv {f x : Value} (h : clo83 f = some x) : f = .func (.func 83) #[] #[x] := by
  unfold clo83 at h
  split at h
  · rename_i g first cap
    cases hg : Nat.beq g 83 with
    | false => rw [hg] at h; cases h
    | true =>
      rw [hg] at h
      have : g = 83 := Nat.eq_of_beq_eq_true hg
      subst this
      simp only [cond_true] at h
      split at h
      · rename_i h1 h2
        cases h
        have e1 : first = #[] := Array.toList_inj.1 h1
        have e2 : cap = #[x] := Array.toList_inj.1 h2
        rw [e1, e2]
      · cases h
  · cases h
def nilS : Value → Bool
  | .slice none 0 0 => true
  | _ => false
theorem nilS_inv {s : Value} (h : nilS s = true) : s = .slice none 0 0 := by
  unfold nilS at h
  split at h
  · rfl
  · cases h
/-- slices.AppendSeq(nil, seq), seq the values of an empty map. -/
def k88 (s f : Value) : M Value := fun V => cond (nilS s) (match clo83 f with | some x => cond (emptyAt x V) (.ok (.slice none 0 0) V) .stuck | none => .stuck) .stuck
def f88 : List Value → M Value := ar2 k88
theorem k88_inv {s f : Value} {V : VS} (h : k88 s f V ≠ .stuck) : ∃ x, s = .slice none 0 0 ∧ f = .func (.func 83) #[] #[x] ∧ emptyAt x V = true ∧ k88 s f V = .ok (.slice none 0 0) V := by
  unfold k88 at h ⊢
  cases hn : nilS s with
  | false => rw [hn] at h; exact absurd rfl h
  | true =>
    rw [hn] at h
    rw [cond_true] at h ⊢
    cases hc : clo83 f with
    | none => rw [hc] at h; exact absurd rfl h
    | some x =>
      rw [hc] at h
      cases he : emptyAt x V with
      | false => simp only [he, cond_false] at h; exact absurd rfl h
      | true => exact ⟨x, nilS_inv hn, clo83_inv hc, he, by simp only [he, cond_true]⟩
theorem f88_inv {args : List Value} {V : VS} (h : f88 args V ≠ .stuck) : ∃ x, args = [.slice none 0 0, .func (.func 83) #[] #[x]] ∧ emptyAt x V = true ∧ f88 args V = .ok (.slice none 0 0) V := by
  match args with
  | [] => exact absurd rfl h
  | [_] => exact absurd rfl h
  | _ :: _ :: _ :: _ => exact absurd rfl h
  | [s, f] =>
    obtain ⟨x, h1, h2, h3, h4⟩ := k88_inv (s := s) (f := f) (V := V) h
    exact ⟨x, by rw [h1, h2], h3, h4⟩
theorem vr_func {ρ : Ren} {fn : Fn} {f c : Array Value} {r : Value} (h : VR ρ (.func fn f c) r) : ∃ f' c', r = .func fn f' c' ∧ f.size = f'.size ∧ c.size = c'.size ∧ ∀ (i : Nat) x y, c[i]? = some x → c'[i]? = some y → VR ρ x y := by
  cases h with
  | func h1 h2 h3 h4 => exact ⟨_, _, rfl, h1, h3, h4⟩
theorem vr_nilS {ρ : Ren} {s r : Value} (h : VR ρ s r) (hs : s = .slice none 0 0) : r = .slice none 0 0 := by
  cases h <;> first | rfl | cases hs
theorem vr_ptr {ρ : Ren} {b o : Nat} {r : Value} (h : VR ρ (.pointer (some ⟨b, o, none⟩)) r) : ∃ L, ρ b = some L ∧ r = .pointer (some ⟨L.b, L.s + o, none⟩) := by
  cases h with
  | ptr hL => exact ⟨_, hL, rfl⟩
theorem vr_map {ρ : Ren} {m : Nat} {r : Value} (h : VR ρ (.map (some m)) r) : ∃ L, ρ m = some L ∧ r = .map (some L.b) := by
  cases h with
  | map hL => exact ⟨_, hL, rfl⟩
theorem lr_two {ρ : Ren} {a b : Value} {l : List Value} (h : LR ρ [a, b] l) : ∃ c d, l = [c, d] ∧ VR ρ a c ∧ VR ρ b d := by
  match l, h with
  | [c, d], .cons h1 (.cons h2 .nil) => exact ⟨c, d, rfl, h1, h2⟩
theorem f88_sum : Summ Tryd.prog 88 f88 := by
  intro w0 B ρ V w args rargs hsim hargs hs
  obtain ⟨x, rfl, he, hF⟩ := f88_inv hs
  rw [hF]
  obtain ⟨b, o, own, cs, ty, m, rfl, hb, hm, hmm⟩ := emptyAt_inv he
  obtain ⟨c, d, rfl, h1, h2⟩ := lr_two hargs
  obtain rfl := vr_nilS h1 rfl
  obtain ⟨f', c', rfl, hf1, hc1, hc2⟩ := vr_func h2
  obtain rfl : f' = #[] := Array.eq_empty_of_size_eq_zero hf1.symm
  obtain ⟨y, rfl⟩ : ∃ y, c' = #[y] := Array.size_eq_one_iff.1 hc1.symm
  obtain ⟨L, hL, rfl⟩ := vr_ptr (hc2 0 _ y rfl rfl)
  obtain ⟨r, hr, hv⟩ : ∃ r, w.cell? ⟨L.b, L.s + o, none⟩ = some r ∧ VR ρ (.map (some m)) r := by
    have ho := hsim.obj b L _ hL hb
    cases own with
    | false => exact ho o _ hm
    | true =>
      obtain ⟨cs', ty', lo, hi, k1, k2, k3, k4, k5⟩ := ho
      obtain ⟨r, k6, k7⟩ := k5 o _ hm
      exact ⟨r, by rw [cell_of k1]; exact k6, k7⟩
  obtain ⟨Lm, hLm, rfl⟩ := vr_map hv
  obtain ⟨es', clock, k1, k2, k3⟩ := hsim.obj m Lm _ hLm hmm
  have hes : es' = #[] := by
    cases k : es'.toList with
    | nil => exact Array.toList_inj.1 k
    | cons a l => rw [k] at k2; cases k2
  subst hes
  have hcall : (callFunc 88 [Value.slice none 0 0, .func (.func 83) #[] #[.pointer (some ⟨L.b, L.s + o, none⟩)]].toArray).run Tryd.prog w = .ok (.enter 88 #[.slice none 0 0, .func (.func 83) #[] #[.pointer (some ⟨L.b, L.s + o, none⟩)]]) w :=
    enters_of Tryd.func88 (by kernel_rfl) rfl _ _
  rw [hcall]
  refine Calls.mono (append_empty ⟨L.b, L.s + o, none⟩ Lm.b clock w hr k1) fun e w' h => ?_
  obtain ⟨rfl, hB⟩ := h
  exact ⟨_, V, ρ, rfl, .snil, hsim.grow hB, Ext.refl ..⟩
end Go.Vm.Tryd
end
