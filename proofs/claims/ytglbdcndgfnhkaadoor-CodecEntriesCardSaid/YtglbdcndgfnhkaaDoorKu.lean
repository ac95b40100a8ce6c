/- 'mailcoachlaw21.CodecEntries' answers true for every input, and each argument reads behind the call as it read before. Conditions: those of the given card (the two listed tables of unicode/utf8 start as the text lays them). -/
import Derived.Test.YtglbdcndgfnhkaaDoorKt
import Derived.Test.YtglbdcndgfnhkaaDoorCards
import Derived.Test.YtglbdcndgfnhkaaDoorTie
import Derived.Lib.LaidTab
section
set_option linter.unusedVariables false
set_option linter.unusedSimpArgs false
set_option maxRecDepth 100000
set_option maxHeartbeats 1000000
namespace Go.Proofs.YtglbdcndgfnhkaaDoor.codecEntries
open Go Go.Vm Go.Vm.Tryd Go.RowKit Go.ChangeShapes Go.WideShapes Go.ChangeAt

theorem own : ownKnob Tryd.prog.godebug = none := by kernel_rfl
theorem laidOut : laidOutB Tryd.prog = true := by kernel_rfl
theorem row0 : ((begin Tryd.prog (fun _ _ => 0) default).world.heap[0]?).bind Obj.row? = some ((List.replicate 256 (Value.int .u8 0)).toArray, 157) := by kernel_rfl
theorem row1 : ((begin Tryd.prog (fun _ _ => 0) default).world.heap[1]?).bind Obj.row? = some ((List.replicate 32 (Value.int .u8 0)).toArray, 160) := by kernel_rfl
theorem cells5 : Tryd.prog.cellsOf 5 = 1 := by kernel_rfl
theorem cells9 : Tryd.prog.cellsOf 9 = 1 := by kernel_rfl
theorem cells22 : Tryd.prog.cellsOf 22 = 1 := by kernel_rfl
theorem cells23 : Tryd.prog.cellsOf 23 = 1 := by kernel_rfl
theorem gsize : Tryd.prog.globals.size = 2 := by kernel_rfl

/-- The two tables, as they stand in any world that is shaped. -/
theorem tables {W : World} (hS : W.ShapedOpen Tryd.prog) : ∃ tf ta : List Nat, (tf.length = 256 ∧ (∀ x ∈ tf, x < 256) ∧ W.heap[0]? = some (.cells (tf.map bv).toArray 157)) ∧ (ta.length = 32 ∧ (∀ x ∈ ta, x < 256) ∧ W.heap[1]? = some (.cells (ta.map bv).toArray 160)) := by
  obtain ⟨tf, h⟩ := open_tab (n := 256) (ts := List.replicate 256 5) hS (by rw [gsize]; decide) row0 (by simp) (by kernel_rfl) (by kernel_rfl) (by kernel_rfl)
  obtain ⟨ta, k⟩ := open_tab (n := 32) (ts := List.replicate 32 5) hS (by rw [gsize]; decide) row1 (by simp) (by kernel_rfl) (by kernel_rfl) (by kernel_rfl)
  exact ⟨tf, ta, h, k⟩

/-- What is read of an entry. -/
theorem open_parcel {H : Type} {enc : TypeId × Value → H} {W : World} {fuel : Nat} {cs : List Value} {x : DataW H × List MemPlace} (h : DataW.trod enc Tryd.prog W 0 (fun _ => true) true fuel 25 cs = some x) :
    ∃ (name key : ByteArray) (seq : Nat) (r : Value) (bs : List Nat) (L : Vm.Loc) (vv : Nat → Value), cs = [.string name, .int .u64 (seq : Int), .string key, r] ∧ seq < 18446744073709551616 ∧ BWin W r bs L vv := by
  obtain ⟨xs, n, rfl, _, hlen, hsz, hf⟩ := DataW.trod_struct Tryd.underlying25 h
  have hl4 : cs.length = 4 := hlen.trans (by kernel_rfl)
  have t0 := hf 0 _ rfl
  have t1 := hf 1 _ rfl
  have t2 := hf 2 _ rfl
  have t3 := hf 3 _ rfl
  match cs, hl4 with
  | [a, b, c, d], _ =>
    have hx : xs.length = 4 := hsz
    match xs, hx with
    | [x0, x1, x2, x3], _ =>
      obtain ⟨name, ha, _⟩ := DataW.trod_string Tryd.underlying9 t0
      obtain ⟨m, hb, _, hw⟩ := DataW.trod_int Tryd.underlying22 t1
      obtain ⟨key, hc, _⟩ := DataW.trod_string Tryd.underlying9 t2
      obtain ⟨r, bs, L, vv, hd, hB⟩ := open_bytesW Tryd.underlying23 Tryd.underlying5 cells5 t3
      have ha' : List.take (Tryd.prog.cellsOf 9) (List.drop 0 [a, b, c, d]) = [Value.string name] := ha
      have hb' : List.take (Tryd.prog.cellsOf 22) (List.drop 1 [a, b, c, d]) = [Value.int .u64 m] := hb
      have hc' : List.take (Tryd.prog.cellsOf 9) (List.drop 2 [a, b, c, d]) = [Value.string key] := hc
      have hd' : List.take (Tryd.prog.cellsOf 23) (List.drop 3 [a, b, c, d]) = [r] := hd
      rw [cells9] at ha' hc'
      rw [cells22] at hb'
      rw [cells23] at hd'
      have ea : a = .string name := by simpa using ha'
      have eb : b = .int .u64 m := by simpa using hb'
      have ec : c = .string key := by simpa using hc'
      have ed : d = r := by simpa using hd'
      simp [Lit.wf, IntKind.min, IntKind.max, IntKind.signed, IntKind.bits] at hw
      refine ⟨name, key, m.toNat, r, bs, L, vv, ?_, by omega, hB⟩
      rw [ea, eb, ec, ed, Int.toNat_of_nonneg hw.1]
/-- WHAT THE CALL GIVES, FOR EVERY ARGUMENT AND EVERY WORLD THAT IS SHAPED. -/
theorem contract (H : Type) (enc : TypeId × Value → H) (W : World) (base : Nat) (args : Array Value) (ds gs : List (DataW H)) (before : List MemPlace)
    (hval : ∀ (j : Nat) t v, Tryd.f3.params[j]? = some t → args[j]? = some v → Value.okWide Tryd.prog W .any base t v)
    (hW : DataW.Whole enc Tryd.prog Tryd.f3.params.toList Rows.codecEntriesSpec.vars false W args.toList ds gs before) (hS : W.ShapedOpen Tryd.prog) :
    Calls Tryd.prog 3 args W fun e W' => ∃ v, e = .returned v ∧ Rows.codecEntriesSpec.post enc Tryd.prog Tryd.f3 false true false false W args v W' := by
  have hW' := hW
  obtain ⟨p, q, hA0, hV, rfl, hfz, hnd⟩ := hW
  have hA : DataW.TrodAll enc Tryd.prog W 0 (fun _ => true) true Tryd.f3.params.toList args.toList ds p := hA0
  rw [show Tryd.f3.params = #[25, 23] from rfl] at hA hval
  obtain ⟨v0, v1, d0, d1, p0, p1, rfl, rfl, rfl, h0, h1⟩ := trodAll_two hA
  obtain ⟨rfl, rfl⟩ := trodVars_none hV
  have h0k := h0
  have h1k := h1
  obtain ⟨fu0, g0⟩ := h0
  obtain ⟨fu1, g1⟩ := h1
  clear hA0
  simp only [List.append_nil] at hW'
  have hlt : ∀ x ∈ p0 ++ p1, x.block < W.heap.size := fun x hx => by simpa using hW'.lt x hx
  obtain ⟨cs0, rfl, _⟩ : ∃ cs, v0 = .agg cs ∧ True := by
    have := hval 0 25 v0 rfl rfl
    simp only [Value.okWide, Tryd.underlying25] at this
    obtain ⟨cs, h, _⟩ := this
    exact ⟨cs, h, trivial⟩
  obtain ⟨a1, len1, cap1, rfl⟩ := okWide_slice Tryd.underlying23 (hval 1 23 v1 rfl rfl)
  obtain ⟨name, key, seq, r, bd, Ld, vd, hcs, hseq, hBd⟩ := open_parcel g0
  obtain ⟨r1, bb, Lb, vb, hr1, hBb⟩ := open_bytesW Tryd.underlying23 Tryd.underlying5 cells5 g1
  have er1 : r1 = .slice a1 len1 cap1 := by simpa [Value.cells] using hr1.symm
  subst er1
  have ecs : cs0 = #[.string name, .int .u64 (seq : Int), .string key, r] := Array.toList_inj.1 hcs
  subst ecs
  obtain ⟨tf, ta, ⟨l0, b0, c0⟩, ⟨l1, b1, c1⟩⟩ := tables hS
  have hpos : 0 < W.heap.size := (Array.getElem?_eq_some_iff.1 c0).1
  have hws : WinOk Tryd.prog W [(⟨0, 0, 0⟩, tf.map bv, 157), (⟨1, 0, 0⟩, ta.map bv, 160), (Ld, bd.map bv, 5), (Lb, bb.map bv, 5)] := by
    refine ⟨fun g hg => ?_, fun i L cs ty hi => ?_⟩
    · rw [gsize] at hg
      have : g = 0 ∨ g = 1 := by omega
      rcases this with rfl | rfl
      · exact ⟨0, _, _, rfl⟩
      · exact ⟨0, _, _, rfl⟩
    · have vr : ∀ (l : List Nat) (j : Nat) (v : Value), (l.map bv)[j]? = some v → ∀ ρ, VR ρ v v := by
        intro l j v hv ρ
        obtain ⟨z, _, rfl⟩ := List.mem_map.1 (List.mem_of_getElem? hv)
        exact .int _ _
      match i, hi with
      | 0, hi => cases hi; exact ⟨hpos, fun j v hv => ⟨v, open_tab_cells c0 j v hv, vr _ _ _ hv _⟩⟩
      | 1, hi => cases hi; exact ⟨(Array.getElem?_eq_some_iff.1 c1).1, fun j v hv => ⟨v, open_tab_cells c1 j v hv, vr _ _ _ hv _⟩⟩
      | 2, hi => cases hi; exact ⟨hBd.b hpos, fun j v hv => ⟨v, hBd.cells j v hv, vr _ _ _ hv _⟩⟩
      | 3, hi => cases hi; exact ⟨hBb.b hpos, fun j v hv => ⟨v, hBb.cells j v hv, vr _ _ _ hv _⟩⟩
      | n + 4, hi => simp at hi
  have walk : Calls Tryd.prog 3 #[.agg #[.string name, .int .u64 (seq : Int), .string key, r], .slice a1 len1 cap1] W fun e W' => e = .returned (.bool true) ∧ Below W.heap.size W W' := by
    refine law_win Tryd.func3 (by kernel_rfl) rfl entries_sum hws _ [parcel name seq key (vd 2), vb 3] ?_ fun V hV => ?_
    · refine .cons (LR.agg (.cons (.string _) (.cons (.int _ _) (.cons (.string _) (.cons (hBd.rel _ 2 rfl) .nil))))) (.cons (hBb.rel _ 3 rfl) .nil)
    · have n4 : V.next = 4 := hV.next
      refine entries_spec awake_true (hBd.at_ V 2 (by omega) (hV.mem 2 _ _ _ rfl)) (hBd.sl 2) (hBb.at_ V 3 (by omega) (hV.mem 3 _ _ _ rfl)) (hBb.sl 3) hseq hBd.lt hBb.lt (tf := tf) (ta := ta) ?_
      exact ⟨by omega, l0, l1, b0, ⟨false, 157, hV.mem 0 _ _ _ rfl⟩, ⟨false, 160, hV.mem 1 _ _ _ rfl⟩⟩
  refine walk.mono fun e W' ⟨he, hB⟩ => ?_
  subst he
  refine ⟨_, rfl, _, _, _, [], p0 ++ p1, [], hW', ?_, ?_, by rfl, hB.frame _, fun h => by cases h⟩
  · exact trodAll_mk1 (shut_bool Tryd.underlying4 _)
  · exact trodAll_mk2 (Below.trod laidOut (by kernel_rfl) (of_decide_eq_true (by kernel_rfl)) h0k hB fun x hx => hlt x (List.mem_append.2 (.inl hx))) (Below.trod laidOut (by kernel_rfl) (of_decide_eq_true (by kernel_rfl)) h1k hB fun x hx => hlt x (List.mem_append.2 (.inr hx)))

/-- A WORLD FOR THE WITNESS: the settled one, the two tables holding what their initialisers lay. -/
noncomputable def laidWorld (os : Os) : World :=
  let w0 := World.holding Tryd.prog os ⟨#[], #[], []⟩
  let h1 := w0.heap.modify 0 fun
    | .cells _ t frozen => .cells (Go.Pinned.utf8FirstZ.map fun (z : Nat) => Value.int .u8 (z : Int)).toArray t frozen
    | o => o
  let h2 := h1.modify 1 fun
    | .cells _ t frozen => .cells (([128, 191, 160, 191, 128, 159, 144, 191, 128, 143, 0, 0, 0, 0, 0, 0, 0, 0, 0, 0, 0, 0, 0, 0, 0, 0, 0, 0, 0, 0, 0, 0] : List Nat).map fun (z : Nat) => Value.int .u8 (z : Int)).toArray t frozen
    | o => o
  { w0 with heap := h2 }
abbrev wargs : Array Value := #[.agg #[.string ⟨#[]⟩, .int .u64 0, .string ⟨#[]⟩, .slice none 0 0], .slice none 0 0]
theorem laid_met (os : Os) : laidMet Tryd.prog Rows.codecEntriesRow.laid ((laidWorld os).forCall (fun _ _ => 0) ⟨#[], wargs, []⟩).memory :=
  laidMet_of_run' 8 (by kernel_rfl) (by kernel_rfl)
theorem reads (os : Os) {H : Type} (enc : TypeId × Value → H) : ∃ places, DataW.whole enc Tryd.prog ((laidWorld os).forCall (fun _ _ => 0) ⟨#[], wargs, []⟩).memory Tryd.f3.params.toList Rows.codecEntriesSpec.vars false wargs.toList 8 = some ([.agg [.lit (.string []), .lit (.int .u64 0), .lit (.string []), .nil], .nil], [], places) :=
  ⟨[], by kernel_rfl⟩

/-- THE STEP. -/
theorem lifted (os : Os) (started : os.Started) (H : Type) (enc : TypeId × Value → H) (F : Stop.Interp) :
    ReturnsInHanded {} Tryd.checked os 3 .any ((OpenSpec.ofChange Rows.codecEntriesSpec).preRow enc Tryd.prog Tryd.f3 Rows.codecEntriesRow.domain false Rows.codecEntriesRow.laid) (((OpenSpec.ofChange Rows.codecEntriesSpec).at F).post enc Tryd.prog Tryd.f3 false true false false) := by
  obtain ⟨places, hx⟩ := reads os enc
  refine returnsInHanded_of_row (C := Tryd.checked) (s := OpenSpec.ofChange Rows.codecEntriesSpec) own started (by kernel_rfl) Tryd.func3
    (witness_row_at (enc := enc) (C := Tryd.checked) false (laidWorld os) wargs rfl (by kernel_rfl) (by kernel_rfl) (by kernel_rfl)
      (OpenSpec.preRow_of_cond 8 hx (by kernel_rfl) (fun k hk => by cases hk) (by kernel_rfl) (laid_met os))) ?_
  intro W base args ds gs before hval hW _ _ _ _ hS _
  exact contract H enc W base args ds gs before hval hW hS

theorem said : Rows.CodecEntriesSaid :=
  OpenClaim.holds_of_cond 3 Tryd.f3 rfl rfl rfl rfl rfl rfl rfl ⟨rfl, rfl, rfl, rfl, rfl⟩ rfl rfl rfl rfl rfl (by kernel_rfl) Tryd.func3 (by kernel_rfl)
    (of_decide_eq_true (by kernel_rfl)) (by unfold Func.isWrapper; first | (rw [if_pos (by decide +kernel)]; kernel_rfl) | (rw [if_neg (by decide +kernel)]; exact ⟨rfl, rfl⟩))
    (fun os started H enc _ F => by rw [OpenClaim.pre_eq_preRow]; exact lifted os started H enc F)

/-- No parameter wants a stand-in; the program's own looks are off. -/
theorem plain (f : FuncId) (fn : Func) (hf : Tryd.pinned.checked.prog.funcNamed "mailcoach/mailcoachlaw21.CodecEntries" = some f) (hfn : Tryd.pinned.checked.prog.funcs[f]? = some fn) :
    true = Tryd.pinned.checked.prog.looks [] ∧ ∀ (j : Nat) t, fn.params[j]? = some t → Tryd.pinned.checked.prog.wantsStandIn t = false := by
  obtain rfl : f = 3 := Option.some.inj ((show Tryd.prog.funcNamed "mailcoach/mailcoachlaw21.CodecEntries" = some 3 by kernel_rfl).symm.trans hf) |>.symm
  obtain rfl : fn = Tryd.f3 := (Option.some.inj (Tryd.func3.symm.trans hfn)).symm
  refine ⟨by kernel_rfl, fun j t ht => ?_⟩
  rw [show Tryd.f3.params = #[25, 23] from rfl] at ht
  match j, ht with
  | 0, ht => cases ht; exact (show Tryd.prog.wantsStandIn 25 = false by kernel_rfl)
  | 1, ht => cases ht; exact (show Tryd.prog.wantsStandIn 23 = false by kernel_rfl)
  | n + 2, ht => simp at ht

/-- THE CARD. -/
theorem card : Rows.CodecEntriesCardSaid :=
  Claim7.holds_tied_plain_at .later [] _ _ _ _ said (fun _ h => by cases h) (by kernel_rfl) (fun _ h => by cases h) codecEntries_row_tie rfl ⟨rfl, rfl⟩ (by kernel_rfl) rfl plain (by kernel_rfl)
end Go.Proofs.YtglbdcndgfnhkaaDoor.codecEntries
end
