/- Parts of the proof. -/
import Derived.Test.YtglbdcndgfnhkaaDoorKs
import Derived.Test.YtglbdcndgfnhkaaDoorKd
import Derived.WalkKit
import Derived.ProofKit
import Derived.OpenShut
import Derived.Carry
import Derived.SizedLaws
import Derived.Deep.DeepHandedRow
section
set_option linter.unusedVariables false
set_option linter.unusedSimpArgs false
set_option maxRecDepth 100000
set_option maxHeartbeats 1000000
namespace Go.Vm.Tryd
open Go Go.Vm Go.RowKit Go.ChangeShapes Go.WideShapes Go.ChangeAt

section
variable {H : Type} {enc : TypeId × Value → H} {P : Program} {W : World}
/-- A slice of bytes among the arguments: its window. -/
structure BWin (W : World) (r : Value) (bs : List Nat) (L : Loc) (vv : Nat → Value) : Prop where
  lt : ∀ x ∈ bs, x < 256
  b : 0 < W.heap.size → L.b < W.heap.size
  cells : ∀ j v, (bs.map bv)[j]? = some v → W.cell? ⟨L.b, L.s + j, none⟩ = some v
  rel : ∀ (ρ : Ren) k, ρ k = some L → VR ρ (vv k) r
  at_ : ∀ (V : VS) k, k < V.next → V.mem k = some (.cells false (bs.map bv) 5) → BAt V (vv k) bs
  sl : ∀ k, ∃ a n c, vv k = .slice a n c
theorem open_bytesW {t e : TypeId} {fuel : Nat} {cs : List Value} {x : DataW H × List MemPlace} (ht : P.underlying t = some (.slice e)) (he : P.underlying e = some (.int .u8)) (hc : P.cellsOf e = 1)
    (h : DataW.trod enc P W 0 (fun _ => true) true fuel t cs = some x) : ∃ r bs L vv, cs = [r] ∧ BWin W r bs L vv := by
  rcases open_ints ht he hc h with ⟨rfl, _⟩ | ⟨a, len, cap, zs, rfl, _, hl, hm, hz, _, hcell, hwz⟩
  · refine ⟨_, [], ⟨0, 0, 0⟩, fun _ => .slice none 0 0, rfl, ⟨by simp, fun h => h, by simp, fun _ _ _ => .snil, fun _ _ _ _ => .nil, fun _ => ⟨_, _, _, rfl⟩⟩⟩
  · simp only [if_true] at hz
    have hm' : cap ≤ 9223372036854775807 := hm
    by_cases h0 : cap = 0
    · subst h0
      have : len = 0 := by omega
      subst this
      refine ⟨_, [], ⟨0, 0, 0⟩, fun k => .slice (some ⟨k, 0, none⟩) 0 0, rfl, ⟨by simp, fun h => h, by simp, fun ρ k hk => .sl0 hk (.inl rfl), fun V k hk _ => .zero k 0 0 hk (capOk_self (by omega)), fun _ => ⟨_, _, _, rfl⟩⟩⟩
    · obtain ⟨ab, ao, spot⟩ := a
      have hc0 := hcell 0 (by omega)
      have hspot : spot = none := by simpa [Addr.add] using World.cell?_spot hc0
      subst hspot
      have hblk : ab < W.heap.size := by
        rcases Nat.lt_or_ge ab W.heap.size with q | q
        · exact q
        · rw [Addr.add_lit] at hc0
          simp only [World.cell?, Array.getElem?_eq_none q] at hc0
          cases hc0
      have hbnd : ∀ j : Nat, (0 : Int) ≤ zs[j]?.getD 0 ∧ zs[j]?.getD 0 ≤ 255 := fun j => range_u8 hwz j
      let bs : List Nat := (zs.take len).map Int.toNat
      have hlen : bs.length = len := by simp [bs]; omega
      have hget : ∀ j (hj : j < len), bs[j]'(by omega) = (zs.getD j 0).toNat := fun j hj => by
        simp [bs, List.getD_eq_getElem?_getD, List.getElem?_eq_getElem (show j < zs.length by omega)]
      refine ⟨_, bs, ⟨ab, ao, 0⟩, fun k => .slice (some ⟨k, 0, none⟩) len cap, rfl, ⟨fun x hx => ?_, fun _ => hblk, fun j v hv => ?_, fun ρ k hk => ?_, fun V k hk hmk => ?_, fun _ => ⟨_, _, _, rfl⟩⟩⟩
      · obtain ⟨z, hzm, rfl⟩ := List.mem_map.1 hx
        obtain ⟨j, hj, rfl⟩ := List.mem_iff_getElem.1 (List.mem_of_mem_take hzm)
        have := hbnd j
        rw [List.getElem?_eq_getElem hj] at this
        simp only [Option.getD_some] at this
        omega
      · have hj : j < bs.length := by
          have := (List.getElem?_eq_some_iff.1 hv).1
          simpa using this
        rw [List.getElem?_map, List.getElem?_eq_getElem hj] at hv
        simp only [Option.map_some, Option.some.injEq] at hv
        have h1 := hcell j (by omega)
        rw [Addr.add_lit] at h1
        rw [h1, ← hv, hget j (by omega)]
        have := hbnd j
        rw [← List.getD_eq_getElem?_getD] at this
        simp only [bv]
        congr 2
        omega
      · have := VR.sl (ρ := ρ) (v := k) (o := 0) (len := len) (cv := cap) (cr := cap) (L := ⟨ab, ao, 0⟩) hk hl (by omega) (.inl rfl)
        simpa using this
      · have := BAt.row (V := V) bs k 0 cap false (bs.map bv) 5 hk hmk (by simp) (whole _) ⟨by rw [hlen]; exact hl, fun q => by simp [isUnk, unk] at q; omega⟩
        rwa [hlen] at this
theorem cell_u8 {r : Reach} {b : Nat} {u : TypeId} {v : Value} (h : Cell.ok P W r b u v) (hu : P.underlying u = some (.int .u8)) : ∃ z : Nat, v = bv z ∧ z < 256 := by
  unfold Cell.ok at h
  rw [hu] at h
  cases v with
  | int k n =>
    obtain ⟨rfl, q1, q2⟩ := h
    simp [IntKind.min, IntKind.max, IntKind.signed, IntKind.bits] at q1 q2
    exact ⟨n.toNat, by rw [bv]; congr 1; omega, by omega⟩
  | _ => exact h.elim
def isU8 (P : Program) (u : TypeId) : Bool := match P.underlying u with | some (.int .u8) => true | _ => false
theorem isU8_inv {u : TypeId} (h : isU8 P u = true) : P.underlying u = some (.int .u8) := by
  unfold isU8 at h
  split at h
  · assumption
  · cases h
/-- A variable of bytes. -/
theorem open_tab {g t : TypeId} {n : Nat} {ts : List TypeId} {zero : Array Value} (hS : W.ShapedOpen P) (hg : g < P.globals.size) (h0 : ((begin P (fun _ _ => 0) default).world.heap[g]?).bind Obj.row? = some (zero, t)) (hz : zero.size = n) (hb : P.buildable t = true)
    (hts : P.cellTypes P.depth t = some ts) (hall : ts.all (isU8 P) = true) :
    ∃ tf : List Nat, tf.length = n ∧ (∀ x ∈ tf, x < 256) ∧ W.heap[g]? = some (.cells (tf.map bv).toArray t) := by
  obtain ⟨cs, h1, h2, h3⟩ := hS.1 g zero t hg h0
  obtain ⟨ts', k1, _, k3⟩ := h3 hb
  rw [hts] at k1
  cases k1
  have hv : ∀ v ∈ cs.toList, ∃ z : Nat, v = bv z ∧ z < 256 := by
    intro v hv
    obtain ⟨i, hi, rfl⟩ := List.mem_iff_getElem.1 hv
    obtain ⟨u, hu, hok⟩ := k3 i (cs.toList[i]) (by simp at hi; simp [hi])
    have hu2 := List.all_eq_true.1 hall u (List.mem_of_getElem? hu)
    exact cell_u8 hok (isU8_inv hu2)
  have ex : ∀ l : List Value, (∀ v ∈ l, ∃ z : Nat, v = bv z ∧ z < 256) → ∃ tf : List Nat, tf.map bv = l ∧ ∀ x ∈ tf, x < 256 := by
    intro l
    induction l with
    | nil => exact fun _ => ⟨[], rfl, by simp⟩
    | cons v l ih =>
      intro h
      obtain ⟨z, rfl, hz⟩ := h v (by simp)
      obtain ⟨tf, rfl, h2⟩ := ih fun v hv => h v (by simp [hv])
      exact ⟨z :: tf, rfl, by simp; exact ⟨hz, h2⟩⟩
  obtain ⟨tf, h4, h5⟩ := ex cs.toList hv
  refine ⟨tf, ?_, h5, ?_⟩
  · have := congrArg List.length h4
    simp at this
    omega
  · rw [h4, h1]
theorem open_tab_cells {g t : TypeId} {tf : List Nat} (h : W.heap[g]? = some (.cells (tf.map bv).toArray t)) (j : Nat) (v : Value) (hv : (tf.map bv)[j]? = some v) : W.cell? ⟨g, 0 + j, none⟩ = some v := by
  rw [Nat.zero_add, cell_of h]
  simpa using hv
end
end Go.Vm.Tryd
end
