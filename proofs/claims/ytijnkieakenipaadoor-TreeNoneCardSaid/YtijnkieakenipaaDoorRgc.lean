/- A store of one cell among the free operations of a region that draws. -/
import Derived.Test.YtijnkieakenipaaDoorPr5
namespace Go.Proofs.YtijnkieakenipaaDoor
open Go.RowKit
/-- all but block H is as it was; H holds what it held or what it is to hold -/
def RC (H : Nat) (t : TypeId) (B C : List Value) (w w' : World) : Prop := Fr (fun k => k = H) w w' ∧ (Av w H t C → Av w' H t C) ∧ (Av w H t B → Av w' H t B ∨ Av w' H t C)
theorem RC.refl {H : Nat} {t : TypeId} {B C : List Value} (w : World) : RC H t B C w w := ⟨Fr.refl _ _, id, .inl⟩
theorem RC.trans {H : Nat} {t : TypeId} {B C : List Value} (a b c : World) (h : RC H t B C a b) (k : RC H t B C b c) : RC H t B C a c :=
  ⟨h.1.trans k.1, fun x => k.2.1 (h.2.1 x), fun x => (h.2.2 x).elim k.2.2 (fun y => .inr (k.2.1 y))⟩
theorem RC.ofBelow {H : Nat} {t : TypeId} {B C : List Value} {w w' : World} (h : Below w.heap.size w w') : RC H t B C w w' :=
  ⟨Below.fr h, fun a => a.below h, fun a => .inl (a.below h)⟩
theorem exec_storeI1 {P : Program} (ty : TypeId) {w : World} {g i : Nat} {t : TypeId} {l : List Value} (h : Av w g t l) (hi : i < l.length) (kk : IntKind) (z : Int) {o : Oper} {ρ : Operand → Value} {x y : Operand} (ho : o.op = .store ty x y)
    (hx : ρ x = .pointer (some ⟨g, i, none⟩)) (hy : ρ y = .int kk z) (hs : (P.info? ty).map (·.size) = some 1) : (execOp ρ o).run P w = .ok .skip (w.setCell ⟨g, i, none⟩ (.int kk z)) := by
  have hc := h.cell i _ (List.getElem?_eq_getElem hi)
  have hf := frozen_of_row w g i _ t h
  obtain ⟨i0, hi0, hz0⟩ := Option.map_eq_some_iff.1 hs
  have hsz : ∀ w, (sizeOf ty).run P w = .ok 1 w := fun w => by simp [sizeOf, typeInfo, hi0, hz0]
  unfold execOp
  simp only [ho, hx, hy]
  go_simp
/-- the one store -/
theorem RC.store {P : Program} {w0 w : World} {o : Oper} {ρ : Operand → Value} {g : Nat} {t : TypeId} {B C : List Value} (h0 : Av w0 g t B) (hR : RC g t B C w0 w) (ty : TypeId) (x y : Operand) (ho : o.op = .store ty x y) (i : Nat) (hi : i < B.length) (hi2 : i < C.length) (kk : IntKind) (z : Int)
    (hx : ρ x = .pointer (some ⟨g, i, none⟩)) (hy : ρ y = .int kk z) (hs : (P.info? ty).map (·.size) = some 1) (e1 : B.set i (.int kk z) = C) (e2 : C.set i (.int kk z) = C) (j : Nat) : ∃ w', (execOp ρ o).run P w = .ok .skip w' ∧ RC g t B C w w' ∧ gw [(j, fun w => Av w g t C)] j w' := by
  have hC : Av (w.setCell ⟨g, i, none⟩ (.int kk z)) g t C := by
    rcases hR.2.2 h0 with a | a
    · have := a.set i (.int kk z); rwa [e1] at this
    · have := a.set i (.int kk z); rwa [e2] at this
  refine ⟨w.setCell ⟨g, i, none⟩ (.int kk z), ?_, ⟨Fr.setCell w ⟨g, i, none⟩ _, fun _ => hC, fun _ => .inr hC⟩, fun p hp _ => ?_⟩
  · rcases hR.2.2 h0 with a | a
    · exact exec_storeI1 ty a hi kk z ho hx hy hs
    · exact exec_storeI1 ty a hi2 kk z ho hx hy hs
  · rw [List.mem_singleton.1 hp]; exact hC
end Go.Proofs.YtijnkieakenipaaDoor
