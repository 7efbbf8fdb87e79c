/- Slices of headers as they are read. -/
import Derived.Test.YtijnkieakenipaaDoorPr3
import Derived.Test.YtijnkieakenipaaDoorPc
namespace Go.Proofs.YtijnkieakenipaaDoor
open Go.RowKit
instance : Inhabited Hd := ⟨⟨0, [], [], 0, 0, 0⟩⟩
def hdl (l : List Hd) : List Value := l.flatMap hdc
def OkHds (l : List Hd) : Prop := ∀ h ∈ l, h.ok
def RdHds (w : World) (A : Option Addr) (l : List Hd) : Prop := Rd w A (hdl l) ∧ OkHds l
theorem RdHds.below {w w' : World} {A : Option Addr} {l : List Hd} (h : RdHds w A l) (b : Below w.heap.size w w') : RdHds w' A l := ⟨h.1.below b, h.2⟩
theorem hdl_len {l : List Hd} (h : OkHds l) : (hdl l).length = l.length * 68 := flat_length hdc 68 l fun e he => hdc_length (h e he)
theorem RdHds.adr {w : World} {A : Option Addr} {l : List Hd} (h : RdHds w A l) (hl : 0 < l.length) : ∃ b off, A = some ⟨b, off, none⟩ := by
  refine h.1.someA fun e => ?_
  have := hdl_len h.2
  rw [e, List.length_nil] at this
  omega
theorem RdHds.nth {w : World} {b off : Nat} {l : List Hd} (h : RdHds w (some ⟨b, off, none⟩) l) (k : Nat) (e : Hd) (hk : l[k]? = some e) : w.rangeAt b (off + k * 68) (hdc e) ∧ e.ok :=
  ⟨Rd.piece hdc 68 l (fun e he => hdc_length (h.2 e he)) h.1 k e hk, h.2 e (List.mem_of_getElem? hk)⟩
theorem range_prev {w : World} {b o : Nat} {h : Hd} (r : w.rangeAt b o (hdc h)) : w.rangeAt b (o + 1) (h.prev.map bv) := fun j u hu => by
  have hj := (List.getElem?_eq_some_iff.1 hu).1
  have := r (1 + j) u (by
    unfold hdc
    rw [List.getElem?_append_right (by simp), List.length_singleton, Nat.add_sub_cancel_left, List.getElem?_append_left hj]
    exact hu)
  rw [Nat.add_assoc]
  exact this
end Go.Proofs.YtijnkieakenipaaDoor
