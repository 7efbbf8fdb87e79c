import Derived.Test.YtobjgebojhjhnaaDoorOpb
import Derived.Test.YtobjgebojhjhnaaDoorQr5
namespace Go.Proofs.YtobjgebojhjhnaaDoor
open Go.RowKit Go.ChangeShapes Go.WideShapes Go.ChangeAt
def bsc (l : List (List UInt8 × Sl)) : List Value := l.map fun e => slv e.1.length e.2
def RdBss (w : World) (A : Option Addr) (l : List (List UInt8 × Sl)) : Prop := Rd w A (bsc l) ∧ ∀ e ∈ l, Rd w e.2.1 (e.1.map bv) ∧ e.1.length ≤ e.2.2
theorem RdBss.below {w w' : World} {A : Option Addr} {l : List (List UInt8 × Sl)} (h : RdBss w A l) (b : Below w.heap.size w w') : RdBss w' A l := ⟨h.1.below b, fun e he => ⟨(h.2 e he).1.below b, (h.2 e he).2⟩⟩
theorem RdBss.nil (w : World) (A : Option Addr) : RdBss w A [] := ⟨Rd.nil _ _, fun e he => by cases he⟩
theorem RdBss.adr {w : World} {A : Option Addr} {l : List (List UInt8 × Sl)} (h : RdBss w A l) (hl : 0 < l.length) : ∃ b off, A = some ⟨b, off, none⟩ := by
 rcases h.1 with h | ⟨b, off, h, _⟩
 ·rw [bsc, List.map_eq_nil_iff] at h; rw [h] at hl; simp at hl
 ·exact ⟨b, off, h⟩
theorem RdBss.nth {w : World} {b off : Nat} {l : List (List UInt8 × Sl)} (h : RdBss w (some ⟨b, off, none⟩) l) (k : Nat) (e : List UInt8 × Sl) (hk : l[k]? = some e) : w.cell? ⟨b, off + k, none⟩ = some (slv e.1.length e.2) ∧ Rd w e.2.1 (e.1.map bv) ∧ e.1.length ≤ e.2.2 := by
 refine ⟨?_, h.2 e (List.mem_of_getElem? hk)⟩
 rcases h.1 with h0 | ⟨b', off', hA, hc⟩
 ·rw [bsc, List.map_eq_nil_iff] at h0; rw [h0] at hk; simp at hk
 ·injection hA with hA
  injection hA with h1 h2 _
  subst h1; subst h2
  exact hc k _ (by rw [bsc, List.getElem?_map, hk]; rfl)
def hsc (l : List (List UInt8)) : List Value := l.flatMap fun h => h.map bv
def RdHs (w : World) (A : Option Addr) (l : List (List UInt8)) : Prop := Rd w A (hsc l) ∧ ∀ e ∈ l, e.length = 32
theorem RdHs.below {w w' : World} {A : Option Addr} {l : List (List UInt8)} (h : RdHs w A l) (b : Below w.heap.size w w') : RdHs w' A l := ⟨h.1.below b, h.2⟩
theorem RdHs.nil (w : World) (A : Option Addr) : RdHs w A [] := ⟨Rd.nil _ _, fun e he => by cases he⟩
theorem hsc_length : ∀ (l : List (List UInt8)) (_ : ∀ e ∈ l, e.length = 32), (hsc l).length = l.length * 32 := fun l h =>
 flat_length (fun h : List UInt8 => h.map bv) 32 l fun e he => by rw [List.length_map]; exact h e he
theorem RdHs.adr {w : World} {A : Option Addr} {l : List (List UInt8)} (h : RdHs w A l) (hl : 0 < l.length) : ∃ b off, A = some ⟨b, off, none⟩ := by
 rcases h.1 with h1 | ⟨b, off, h1, _⟩
 ·have := hsc_length l h.2
  rw [h1, List.length_nil] at this
  omega
 ·exact ⟨b, off, h1⟩
theorem RdHs.nth {w : World} {b off : Nat} {l : List (List UInt8)} (h : RdHs w (some ⟨b, off, none⟩) l) (k : Nat) (e : List UInt8) (hk : l[k]? = some e) : w.rangeAt b (off + k * 32) (e.map bv) :=
 Rd.piece (fun h : List UInt8 => h.map bv) 32 l (fun e he => by rw [List.length_map]; exact h.2 e he) h.1 k e hk
section
variable {H : Type} {enc : TypeId × Value → H} {w : World} {base : Nat} {spare : Nat → Bool} {held : Bool}
instance : Inhabited (List UInt8 × Sl) := ⟨([], (none, 0))⟩
theorem open_hs {fuel : Nat} {A : Option Addr} {n c : Nat} {x : DataW H × List MemPlace} (h : DataW.trod enc Tryd.prog w base spare held fuel 23 [.slice A n c] = some x) :
  ∃ l : List (List UInt8), l.length = n ∧ n ≤ c ∧ c ≤ maxLen ∧ RdHs w A l := by
 obtain ⟨l, h1, h2, h3, h4, h5⟩ := open_elems Tryd.underlying23 cells_h (by decide) (fun e : List UInt8 => e.map bv) (fun e => e.length = 32) (fun e he => by rw [List.length_map, he]) (fun fuel cs y hy => by
  obtain ⟨bs, e1, e2⟩ := open_hash hy
  exact ⟨bs, e2, e1⟩) h
 exact ⟨l, h1, h2, h3, h4, h5⟩
end
def outT (outs : List TOut) (S : List (List UInt8)) : Bool := outs.any fun o => S.any fun s => o.scr == s
def insT (ins : List TIn) (H : List (List UInt8)) : Bool := ins.any fun i => H.any fun h => i.prev == h
def txT (t : TTx) (S H : List (List UInt8)) : Bool := outT t.outs S || insT t.ins H
theorem outT_yes {outs : List TOut} {S : List (List UInt8)} {o : TOut} {s : List UInt8} (ho : o ∈ outs) (hs : s ∈ S) (h : o.scr = s) : outT outs S = true := by
 simp only [outT, List.any_eq_true, beq_iff_eq]
 exact ⟨o, ho, s, hs, h⟩
theorem insT_yes {ins : List TIn} {H : List (List UInt8)} {i : TIn} {x : List UInt8} (hi : i ∈ ins) (hx : x ∈ H) (h : i.prev = x) : insT ins H = true := by
 simp only [insT, List.any_eq_true, beq_iff_eq]
 exact ⟨i, hi, x, hx, h⟩
theorem outT_no {outs : List TOut} {S : List (List UInt8)} (h : ∀ o ∈ outs, ∀ s ∈ S, o.scr ≠ s) : outT outs S = false := by
 cases hb : outT outs S
 ·rfl
 ·simp only [outT, List.any_eq_true, beq_iff_eq] at hb
  obtain ⟨o, ho, s, hs, he⟩ := hb
  exact absurd he (h o ho s hs)
theorem insT_no {ins : List TIn} {H : List (List UInt8)} (h : ∀ i ∈ ins, ∀ x ∈ H, i.prev ≠ x) : insT ins H = false := by
 cases hb : insT ins H
 ·rfl
 ·simp only [insT, List.any_eq_true, beq_iff_eq] at hb
  obtain ⟨o, ho, s, hs, he⟩ := hb
  exact absurd he (h o ho s hs)
end Go.Proofs.YtobjgebojhjhnaaDoor
