/- Pc; TxM: put together for the claim. -/
import Derived.Test.YtopgljkfoogihaaDoorPr1
import Derived.Test.YtopgljkfoogihaaDoorCMath
import Derived.Test.YtopgljkfoogihaaDoorFr
/- Pieces of a row of elements. -/
namespace Go.Proofs.YtopgljkfoogihaaDoor
open Go.RowKit
theorem Rd.piece {α : Type} {w : World} {b off : Nat} (f : α → List Value) (n : Nat) : ∀ (l : List α) (_ : ∀ e ∈ l, (f e).length = n) (_ : Rd w (some ⟨b, off, none⟩) (l.flatMap f)) (k : Nat) (e : α) (_ : l[k]? = some e), w.rangeAt b (off + k * n) (f e)
  | [], _, _, k, e, hk => by simp at hk
  | x :: l, hl, hr, 0, e, hk => by
    obtain rfl : x = e := by simpa using hk
    intro j v hv
    rcases hr with h | ⟨b', o', hA, hc⟩
    · rw [List.flatMap_cons] at h
      rw [(List.append_eq_nil_iff.1 h).1] at hv
      simp at hv
    · cases hA
      have hj := (List.getElem?_eq_some_iff.1 hv).1
      have := hc j v (by rw [List.flatMap_cons, List.getElem?_append_left hj]; exact hv)
      rw [Nat.zero_mul, Nat.add_zero]
      exact this
  | x :: l, hl, hr, k + 1, e, hk => by
    have hx := hl x (List.mem_cons_self ..)
    have h2 := hr.drop n
    rw [List.flatMap_cons, List.drop_append, List.drop_of_length_le (by rw [hx]; exact Nat.le_refl _), hx, Nat.sub_self, List.drop_zero, List.nil_append] at h2
    have := Rd.piece f n l (fun e he => hl e (List.mem_cons_of_mem _ he)) h2 k e (by simpa using hk)
    rw [show off + (k + 1) * n = off + n + k * n by rw [Nat.add_mul, Nat.one_mul]; omega]
    exact this
theorem flat_length {α β : Type} (f : α → List β) (n : Nat) : ∀ (l : List α) (_ : ∀ e ∈ l, (f e).length = n), (l.flatMap f).length = l.length * n
  | [], _ => by simp
  | x :: l, h => by
    rw [List.flatMap_cons, List.length_append, h x (List.mem_cons_self ..), flat_length f n l fun e he => h e (List.mem_cons_of_mem _ he), List.length_cons, Nat.add_mul, Nat.one_mul, Nat.add_comm]
end Go.Proofs.YtopgljkfoogihaaDoor
/- Transactions as plain data, as bytes, and in memory. -/
namespace Go.Proofs.YtopgljkfoogihaaDoor
open Go.RowKit

structure TIn where
  prev : List UInt8
  idx : Nat
  scr : List UInt8
  seq : Nat
structure TOut where
  val : Nat
  scr : List UInt8
structure TTx where
  ver : Nat
  ins : List TIn
  outs : List TOut
  lock : Nat
def TIn.ok (i : TIn) : Prop := i.prev.length = 32 ∧ i.idx < 4294967296 ∧ i.seq < 4294967296
def TOut.ok (o : TOut) : Prop := o.val < 18446744073709551616
def inB (i : TIn) : List UInt8 := i.prev ++ (Cm.lo 4 i.idx ++ ((Cm.put i.scr.length ++ i.scr) ++ Cm.lo 4 i.seq))
def outBs (o : TOut) : List UInt8 := Cm.lo 8 o.val ++ (Cm.put o.scr.length ++ o.scr)
def txB (t : TTx) : List UInt8 := Cm.lo 4 t.ver ++ (Cm.put t.ins.length ++ (t.ins.flatMap inB ++ (Cm.put t.outs.length ++ (t.outs.flatMap outBs ++ Cm.lo 4 t.lock))))
def txSane (t : TTx) : Bool := decide (1 ≤ t.ins.length) && decide (t.ins.length ≤ 1000) && decide (t.outs.length ≤ 1000) && (t.ins.all fun i => decide (i.scr.length ≤ 10000)) && (t.outs.all fun o => decide (o.scr.length ≤ 10000))

/-- a slice: where it lies, how many it may hold -/
abbrev Sl := Option Addr × Nat
abbrev slv (n : Nat) (s : Sl) : Value := .slice s.1 n s.2
def inc (e : TIn × Sl) : List Value := e.1.prev.map bv ++ [.int .u32 (e.1.idx : Int), slv e.1.scr.length e.2, .int .u32 (e.1.seq : Int)]
def outc (e : TOut × Sl) : List Value := [.int .u64 (e.1.val : Int), slv e.1.scr.length e.2]
def icl (l : List (TIn × Sl)) : List Value := l.flatMap inc
def ocl (l : List (TOut × Sl)) : List Value := l.flatMap outc
def InAt (w : World) (e : TIn × Sl) : Prop := e.1.ok ∧ Rd w e.2.1 (e.1.scr.map bv) ∧ e.1.scr.length ≤ e.2.2
def OutAt (w : World) (e : TOut × Sl) : Prop := e.1.ok ∧ Rd w e.2.1 (e.1.scr.map bv) ∧ e.1.scr.length ≤ e.2.2
theorem InAt.below {w w' : World} {e : TIn × Sl} (h : InAt w e) (b : Below w.heap.size w w') : InAt w' e := ⟨h.1, h.2.1.below b, h.2.2⟩
theorem OutAt.below {w w' : World} {e : TOut × Sl} (h : OutAt w e) (b : Below w.heap.size w w') : OutAt w' e := ⟨h.1, h.2.1.below b, h.2.2⟩
theorem inc_length {w : World} {e : TIn × Sl} (h : InAt w e) : (inc e).length = 35 := by simp [inc, h.1.1]
theorem outc_length (e : TOut × Sl) : (outc e).length = 2 := rfl
theorem inc_one (e : TIn × Sl) : ∀ u ∈ inc e, u.oneCell' = true := by
  intro u hu
  simp only [inc, List.mem_append, List.mem_cons, List.not_mem_nil, or_false] at hu
  rcases hu with hu | rfl | rfl | rfl
  · exact bv_one _ u hu
  all_goals rfl
theorem outc_one (e : TOut × Sl) : ∀ u ∈ outc e, u.oneCell' = true := by
  intro u hu
  simp only [outc, List.mem_cons, List.not_mem_nil, or_false] at hu
  rcases hu with rfl | rfl <;> rfl
/-- slices of inputs, of outputs -/
def RdIns (w : World) (A : Option Addr) (l : List (TIn × Sl)) : Prop := Rd w A (icl l) ∧ ∀ e ∈ l, InAt w e
def RdOuts (w : World) (A : Option Addr) (l : List (TOut × Sl)) : Prop := Rd w A (ocl l) ∧ ∀ e ∈ l, OutAt w e
theorem RdIns.below {w w' : World} {A : Option Addr} {l : List (TIn × Sl)} (h : RdIns w A l) (b : Below w.heap.size w w') : RdIns w' A l := ⟨h.1.below b, fun e he => (h.2 e he).below b⟩
theorem RdOuts.below {w w' : World} {A : Option Addr} {l : List (TOut × Sl)} (h : RdOuts w A l) (b : Below w.heap.size w w') : RdOuts w' A l := ⟨h.1.below b, fun e he => (h.2 e he).below b⟩
theorem RdIns.adr {w : World} {A : Option Addr} {l : List (TIn × Sl)} (h : RdIns w A l) (hl : 0 < l.length) : ∃ b off, A = some ⟨b, off, none⟩ := by
  rcases h.1 with e | ⟨b, off, e, _⟩
  · have := flat_length inc 35 l fun e he => inc_length (h.2 e he)
    rw [icl] at e; rw [e] at this; simp at this; omega
  · exact ⟨b, off, e⟩
theorem RdOuts.adr {w : World} {A : Option Addr} {l : List (TOut × Sl)} (h : RdOuts w A l) (hl : 0 < l.length) : ∃ b off, A = some ⟨b, off, none⟩ := by
  rcases h.1 with e | ⟨b, off, e, _⟩
  · have := flat_length outc 2 l fun e _ => outc_length e
    rw [ocl] at e; rw [e] at this; simp at this; omega
  · exact ⟨b, off, e⟩
theorem RdIns.nth {w : World} {b off : Nat} {l : List (TIn × Sl)} (h : RdIns w (some ⟨b, off, none⟩) l) (k : Nat) (e : TIn × Sl) (hk : l[k]? = some e) : w.rangeAt b (off + k * 35) (inc e) ∧ InAt w e :=
  ⟨Rd.piece inc 35 l (fun e he => inc_length (h.2 e he)) h.1 k e hk, h.2 e (List.mem_of_getElem? hk)⟩
theorem RdOuts.nth {w : World} {b off : Nat} {l : List (TOut × Sl)} (h : RdOuts w (some ⟨b, off, none⟩) l) (k : Nat) (e : TOut × Sl) (hk : l[k]? = some e) : w.rangeAt b (off + k * 2) (outc e) ∧ OutAt w e :=
  ⟨Rd.piece outc 2 l (fun e _ => outc_length e) h.1 k e hk, h.2 e (List.mem_of_getElem? hk)⟩
/-- the transaction that lists of slices are of -/
def txOf (ver : Nat) (l : List (TIn × Sl)) (m : List (TOut × Sl)) (lock : Nat) : TTx := ⟨ver, l.map (·.1), m.map (·.1), lock⟩
theorem inB_length (i : TIn) (h : i.prev.length = 32) (hs : i.scr.length ≤ 10000) : (inB i).length ≤ 10049 := by
  have := Cm.size_le i.scr.length
  simp only [inB, List.length_append, Cm.lo_length, Cm.put_length, h]; omega
theorem outBs_length (o : TOut) (hs : o.scr.length ≤ 10000) : (outBs o).length ≤ 10017 := by
  have := Cm.size_le o.scr.length
  simp only [outBs, List.length_append, Cm.lo_length, Cm.put_length]; omega
theorem flat_le {α β : Type} (f : α → List β) (n : Nat) : ∀ (l : List α) (_ : ∀ e ∈ l, (f e).length ≤ n), (l.flatMap f).length ≤ l.length * n
  | [], _ => by simp
  | x :: l, h => by
    have h1 := h x (List.mem_cons_self ..)
    have h2 := flat_le f n l fun e he => h e (List.mem_cons_of_mem _ he)
    rw [List.flatMap_cons, List.length_append, List.length_cons, Nat.add_mul, Nat.one_mul]
    omega
theorem BufTo.keep {g base : Nat} {w w' : World} {v v' : Value} {bs' : List UInt8} (h : BufTo g base w v w' v' bs') (x : Nat) (hx : x < w.heap.size) (hg : x ≠ g) (hv : v.ownBlock ≠ some x) : w'.heap[x]? = w.heap[x]? ∧ v'.ownBlock ≠ some x := by
  refine ⟨h.fr.block x hx (fun e => e.elim hg hv), fun e => ?_⟩
  rcases h.row with e' | ⟨q, e', hq⟩
  · exact hv (e'.symm.trans e)
  · rw [e'] at e; injection e; omega
end Go.Proofs.YtopgljkfoogihaaDoor
