/- Frames: which blocks a call may have written; a variable that holds a growing row of bytes. -/
import Derived.Test.YtijnkieakenipaaDoorAv
import Derived.Test.YtijnkieakenipaaDoorApp
namespace Go.Proofs.YtijnkieakenipaaDoor
open Go.RowKit

/-- All blocks that were there and are not of S are as they were. -/
structure Fr (S : Nat → Prop) (w w' : World) : Prop where
  os : w'.os = w.os
  tape : w'.tape = w.tape
  output : w'.output = w.output
  size : w.heap.size ≤ w'.heap.size
  block : ∀ k, k < w.heap.size → ¬ S k → w'.heap[k]? = w.heap[k]?
theorem Fr.refl (S : Nat → Prop) (w : World) : Fr S w w := ⟨rfl, rfl, rfl, Nat.le_refl _, fun _ _ _ => rfl⟩
theorem Fr.trans {S : Nat → Prop} {a b c : World} (h : Fr S a b) (k : Fr S b c) : Fr S a c :=
  ⟨k.os.trans h.os, k.tape.trans h.tape, k.output.trans h.output, Nat.le_trans h.size k.size, fun i hi hs => (k.block i (Nat.lt_of_lt_of_le hi h.size) hs).trans (h.block i hi hs)⟩
theorem Fr.weaken {S T : Nat → Prop} {w w' : World} (h : Fr S w w') (hst : ∀ k, k < w.heap.size → S k → T k) : Fr T w w' :=
  ⟨h.os, h.tape, h.output, h.size, fun k hk hs => h.block k hk fun hs' => hs (hst k hk hs')⟩
theorem Below.fr {S : Nat → Prop} {w w' : World} (h : Below w.heap.size w w') : Fr S w w' := ⟨h.os, h.tape, h.output, h.size, fun k hk _ => h.block k hk⟩
theorem Fr.below {S : Nat → Prop} {B : Nat} {w w' : World} (h : Fr S w w') (hs : ∀ k, S k → B ≤ k) (hB : B ≤ w.heap.size) : Below B w w' :=
  ⟨h.os, h.tape, h.output, h.size, fun k hk => h.block k (by omega) fun h' => by have := hs k h'; omega⟩
theorem Fr.av {S : Nat → Prop} {w w' : World} {g : Nat} {t : TypeId} {l : List Value} (h : Fr S w w') (ha : Av w g t l) (hg : ¬ S g) : Av w' g t l := ha.same (h.block g ha.lt hg)
theorem Fr.rd {S : Nat → Prop} {w w' : World} {A : Option Addr} {xs : List Value} (h : Fr S w w') (hr : Rd w A xs) (hA : ∀ a, A = some a → ¬ S a.block) : Rd w' A xs := by
  rcases hr with e | ⟨b, off, e, hc⟩
  · exact .inl e
  · exact .inr ⟨b, off, e, fun j u hu => (World.cell?_of_block (a := ⟨b, off + j, none⟩) (h.block b (World.block_lt_of_cell? w _ (hc j u hu)) (hA _ e))).trans (hc j u hu)⟩
theorem Fr.setCell (w : World) (a : Addr) (v : Value) : Fr (fun k => k = a.block) w (w.setCell a v) :=
  ⟨by simp [World.setCell], by simp [World.setCell], by simp [World.setCell], by simp, fun k _ hk => heap_setCell_other w a k v hk⟩
theorem Fr.of_grown {w w' : World} {row : Option Nat} (h : w.grownBy w' row) : Fr (fun k => some k = row) w w' := ⟨h.os, h.tape, h.output, h.size, fun k hk hs => h.block k hk hs⟩
theorem OwnB.fr {S : Nat → Prop} {w w' : World} {base : Nat} {v : Value} {bs : List UInt8} (ho : OwnB w base v bs) (h : Fr S w w') (hv : ∀ k, v.ownBlock = some k → ¬ S k) : OwnB w' base v bs := by
  unfold OwnB at ho ⊢
  refine ⟨ho.1, ho.2.imp id ?_⟩
  rintro ⟨g, cap, cur, rfl, hb, hg, hrest⟩
  refine ⟨g, cap, cur, rfl, hb, ?_, hrest⟩
  rw [h.block g (Array.getElem?_eq_some_iff.1 hg).1 (hv g rfl)]
  exact hg
/-- a row grows: it stays where it lies, or lies in new memory -/
def RowTo (w : World) (v v' : Value) : Prop := v'.ownBlock = v.ownBlock ∨ ∃ k, v'.ownBlock = some k ∧ w.heap.size ≤ k
/-- block g holds the slice v of the call's own bytes bs, which lie elsewhere, at or beyond base -/
structure Buf (w : World) (g base : Nat) (v : Value) (bs : List UInt8) : Prop where
  av : Av w g 67 [v]
  own : OwnB w base v bs
  ne : v.ownBlock ≠ some g
/-- what a call that writes to such a row leaves -/
structure BufTo (g base : Nat) (w : World) (v : Value) (w' : World) (v' : Value) (bs' : List UInt8) : Prop where
  buf : Buf w' g base v' bs'
  row : RowTo w v v'
  fr : Fr (fun k => k = g ∨ v.ownBlock = some k) w w'
theorem Buf.to {w : World} {g base : Nat} {v : Value} {bs : List UInt8} (h : Buf w g base v bs) : BufTo g base w v w v bs := ⟨h, .inl rfl, Fr.refl _ _⟩
theorem BufTo.trans {g base : Nat} {w w' w'' : World} {v v' v'' : Value} {b1 b2 : List UInt8} (h : BufTo g base w v w' v' b1) (k : BufTo g base w' v' w'' v'' b2) : BufTo g base w v w'' v'' b2 := by
  refine ⟨k.buf, ?_, ?_⟩
  · rcases k.row with e | ⟨q, e, hq⟩
    · rcases h.row with e' | ⟨q, e', hq⟩
      · exact .inl (e.trans e')
      · exact .inr ⟨q, e.trans e', hq⟩
    · exact .inr ⟨q, e, Nat.le_trans h.fr.size hq⟩
  · refine ⟨k.fr.os.trans h.fr.os, k.fr.tape.trans h.fr.tape, k.fr.output.trans h.fr.output, Nat.le_trans h.fr.size k.fr.size, fun i hi hs => (k.fr.block i (Nat.lt_of_lt_of_le hi h.fr.size) ?_).trans (h.fr.block i hi hs)⟩
    rintro (e | e)
    · exact hs (.inl e)
    · rcases h.row with e' | ⟨q, e', hq⟩
      · exact hs (.inr (e'.symm.trans e))
      · rw [e'] at e; injection e with e; omega
theorem Buf.fr {S : Nat → Prop} {w w' : World} {g base : Nat} {v : Value} {bs : List UInt8} (h : Buf w g base v bs) (f : Fr S w w') (hg : ¬ S g) (hv : ∀ k, v.ownBlock = some k → ¬ S k) : Buf w' g base v bs :=
  ⟨f.av h.av hg, h.own.fr f hv, h.ne⟩
theorem Buf.below {w w' : World} {g base : Nat} {v : Value} {bs : List UInt8} (h : Buf w g base v bs) (f : Below w.heap.size w w') : Buf w' g base v bs :=
  ⟨h.av.below f, h.own.below f, h.ne⟩
/-- behind an append and the store of the new slice -/
theorem Buf.app {w w1 : World} {g base : Nat} {v v1 : Value} {bs bs1 : List UInt8} (h : Buf w g base v bs) (ho : OwnB w1 base v1 bs1) (hg : w.grownBy w1 v.ownBlock) (hr : v1.ownBlock = v.ownBlock ∨ v1.ownBlock = some w.heap.size) :
    BufTo g base w v (w1.setCell ⟨g, 0, none⟩ v1) v1 bs1 := by
  have hlt := h.av.lt
  have hne : v1.ownBlock ≠ some g := by
    rcases hr with e | e
    · rw [e]; exact h.ne
    · rw [e]; intro e'; injection e'; omega
  have a1 : Av w1 g 67 [v] := h.av.same (hg.block g hlt fun e => h.ne e.symm)
  refine ⟨⟨a1.set 0 _, ho.fr (Fr.setCell _ _ _) (fun k e e' => hne (by rw [e, e'])), hne⟩, hr.imp id fun e => ⟨_, e, Nat.le_refl _⟩, ?_⟩
  refine ((Fr.of_grown hg).weaken fun k _ e => .inr e.symm).trans ((Fr.setCell w1 ⟨g, 0, none⟩ v1).weaken fun k _ e => .inl e)
theorem BufTo.below {g base : Nat} {w w1 w2 : World} {v v' : Value} {bs' : List UInt8} (h : BufTo g base w v w1 v' bs') (b : Below w1.heap.size w1 w2) : BufTo g base w v w2 v' bs' :=
  ⟨h.buf.below b, h.row, h.fr.trans (Below.fr b)⟩
theorem OwnB.formE {w : World} {base : Nat} {v : Value} {xs : List UInt8} (h : OwnB w base v xs) : ∃ q A c, v = .slice A q c := by
  obtain ⟨A, c, e, _⟩ := h.form
  exact ⟨_, A, c, e⟩
/-- 'append(s, x..)' of bytes onto a row of the call's own: where the new one lies -/
theorem wpList_appV {w : World} {base : Nat} {v : Value} {xs : List UInt8} (hown : OwnB w base v xs) (hbase : base ≤ w.heap.size)
    {A : Option Addr} {bs : List UInt8} (m c : Nat) (hr : Rd w A (bs.map bv)) (hl : bs.length = m) (hm : xs.length + m ≤ 140737488355328)
    {ops : Array Oper} {rest : List Oper} {o : Oper} {a : Act} {Q : Exit → Act → World → Prop} (hgd : o.guard = none) (s x : Operand)
    (ho : o.op = .call { callee := .builtin .append, args := #[s, x], argTypes := #[67, 67] })
    (hs : a.eval s = v) (hx : a.eval x = .slice A m c)
    (h : ∀ v' w', OwnB w' base v' (xs ++ bs) → w.grownBy w' v.ownBlock → (v'.ownBlock = v.ownBlock ∨ v'.ownBlock = some w.heap.size) → wpList Tryd.prog ops Q rest (a.put o.dst v') w') : wpList Tryd.prog ops Q (o :: rest) a w := by
  obtain ⟨i0, hi, hz0, hz1, hz2⟩ := info_parts info_u8
  refine wpList_append_rd w hgd s x 67 ho base 5 i0 (.int .u8 0) 1 1 Tryd.underlying67 hi hz0 hz1 hz2 rfl (by decide) v xs.length (xs.map bv) hs hown
    A m c (bs.map bv) hx (by simp [hl]) hr (bv_one bs) (by simp only [maxLen]; omega) (by omega) hbase ?_
  intro v' w' h1 h2 h3
  refine h v' w' ?_ h2 h3
  unfold OwnB
  rw [List.length_append, List.map_append, hl]
  exact h1
theorem OwnB.low {w : World} {b base : Nat} {v : Value} {xs : List UInt8} (h : OwnB w base v xs) (hb : b ≤ base) : OwnB w b v xs := by
  unfold OwnB at h ⊢
  refine ⟨h.1, h.2.imp id ?_⟩
  rintro ⟨g, cap, cur, e, hg, hrest⟩
  exact ⟨g, cap, cur, e, Nat.le_trans hb hg, hrest⟩
/-- a slice is stored into a cell of the call's own -/
theorem wpList_storeS {P : Program} {ops : Array Oper} {rest : List Oper} {o : Oper} {a : Act} {w : World} {Q : Exit → Act → World → Prop} {g i : Nat} {t : TypeId} {l : List Value} (hgd : o.guard = none) (ty : TypeId) (x y : Operand) (ho : o.op = .store ty x y)
    (hx : a.eval x = .pointer (some ⟨g, i, none⟩)) (h : Av w g t l) (hi : i < l.length) (A : Option Addr) (n c : Nat) (hy : a.eval y = .slice A n c) (hs : (P.info? ty).map (·.size) = some 1) (k : wpList P ops Q rest (a.put o.dst undef) (w.setCell ⟨g, i, none⟩ (.slice A n c))) : wpList P ops Q (o :: rest) a w := by
  refine wpList_plain hgd fun _ hK => ?_
  have hc := h.cell i _ (List.getElem?_eq_getElem hi)
  have hf := frozen_of_row w g i _ t h
  obtain ⟨i0, hi0, hz0⟩ := Option.map_eq_some_iff.1 hs
  have hsz : ∀ w, (sizeOf ty).run P w = .ok 1 w := fun w => by simp [sizeOf, typeInfo, hi0, hz0]
  unfold Oper.wp execOp
  simp only [ho, hx, hy]
  go_simp
  exact hK _ _ k
end Go.Proofs.YtijnkieakenipaaDoor
