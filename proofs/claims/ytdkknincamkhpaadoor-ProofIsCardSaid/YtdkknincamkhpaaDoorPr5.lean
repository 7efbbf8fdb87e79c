/- ShD; Fr; Bld: put together for the claim. -/
import Derived.Test.YtdkknincamkhpaaDoorPr4
import Derived.Test.YtdkknincamkhpaaDoorPr1
import Derived.Test.YtdkknincamkhpaaDoorPr2
import Derived.Test.YtdkknincamkhpaaDoorRelT
import Derived.Great.BuildSlice
import Derived.Laws.CopyRow
/- Sum and Double of SHA-256. -/
namespace Go.Proofs.YtdkknincamkhpaaDoor
open Go.RowKit
attribute [local go_sem high] slB_lh slB_l slB_h nilB_eq

/-- the sum of bytes -/
def sumB (bs : List UInt8) : List UInt8 :=
  outB (shFold ((bs.length % 64 + (padZ bs.length + 9)) / 64) (shFold (bs.length / 64) shInit bs) (bs.drop (64 * (bs.length / 64)) ++ padOf bs.length))
theorem sumB_length (bs : List UInt8) : (sumB bs).length = 32 := outB_length _
/-- the sum of the sum -/
def dblB (bs : List UInt8) : List UInt8 := sumB (sumB bs)
theorem dblB_length (bs : List UInt8) : (dblB bs).length = 32 := sumB_length _

set_option maxRecDepth 10000 in
set_option maxHeartbeats 1000000 in
theorem Sum (bs : List UInt8) (B : Option Addr) (m c : Nat) (hm : bs.length = m) (hc : m ≤ c) (hm2 : m < 18446744073709551616) (w : World) (hr : Rd w B (bs.map bv)) (ht : Tabs w) :
    Calls Tryd.prog 36 #[.slice B m c] w fun e w' => e = .returned (.agg (hcs (sumB bs))) ∧ Below w.heap.size w w' := by
  have hz := zeros_32
  have hzl : (List.replicate 32 (0 : UInt8)).length = 32 := by simp
  obtain ⟨zs, hzs⟩ : ∃ zs : List UInt8, zs = List.replicate 32 0 := ⟨_, rfl⟩
  rw [← hzs] at hz hzl
  clear hzs
  replace hzl := Lib.hid hzl
  obtain ⟨ss, hss⟩ : ∃ l, l = sumB bs := ⟨_, rfl⟩
  have hsl : ss.length = 32 := by rw [hss, sumB_length]
  rw [← hss]
  replace hss := Lib.hid hss
  replace hsl := Lib.hid hsl
  replace hm := Lib.hid hm
  go_enter Tryd.func36, Tryd.ntmps36
  have hb0 := (Below.refl w.heap.size w).alloc (Nat.le_refl _) (.cells (zs.map bv).toArray 28)
  have ha2 : Av (w.alloc (.cells (zs.map bv).toArray 28)) w.heap.size 28 (zs.map bv) := heap_alloc_new _ _
  go_wp2_with fail
  generalize w.alloc (.cells (zs.map bv).toArray 28) = w0 at *
  refine (Start w0 (ht.below hb0)).mono ?_
  rintro e w1 ⟨rfl, b1⟩
  replace ha2 := ha2.below b1
  replace b1 := hb0.trans (b1.mono hb0.size)
  have HW := Write shInit (by rw [shInit, ifill_length]) [] none 0 0 rfl (by omega) (Nat.le_refl _) 0 (by omega) (by omega) rfl bs B m c hm.out hc (.inl rfl) w1 (Rd.nil _ _) (hr.below b1) (ht.below b1)
  rw [List.nil_append, Nat.zero_add] at HW
  have e1 : IntKind.u64.wrap (0 + IntKind.u64.wrap (m : Int)) = (m : Int) := by rw [IntKind.wrap_u64, IntKind.wrap_u64]; omega
  rw [e1] at HW
  obtain ⟨h1, hh1⟩ : ∃ l, l = shFold (m / 64) shInit bs := ⟨_, rfl⟩
  have hl1 : h1.length = 8 := by rw [hh1, shFold_length _ _ _ (by rw [shInit, ifill_length])]
  rw [← hh1] at HW
  replace HW := Lib.hid HW
  replace hh1 := Lib.hid hh1
  replace hl1 := Lib.hid hl1
  clear e1 hb0
  go_wp2_with fail
  refine HW.out.mono ?_
  rintro e w2 ⟨A2, c2, rfl, hc2, hr2, b2⟩
  clear HW
  replace ha2 := ha2.below b2
  replace b2 := b1.trans (b2.mono b1.size)
  have HE := End h1 hl1.out (bs.drop (64 * (m / 64))) A2 (m % 64) c2 (by rw [List.length_drop, hm.out]; omega) (by omega) hc2 m (by omega) rfl w2 hr2 (ht.below b2)
  rw [hh1.out] at HE
  have hss2 := hss.out
  rw [sumB, hm.out] at hss2
  rw [← hss2, ← hh1.out] at HE
  replace HE := Lib.hid HE
  clear hss2
  go_wp2_with fail
  refine HE.out.mono ?_
  rintro e w3 ⟨rfl, b3⟩
  clear HE
  replace ha2 := ha2.below b3
  replace b3 := b2.trans (b3.mono b2.size)
  go_wp2_with (refine wpList_storeAv b3 ha2 (Nat.le_refl _) rfl _ _ _ rfl rfl (ss.map bv) rfl 32 (by rw [List.length_map, hsl.out]) (by kernel_rfl) (by rw [List.size_toArray, List.length_map]; exact hzl.out) (by simp [Value.oneCell']) ?_
               intro w6 a6 b6 k6 z6)
  refine bodyPost_ret (results_cell_row rfl _ _ w.heap.size _ _ (0, 0) _ rfl a6 Tryd.underlying28 rfl (by rw [List.size_toArray, List.length_map, hsl.out]; kernel_rfl)) rfl ⟨rfl, b6⟩
set_option maxRecDepth 10000 in
set_option maxHeartbeats 1000000 in
theorem Double (bs : List UInt8) (B : Option Addr) (m c : Nat) (hm : bs.length = m) (hc : m ≤ c) (hm2 : m < 18446744073709551616) (w : World) (hr : Rd w B (bs.map bv)) (ht : Tabs w) :
    Calls Tryd.prog 26 #[.slice B m c] w fun e w' => e = .returned (.agg (hcs (dblB bs))) ∧ Below w.heap.size w w' := by
  have hz := zeros_32
  have hzl : (List.replicate 32 (0 : UInt8)).length = 32 := by simp
  obtain ⟨zs, hzs⟩ : ∃ zs : List UInt8, zs = List.replicate 32 0 := ⟨_, rfl⟩
  rw [← hzs] at hz hzl
  clear hzs
  replace hzl := Lib.hid hzl
  obtain ⟨ss, hss⟩ : ∃ l, l = sumB bs := ⟨_, rfl⟩
  have hsl : ss.length = 32 := by rw [hss, sumB_length]
  rw [dblB, ← hss]
  obtain ⟨dd, hdd⟩ : ∃ l, l = sumB ss := ⟨_, rfl⟩
  have hdl : dd.length = 32 := by rw [hdd, sumB_length]
  rw [← hdd]
  replace hss := Lib.hid hss
  replace hsl := Lib.hid hsl
  replace hdd := Lib.hid hdd
  replace hdl := Lib.hid hdl
  replace hm := Lib.hid hm
  go_enter Tryd.func26, Tryd.ntmps26
  have hb0 := (Below.refl w.heap.size w).alloc (Nat.le_refl _) (.cells (zs.map bv).toArray 28)
  have ha2 : Av (w.alloc (.cells (zs.map bv).toArray 28)) w.heap.size 28 (zs.map bv) := heap_alloc_new _ _
  go_wp2_with fail
  generalize w.alloc (.cells (zs.map bv).toArray 28) = w0 at *
  refine (Sum bs B m c hm.out hc hm2 w0 (hr.below hb0) (ht.below hb0)).mono ?_
  rintro e w1 ⟨rfl, b1⟩
  rw [← hss.out]
  replace ha2 := ha2.below b1
  replace b1 := hb0.trans (b1.mono hb0.size)
  have q1 := Lib.hid ha2.lt
  go_wp2_with (refine wpList_storeAv (b1.alloc b1.size _) (heap_alloc_new _ _) b1.size rfl _ _ _ rfl rfl (ss.map bv) rfl 32 (by rw [List.length_map, hsl.out]) (by kernel_rfl) (by rw [List.size_toArray, List.length_map]; exact hzl.out) (by simp [Value.oneCell']) ?_
               intro w2 a3 b2 k2 z2
               replace z2 := Lib.hid z2
               replace ha2 := (ha2.alloc (.cells (zs.map bv).toArray 28)).same (k2 _ (Nat.ne_of_lt q1.out)))
  refine (Sum ss _ 32 32 hsl.out (Nat.le_refl _) (by omega) w2 a3.rd (ht.below b2)).mono ?_
  rintro e w3 ⟨rfl, b3⟩
  rw [← hdd.out]
  replace ha2 := ha2.below b3
  replace b3 := b2.trans (b3.mono b2.size)
  go_wp2_with (refine wpList_storeAv b3 ha2 (Nat.le_refl _) rfl _ _ _ rfl rfl (dd.map bv) rfl 32 (by rw [List.length_map, hdl.out]) (by kernel_rfl) (by rw [List.size_toArray, List.length_map]; exact hzl.out) (by simp [Value.oneCell']) ?_
               intro w6 a6 b6 k6 z6)
  refine bodyPost_ret (results_cell_row rfl _ _ w.heap.size _ _ (0, 0) _ rfl a6 Tryd.underlying28 rfl (by rw [List.size_toArray, List.length_map, hdl.out]; kernel_rfl)) rfl ⟨rfl, b6⟩

end Go.Proofs.YtdkknincamkhpaaDoor
/- Frames: which blocks a call may have written; a variable that holds a growing row of bytes. -/
namespace Go.Proofs.YtdkknincamkhpaaDoor
open Go.RowKit

/-- All blocks that were there and are not of S are as they were. -/
structure Fr (S : Nat → Prop) (w w' : World) : Prop where
  os : w'.os = w.os
  tape : w'.tape = w.tape
  output : w'.output = w.output
  size : w.heap.size ≤ w'.heap.size
  block : ∀ k, k < w.heap.size → ¬ S k → w'.heap[k]? = w.heap[k]?
theorem Fr.refl (S : Nat → Prop) (w : World) : Fr S w w := ⟨rfl, rfl, rfl, Nat.le_refl _, fun _ _ _ => rfl⟩
theorem Fr.trans {S : Nat → Prop} {a b c : World} (h : Fr S a b) (k : Fr S b c) : Fr S a c :=
  ⟨k.os.trans h.os, k.tape.trans h.tape, k.output.trans h.output, Nat.le_trans h.size k.size, fun i hi hs => (k.block i (Nat.lt_of_lt_of_le hi h.size) hs).trans (h.block i hi hs)⟩
theorem Fr.weaken {S T : Nat → Prop} {w w' : World} (h : Fr S w w') (hst : ∀ k, k < w.heap.size → S k → T k) : Fr T w w' :=
  ⟨h.os, h.tape, h.output, h.size, fun k hk hs => h.block k hk fun hs' => hs (hst k hk hs')⟩
theorem Below.fr {S : Nat → Prop} {w w' : World} (h : Below w.heap.size w w') : Fr S w w' := ⟨h.os, h.tape, h.output, h.size, fun k hk _ => h.block k hk⟩
theorem Fr.below {S : Nat → Prop} {B : Nat} {w w' : World} (h : Fr S w w') (hs : ∀ k, S k → B ≤ k) (hB : B ≤ w.heap.size) : Below B w w' :=
  ⟨h.os, h.tape, h.output, h.size, fun k hk => h.block k (by omega) fun h' => by have := hs k h'; omega⟩
theorem Fr.av {S : Nat → Prop} {w w' : World} {g : Nat} {t : TypeId} {l : List Value} (h : Fr S w w') (ha : Av w g t l) (hg : ¬ S g) : Av w' g t l := ha.same (h.block g ha.lt hg)
theorem Fr.rd {S : Nat → Prop} {w w' : World} {A : Option Addr} {xs : List Value} (h : Fr S w w') (hr : Rd w A xs) (hA : ∀ a, A = some a → ¬ S a.block) : Rd w' A xs := by
  rcases hr with e | ⟨b, off, e, hc⟩
  · exact .inl e
  · exact .inr ⟨b, off, e, fun j u hu => (World.cell?_of_block (a := ⟨b, off + j, none⟩) (h.block b (World.block_lt_of_cell? w _ (hc j u hu)) (hA _ e))).trans (hc j u hu)⟩
theorem Fr.setCell (w : World) (a : Addr) (v : Value) : Fr (fun k => k = a.block) w (w.setCell a v) :=
  ⟨by simp [World.setCell], by simp [World.setCell], by simp [World.setCell], by simp, fun k _ hk => heap_setCell_other w a k v hk⟩
theorem Fr.of_grown {w w' : World} {row : Option Nat} (h : w.grownBy w' row) : Fr (fun k => some k = row) w w' := ⟨h.os, h.tape, h.output, h.size, fun k hk hs => h.block k hk hs⟩
theorem OwnB.fr {S : Nat → Prop} {w w' : World} {base : Nat} {v : Value} {bs : List UInt8} (ho : OwnB w base v bs) (h : Fr S w w') (hv : ∀ k, v.ownBlock = some k → ¬ S k) : OwnB w' base v bs := by
  unfold OwnB at ho ⊢
  refine ⟨ho.1, ho.2.imp id ?_⟩
  rintro ⟨g, cap, cur, rfl, hb, hg, hrest⟩
  refine ⟨g, cap, cur, rfl, hb, ?_, hrest⟩
  rw [h.block g (Array.getElem?_eq_some_iff.1 hg).1 (hv g rfl)]
  exact hg
/-- a row grows: it stays where it lies, or lies in new memory -/
def RowTo (w : World) (v v' : Value) : Prop := v'.ownBlock = v.ownBlock ∨ ∃ k, v'.ownBlock = some k ∧ w.heap.size ≤ k
/-- block g holds the slice v of the call's own bytes bs, which lie elsewhere, at or beyond base -/
structure Buf (w : World) (g base : Nat) (v : Value) (bs : List UInt8) : Prop where
  av : Av w g 24 [v]
  own : OwnB w base v bs
  ne : v.ownBlock ≠ some g
/-- what a call that writes to such a row leaves -/
structure BufTo (g base : Nat) (w : World) (v : Value) (w' : World) (v' : Value) (bs' : List UInt8) : Prop where
  buf : Buf w' g base v' bs'
  row : RowTo w v v'
  fr : Fr (fun k => k = g ∨ v.ownBlock = some k) w w'
theorem Buf.to {w : World} {g base : Nat} {v : Value} {bs : List UInt8} (h : Buf w g base v bs) : BufTo g base w v w v bs := ⟨h, .inl rfl, Fr.refl _ _⟩
theorem BufTo.trans {g base : Nat} {w w' w'' : World} {v v' v'' : Value} {b1 b2 : List UInt8} (h : BufTo g base w v w' v' b1) (k : BufTo g base w' v' w'' v'' b2) : BufTo g base w v w'' v'' b2 := by
  refine ⟨k.buf, ?_, ?_⟩
  · rcases k.row with e | ⟨q, e, hq⟩
    · rcases h.row with e' | ⟨q, e', hq⟩
      · exact .inl (e.trans e')
      · exact .inr ⟨q, e.trans e', hq⟩
    · exact .inr ⟨q, e, Nat.le_trans h.fr.size hq⟩
  · refine ⟨k.fr.os.trans h.fr.os, k.fr.tape.trans h.fr.tape, k.fr.output.trans h.fr.output, Nat.le_trans h.fr.size k.fr.size, fun i hi hs => (k.fr.block i (Nat.lt_of_lt_of_le hi h.fr.size) ?_).trans (h.fr.block i hi hs)⟩
    rintro (e | e)
    · exact hs (.inl e)
    · rcases h.row with e' | ⟨q, e', hq⟩
      · exact hs (.inr (e'.symm.trans e))
      · rw [e'] at e; injection e with e; omega
theorem Buf.fr {S : Nat → Prop} {w w' : World} {g base : Nat} {v : Value} {bs : List UInt8} (h : Buf w g base v bs) (f : Fr S w w') (hg : ¬ S g) (hv : ∀ k, v.ownBlock = some k → ¬ S k) : Buf w' g base v bs :=
  ⟨f.av h.av hg, h.own.fr f hv, h.ne⟩
theorem Buf.below {w w' : World} {g base : Nat} {v : Value} {bs : List UInt8} (h : Buf w g base v bs) (f : Below w.heap.size w w') : Buf w' g base v bs :=
  ⟨h.av.below f, h.own.below f, h.ne⟩
/-- behind an append and the store of the new slice -/
theorem Buf.app {w w1 : World} {g base : Nat} {v v1 : Value} {bs bs1 : List UInt8} (h : Buf w g base v bs) (ho : OwnB w1 base v1 bs1) (hg : w.grownBy w1 v.ownBlock) (hr : v1.ownBlock = v.ownBlock ∨ v1.ownBlock = some w.heap.size) :
    BufTo g base w v (w1.setCell ⟨g, 0, none⟩ v1) v1 bs1 := by
  have hlt := h.av.lt
  have hne : v1.ownBlock ≠ some g := by
    rcases hr with e | e
    · rw [e]; exact h.ne
    · rw [e]; intro e'; injection e'; omega
  have a1 : Av w1 g 24 [v] := h.av.same (hg.block g hlt fun e => h.ne e.symm)
  refine ⟨⟨a1.set 0 _, ho.fr (Fr.setCell _ _ _) (fun k e e' => hne (by rw [e, e'])), hne⟩, hr.imp id fun e => ⟨_, e, Nat.le_refl _⟩, ?_⟩
  refine ((Fr.of_grown hg).weaken fun k _ e => .inr e.symm).trans ((Fr.setCell w1 ⟨g, 0, none⟩ v1).weaken fun k _ e => .inl e)
theorem BufTo.below {g base : Nat} {w w1 w2 : World} {v v' : Value} {bs' : List UInt8} (h : BufTo g base w v w1 v' bs') (b : Below w1.heap.size w1 w2) : BufTo g base w v w2 v' bs' :=
  ⟨h.buf.below b, h.row, h.fr.trans (Below.fr b)⟩
theorem OwnB.low {w : World} {b base : Nat} {v : Value} {xs : List UInt8} (h : OwnB w base v xs) (hb : b ≤ base) : OwnB w b v xs := by
  unfold OwnB at h ⊢
  refine ⟨h.1, h.2.imp id ?_⟩
  rintro ⟨g, cap, cur, e, hg, hrest⟩
  exact ⟨g, cap, cur, e, Nat.le_trans hb hg, hrest⟩
end Go.Proofs.YtdkknincamkhpaaDoor
/- Rows, literals and copies of whatever elements; a region walked op by op in whatever order. -/
namespace Go.Proofs.YtdkknincamkhpaaDoor
open Go.RowKit

theorem own_rd {w : World} {base : Nat} {e : TypeId} {size n k c : Nat} {A : Option Addr} {xs : List Value} (h : w.ownsRow base e size (.slice A k c) n xs) : Rd w A xs := by
  rcases h.2 with ⟨e, e0⟩ | ⟨g, cap, cur, e, hb, hg, _⟩
  · have hl := h.1
    subst e0
    have : xs = [] := List.eq_nil_of_length_eq_zero (by simpa using hl)
    exact .inl this
  · injection e with e1 e2 e3
    subst e1
    refine .inr ⟨_, _, rfl, fun j u hu => ?_⟩
    have := h.cells (g := g) rfl j u hu
    rwa [addr_add] at this
theorem own_form {w : World} {base : Nat} {e : TypeId} {size n : Nat} {v : Value} {xs : List Value} (h : w.ownsRow base e size v n xs) : ∃ A c, v = .slice A n c ∧ n ≤ c ∧ c ≤ maxLen := by
  rcases h.2 with ⟨e, e0⟩ | ⟨g, cap, cur, e, hb, hg, hc, hm, _⟩
  · exact ⟨none, 0, by rw [e, e0], by omega, by simp [maxLen]⟩
  · exact ⟨_, cap, e, hc, hm⟩
theorem own_below {w w' : World} {base : Nat} {e : TypeId} {size n : Nat} {v : Value} {xs : List Value} (h : w.ownsRow base e size v n xs) (hb : Below w.heap.size w w') : w'.ownsRow base e size v n xs :=
  h.kept (row := none) ⟨hb.os, hb.tape, hb.output, hb.size, fun k hk _ => hb.block k hk⟩ (by cases v.ownBlock <;> simp)
theorem own_app {w0 w w' : World} {base : Nat} {e : TypeId} {size n : Nat} {v : Value} {xs : List Value} (hb : Below base w0 w) (h : w.ownsRow base e size v n xs) (hg : w.grownBy w' v.ownBlock) (hbase : base ≤ w.heap.size) : Below base w0 w' :=
  hb.grown hg hbase fun k hk => (World.ownsRow.lt h k hk).1

theorem wpList_execW {P : Program} {ops : Array Oper} {rest : List Oper} {o : Oper} {a : Act} {w w' : World} {Q : Exit → Act → World → Prop} {v : Value} (hw : Region.wanted o (yielded ops a.tmps) = true) (h : (execOp a.eval o).run P w = .ok (.value v) w') (k : wpList P ops Q rest (a.put o.dst v) w') : wpList P ops Q (o :: rest) a w := by
  unfold wpList
  rw [if_pos hw]
  refine .inl ?_
  unfold Oper.wp
  rw [h]
  exact k
theorem wpAny_step {P : Program} {md : Region.Mode} {ops : Array Oper} {Q : Exit → Act → World → Prop} {fuel : Nat} {listed : Array Bool} {a : Act} {w : World} {rs : List Nat} (hr : Region.ready md ops listed = rs) (hne : rs ≠ [])
    (h : ∀ i ∈ rs, wpOp P ops Q i (wpAny P md ops Q fuel (listed.setIfInBounds i true)) a w) : wpAny P md ops Q (fuel + 1) listed a w :=
  ⟨fun h0 => absurd (hr.symm.trans h0) hne, fun i hi => h i (hr ▸ hi)⟩
theorem wpOp_wp {P : Program} {ops : Array Oper} {Q : Exit → Act → World → Prop} {i : Nat} {K : Act → World → Prop} {a : Act} {w : World} {o : Oper} (ho : ops[i]? = some o) (hg : o.guard = none) (h : o.wp P a w K Q) : wpOp P ops Q i K a w := by
  unfold wpOp
  rw [ho]
  dsimp only
  rw [if_pos (by unfold Region.wanted; rw [hg])]
  exact .inl h
theorem wpOp_run {P : Program} {ops : Array Oper} {Q : Exit → Act → World → Prop} {i : Nat} {K : Act → World → Prop} {a : Act} {w : World} {o : Oper} {v : Value} (ho : ops[i]? = some o) (hg : o.guard = none) (h : (execOp a.eval o).run P w = .ok (.value v) w) (k : K (a.put o.dst v) w) : wpOp P ops Q i K a w := by
  refine wpOp_wp ho hg ?_
  unfold Oper.wp
  rw [h]
  exact k
theorem own_fr {S : Nat → Prop} {w w' : World} {base : Nat} {e : TypeId} {size n : Nat} {v : Value} {xs : List Value} (ho : w.ownsRow base e size v n xs) (h : Fr S w w') (hv : ∀ k, v.ownBlock = some k → ¬ S k) : w'.ownsRow base e size v n xs := by
  refine ⟨ho.1, ho.2.imp id ?_⟩
  rintro ⟨g, cap, cur, rfl, hb, hg, hrest⟩
  refine ⟨g, cap, cur, rfl, hb, ?_, hrest⟩
  rw [h.block g (Array.getElem?_eq_some_iff.1 hg).1 (hv g rfl)]
  exact hg
/-- 'append(s, T{..})': a literal of one element of its own -/
theorem exec_build1 {P : Program} {t e : TypeId} {size bytes : Nat} (ht : P.underlying t = some (.slice e)) (hi : (P.info? e).map (fun i => (i.size, i.bytes)) = some (size, bytes)) (hz : (P.info? e).map (fun i => (i.zero.map (·.cells.size))) = some (some size)) (h0 : 0 < size) (hb : size ≤ 1000000)
    {o : Oper} {ρ : Operand → Value} (w : World) (cs : List Value) (hc : cs.length = size) (y : Operand) (ho : o.op = .buildSlice t 1 #[(0, y)]) (hy : ρ y = .agg cs.toArray) :
    (execOp ρ o).run P w = .ok (.value (.slice (some ⟨w.heap.size, 0, none⟩) 1 1)) (w.alloc (.cells cs.toArray e)) := by
  obtain ⟨i0, hi0, hz0⟩ := Option.map_eq_some_iff.1 hi
  obtain ⟨i1, hi1, hz1⟩ := Option.map_eq_some_iff.1 hz
  obtain rfl : i1 = i0 := by rw [hi0] at hi1; exact (Option.some.inj hi1).symm
  obtain ⟨z, hz2, hz3⟩ := Option.map_eq_some_iff.1 hz1
  injection hz0 with hz4 hz5
  have := run_buildSlice (P := P) w t e 1 #[(0, .agg cs.toArray)] cs.toArray i1 z ht hi0 hz2 (by rw [hz4]; omega) (by rw [hz4]; omega) (by
    rw [hz4]
    have := Great.fill_whole (s := size) h0 [Value.agg cs.toArray] ((Array.range (1 * size)).map (z.cells[· % z.cells.size]!)) (fun v hv => by
      rw [List.mem_singleton.1 hv]; simp [Value.cells, hc]) (by simp)
    simp only [List.zipIdx_cons, List.zipIdx_nil, List.map_cons, List.map_nil, Nat.zero_add] at this
    rw [this]
    simp [Value.cells])
  unfold execOp
  simp only [ho, Sem.run_bind, List.map_toArray, List.map_cons, List.map_nil, hy, this, Result.andThen_ok]
  rfl
/-- the same, known by the operation's own form: no other operation is tried -/
theorem wpList_build1 {P : Program} {t e : TypeId} {size bytes : Nat} (ht : P.underlying t = some (.slice e)) (hi : (P.info? e).map (fun i => (i.size, i.bytes)) = some (size, bytes)) (hz : (P.info? e).map (fun i => (i.zero.map (·.cells.size))) = some (some size)) (h0 : 0 < size) (hb : size ≤ 1000000)
    (cs : List Value) (hc : cs.length = size) {ops : Array Oper} {rest : List Oper} {a : Act} {w : World} {Q : Exit → Act → World → Prop} {d ty pos af} {y : Operand} (hy : a.eval y = .agg cs.toArray)
    (k : wpList P ops Q rest (a.put d (.slice (some ⟨w.heap.size, 0, none⟩) 1 1)) (w.alloc (.cells cs.toArray e))) : wpList P ops Q (⟨d, .buildSlice t 1 #[(0, y)], ty, pos, af, none⟩ :: rest) a w :=
  wpList_execW rfl (exec_build1 ht hi hz h0 hb w cs hc y rfl hy) k
/-- 'copy(d, s)' into a block of the call's own -/
theorem run_copyAv {P : Program} {w : World} {g : Nat} {t : TypeId} {l : List Value} (h : Av w g t l) (dT sT ty elem : TypeId) (hu : P.underlying dT = some (.slice elem)) (hs : (P.info? elem).map (·.size) = some 1) (o dLen dCap : Nat) (A : Option Addr) (m c : Nat) (xs : List Value)
    (hr : Rd w A xs) (hl : xs.length = min m dLen) (hfit : o + xs.length ≤ l.length) (h1 : ∀ v ∈ xs, v.oneCell' = true) :
    ∃ w', (Builtin.copy_ #[dT, sT] ty #[.slice (some ⟨g, o, none⟩) dLen dCap, .slice A m c]).run P w = .ok (goInt xs.length) w' ∧ Av w' g t (l.take o ++ xs ++ l.drop (o + xs.length)) ∧ Fr (fun k => k = g) w w' ∧ w'.heap.size = w.heap.size := by
  by_cases hx : xs = []
  · subst hx
    refine ⟨w, ?_, by simpa using h, Fr.refl _ _, rfl⟩
    have hn : Nat.min m dLen = 0 := hl.symm
    rw [run_copy_none w dT sT ty elem _ A dLen dCap m c hu hs hn]
    rfl
  · obtain ⟨b, off, rfl⟩ := hr.someA hx
    have hsrc : ∀ j v, xs[j]? = some v → w.cell? ((⟨b, off, none⟩ : Addr).add j) = some v := by
      intro j v hj
      rcases hr with e | ⟨b', o', e, hc⟩
      · exact absurd e hx
      · cases e
        rw [addr_add]
        exact hc j v hj
    refine ⟨_, run_copy_row P w dT sT ty elem g o dLen dCap _ m c l.toArray t xs hu hs h hl hsrc (by simpa using hfit) h1, ?_, ?_, by simp⟩
    · have := setRow_heap w g l.toArray (l.take o ++ xs ++ l.drop (o + xs.length)).toArray t (0, 0) h
      exact this
    · exact ⟨rfl, rfl, rfl, by simp, fun k _ hk => setRow_other _ _ _ _ hk⟩
theorem exec_copyAv {P : Program} {w : World} {g : Nat} {t : TypeId} {l : List Value} (h : Av w g t l) (dT sT elem : TypeId) (hu : P.underlying dT = some (.slice elem)) (hs : (P.info? elem).map (·.size) = some 1) (off dLen dCap : Nat) (A : Option Addr) (m c : Nat) (xs : List Value)
    (hr : Rd w A xs) (hl : xs.length = min m dLen) (hfit : off + xs.length ≤ l.length) (h1 : ∀ v ∈ xs, v.oneCell' = true) (o : Oper) {ρ : Operand → Value} (d x : Operand) (ho : o.op = .call { callee := .builtin .copy, args := #[d, x], argTypes := #[dT, sT] })
    (hd : ρ d = .slice (some ⟨g, off, none⟩) dLen dCap) (hx : ρ x = .slice A m c) :
    ∃ w', (execOp ρ o).run P w = .ok (.value (goInt xs.length)) w' ∧ Av w' g t (l.take off ++ xs ++ l.drop (off + xs.length)) ∧ Fr (fun k => k = g) w w' ∧ w'.heap.size = w.heap.size := by
  obtain ⟨w', hrun, h2, h3, h4⟩ := run_copyAv h dT sT o.type elem hu hs off dLen dCap A m c xs hr hl hfit h1
  refine ⟨w', ?_, h2, h3, h4⟩
  unfold execOp
  simp only [ho, resolve, invoke, builtin, Sem.run_bind, Sem.run_pure, Result.andThen_ok, List.map_toArray, List.map_cons, List.map_nil, hd, hx, hrun]
theorem Fr.ofDrew {S : Nat → Prop} {w w' : World} (h : Fr S w.drew w') : Fr S w w' := ⟨h.os, h.tape, h.output, h.size, h.block⟩
theorem Fr.transNew {S T : Nat → Prop} {a b c : World} (h : Fr S a b) (k : Fr T b c) (hT : ∀ x, T x → S x ∨ a.heap.size ≤ x) : Fr S a c :=
  ⟨k.os.trans h.os, k.tape.trans h.tape, k.output.trans h.output, Nat.le_trans h.size k.size, fun i hi hs => (k.block i (Nat.lt_of_lt_of_le hi h.size) (fun ht => (hT i ht).elim hs (fun h' => by omega))).trans (h.block i hi hs)⟩
/-- 'append(s, x..)' of whatever elements -/
theorem wpList_appE {P : Program} {t e : TypeId} {size bytes : Nat} (ht : P.underlying t = some (.slice e)) (hi : (P.info? e).map (fun i => (i.size, i.bytes)) = some (size, bytes)) (hz : (P.info? e).map (fun i => (i.zero.map (·.cells.size))) = some (some size)) (h0 : 0 < size)
    {w : World} {base : Nat} {v : Value} {n : Nat} {xs : List Value} (hown : w.ownsRow base e size v n xs) (hbase : base ≤ w.heap.size) {A : Option Addr} (news : List Value) (m c : Nat) (hr : Rd w A news) (hl : news.length = m * size) (h1 : ∀ u ∈ news, u.oneCell' = true) (hm : n + m ≤ 100000000) (hmb : (n + m) * bytes ≤ 140737488355328)
    {ops : Array Oper} {rest : List Oper} {o : Oper} {a : Act} {Q : Exit → Act → World → Prop} (hgd : o.guard = none) (s x : Operand)
    (ho : o.op = .call { callee := .builtin .append, args := #[s, x], argTypes := #[t, t] })
    (hs : a.eval s = v) (hx : a.eval x = .slice A m c)
    (h : ∀ v' w', w'.ownsRow base e size v' (n + m) (xs ++ news) → w.grownBy w' v.ownBlock → (v'.ownBlock = v.ownBlock ∨ v'.ownBlock = some w.heap.size) → wpList P ops Q rest (a.put o.dst v') w') : wpList P ops Q (o :: rest) a w := by
  obtain ⟨i0, hi0, hz0⟩ := Option.map_eq_some_iff.1 hi
  obtain ⟨i1, hi1, hz1⟩ := Option.map_eq_some_iff.1 hz
  obtain rfl : i1 = i0 := by rw [hi0] at hi1; exact (Option.some.inj hi1).symm
  obtain ⟨z, hz2, hz3⟩ := Option.map_eq_some_iff.1 hz1
  injection hz0 with hz4 hz5
  exact wpList_append_rd w hgd s x t ho base e i1 z size bytes ht hi0 hz2 hz4 hz5 hz3 h0 v n xs hs hown A m c news hx hl hr h1 (by simp only [maxLen]; omega) hmb hbase h
end Go.Proofs.YtdkknincamkhpaaDoor
