import Derived.Test.YtobjgebojhjhnaaDoorQr4
import Derived.Test.YtobjgebojhjhnaaDoorQr3
import Derived.Laws.Tables
import Derived.Test.YtobjgebojhjhnaaDoorCMath
import Derived.Test.YtobjgebojhjhnaaDoorQr2
import Derived.Test.YtobjgebojhjhnaaDoorQr1
namespace Go.Proofs.YtobjgebojhjhnaaDoor
open Go.RowKit
structure Old where
 b : Nat
 t : TypeId
 ks : List Nat
 C : (Nat → Bool) → List Value
def Old.one (b : Nat) (t : TypeId) (k : Nat) (Z C : List Value) : Old := ⟨b, t, [k], fun f => if f k = true then C else Z⟩
def JO (Os : List Old) (listed : Array Bool) (w : World) : Prop := ∀ e ∈ Os, Av w e.b e.t (e.C fun k => listed.getD k false)
def Fo (Os : List Old) (w0 w : World) : Prop := Fr (fun k => ∃ e ∈ Os, e.b = k) w0 w
theorem RX_drew {B : Nat} {a b : World} (h : Below B a.drew b) : Below B a b := ⟨h.os, h.tape, h.output, h.size, h.block⟩
theorem Fo.av {Os : List Old} {w0 w : World} (h : Fo Os w0.drew w) {g : Nat} {t : TypeId} {l : List Value} (ha : Av w0 g t l) (hg : ∀ e ∈ Os, e.b ≠ g) : Av w g t l := Fr.av h ha.drew (fun ⟨e, he, hb⟩ => hg e he hb)
theorem Fo.nil {w0 w : World} (h : Fo [] w0.drew w) : Below w0.heap.size w0 w := Ext.drew (Fr.below h (fun k ⟨e, he, _⟩ => by cases he) (Nat.le_refl _))
theorem Fo.low {Os : List Old} {w0 w : World} (h : Fo Os w0.drew w) {B : Nat} (hB : B ≤ w0.heap.size) (hb : ∀ e ∈ Os, B ≤ e.b) : Below B w0 w := RX_drew (Fr.below h (fun k ⟨e, he, hk⟩ => by rw [← hk]; exact hb e he) hB)
def spcO (Bs : List Blk) (Os : List Old) (i : Nat) : Bool := spc Bs i || Os.any fun e => e.ks.contains i
theorem spcO_l {Bs : List Blk} {Os : List Old} {i : Nat} (h : spcO Bs Os i = false) : spc Bs i = false := (Bool.or_eq_false_iff.1 h).1
theorem find_os {Bs : List Blk} {Os : List Old} {i : Nat} (h : spcO Bs Os i = false) : (Os.find? fun e => e.ks.contains i) = none := by
 rw [List.find?_eq_none]
 intro e he hi
 have := List.any_eq_false.1 (Bool.or_eq_false_iff.1 h).2 e he
 exact this hi
def OOk (ops : Array Oper) (Bs : List Blk) (Os : List Old) : Bool :=
 Os.all fun e => e.ks.all fun k => !spc Bs k && (match ops[k]? with | some o => o.guard.isNone && o.dst.isNone | none => false) && ((Os.filter fun f => f.ks.contains k).length == 1)
structure OFacts (ops : Array Oper) (w0 : World) (Bs : List Blk) (Os : List Old) : Prop where
 spc : ∀ e ∈ Os, ∀ k ∈ e.ks, spc Bs k = false
 op : ∀ e ∈ Os, ∀ k ∈ e.ks, ∀ o, ops[k]? = some o → o.guard = none ∧ o.dst = none
 one : ∀ e ∈ Os, ∀ f ∈ Os, ∀ k, k ∈ e.ks → k ∈ f.ks → e = f
 ne : ∀ e ∈ Os, ∀ f ∈ Os, e.b = f.b → e = f
 con : ∀ e ∈ Os, ∀ f g : Nat → Bool, (∀ k ∈ e.ks, f k = g k) → e.C f = e.C g
 lt : ∀ e ∈ Os, e.b < w0.heap.size
theorem eq_of_filter_one {α : Type} {p : α → Bool} : ∀ {l : List α}, (l.filter p).length = 1 → ∀ {x y : α}, x ∈ l → y ∈ l → p x = true → p y = true → x = y := by
 intro l h x y hx hy px py
 have h1 : x ∈ l.filter p := List.mem_filter.2 ⟨hx, px⟩
 have h2 : y ∈ l.filter p := List.mem_filter.2 ⟨hy, py⟩
 match hf : l.filter p, h with
 | [z], _ => rw [hf] at h1 h2; simp at h1 h2; rw [h1, h2]
theorem pairwise_ne {α : Type} {p : α → Nat} : ∀ {l : List α}, (l.Pairwise fun e f => p e ≠ p f) → ∀ e ∈ l, ∀ f ∈ l, p e = p f → e = f
 | [], _, e, he, _, _, _ => by cases he
 | a :: l, h, e, he, f, hf, q => by
  rw [List.pairwise_cons] at h
  rcases List.mem_cons.1 he with rfl | he' <;> rcases List.mem_cons.1 hf with rfl | hf'
  ·rfl
  ·exact absurd q (h.1 f hf')
  ·exact absurd q.symm (h.1 e he')
  ·exact pairwise_ne h.2 e he' f hf' q
theorem OOk_facts {ops : Array Oper} {w : World} {Bs : List Blk} {Os : List Old} (h : OOk ops Bs Os = true) (hC : ∀ e ∈ Os, ∀ f g : Nat → Bool, (∀ k ∈ e.ks, f k = g k) → e.C f = e.C g) (hne : Os.Pairwise fun e f => e.b ≠ f.b) (h0 : ∀ e ∈ Os, Av w e.b e.t (e.C fun _ => false)) : OFacts ops w.drew Bs Os := by
 unfold OOk at h
 simp only [Bool.and_eq_true, List.all_eq_true, Bool.not_eq_true', beq_iff_eq] at h
 refine ⟨fun e he k hk => (h e he k hk).1.1, fun e he k hk o ho => ?_, fun e he f hf k hk hk' => ?_, pairwise_ne hne, hC, fun e he => (h0 e he).lt⟩
 ·have := (h e he k hk).1.2
  rw [ho] at this
  simpa using this
 ·exact eq_of_filter_one (h e he k hk).2 he hf (by simpa using hk) (by simpa using hk')
section
variable {P : Program} {ops : Array Oper} {Q : Exit → Act → World → Prop} {w0 : World} {Bs : List Blk} {Os : List Old}
theorem JB.fr {H0 i : Nat} {listed : Array Bool} {tm : Array Value} {w w' : World} (h : JB H0 Bs listed tm w) (hi : ∀ e ∈ Bs, e.ka ≠ i ∧ e.ks ≠ i) {b : Nat} (hF : Fr (fun k => k = b) w w') (hb : b < H0) : JB H0 Bs (listed.setIfInBounds i true) tm w' := by
 have k1 : ∀ e ∈ Bs, (listed.setIfInBounds i true).getD e.ka false = listed.getD e.ka false := fun e he => getD_set_ne false (Ne.symm (hi e he).1)
 have k2 : ∀ e ∈ Bs, (listed.setIfInBounds i true).getD e.ks false = listed.getD e.ks false := fun e he => getD_set_ne false (Ne.symm (hi e he).2)
 refine ⟨fun e he hl => ?_, fun e he f hf hs h1 h2 b hb => ?_⟩
 ·rw [k1 e he] at hl
  obtain ⟨c, p, q, r⟩ := h.at_ e he hl
  exact ⟨c, p, q, by rw [k2 e he]; exact hF.av r (by omega)⟩
 ·rw [k1 e he] at h1
  rw [k1 f hf] at h2
  exact h.ne e he f hf hs h1 h2 b hb
theorem JO.same {i : Nat} {listed : Array Bool} {w w' : World} (h : JO Os listed w) (G : OFacts ops w0 Bs Os) (hi : ∀ e ∈ Os, i ∉ e.ks) (hw : ∀ e ∈ Os, ∀ C, Av w e.b e.t C → Av w' e.b e.t C) : JO Os (listed.setIfInBounds i true) w' := by
 intro e he
 rw [G.con e he _ (fun k => listed.getD k false) fun k hk => getD_set_ne false (fun q => hi e he (by rw [q]; exact hk))]
 exact hw e he _ (h e he)
theorem JO.store {i : Nat} {listed : Array Bool} {w w' : World} (h : JO Os listed w) (G : OFacts ops w0 Bs Os) {e : Old} (he : e ∈ Os) (hi : i ∈ e.ks) (hl : i < listed.size) (hA : Av w' e.b e.t (e.C fun k => k == i || listed.getD k false)) (hF : Fr (fun k => k = e.b) w w') : JO Os (listed.setIfInBounds i true) w' := by
 intro f hf
 by_cases hn : f = e
 ·subst hn
  have : (fun k => (listed.setIfInBounds i true).getD k false) = fun k => k == i || listed.getD k false := by
   funext k
   by_cases hk : i = k
   ·subst hk
    rw [Array.getD_eq_getD_getElem?, Array.getElem?_setIfInBounds_self_of_lt hl]
    simp
   ·rw [getD_set_ne false hk]
    have : (k == i) = false := by simpa using Ne.symm hk
    rw [this, Bool.false_or]
  rw [this]
  exact hA
 ·rw [G.con f hf _ (fun k => listed.getD k false) fun k hk => getD_set_ne false (fun q => hn (G.one f hf e he i (by rw [q]; exact hk) hi))]
  exact hF.av (h f hf) (fun q => hn (G.ne f hf e he q))
theorem foNew {w w' : World} (h : Fo Os w0 w) {b : Nat} (hF : Fr (fun k => k = b) w w') (hb : w0.heap.size ≤ b) : Fo Os w0 w' :=
 ⟨hF.os.trans h.os, hF.tape.trans h.tape, hF.output.trans h.output, Nat.le_trans h.size hF.size, fun k hk hs => (hF.block k (Nat.lt_of_lt_of_le hk h.size) (by omega)).trans (h.block k hk hs)⟩
theorem foExt {w w' : World} (h : Fo Os w0 w) (hE : Ext w w') : Fo Os w0 w' := Fr.trans h (Below.fr hE)
theorem foAlloc {w : World} (h : Fo Os w0 w) (o : Obj) : Fo Os w0 (w.alloc o) := foExt h ((Below.refl _ _).alloc (Nat.le_refl _) _)
theorem foSize {w : World} (h : Fo Os w0 w) : w0.heap.size ≤ w.heap.size := h.size
theorem foOld {w w' : World} (h : Fo Os w0 w) {e : Old} (hF : Fr (fun k => k = e.b) w w') (he : e ∈ Os) : Fo Os w0 w' := Fr.trans h (Fr.weaken hF fun _ _ hk => ⟨e, he, hk.symm⟩)
theorem spc_ks {e : Blk} (he : e ∈ Bs) {i : Nat} (h : e.ks = i) : spc Bs i = true := List.any_eq_true.2 ⟨e, he, by simp [h]⟩
theorem spc_ka {e : Blk} (he : e ∈ Bs) {i : Nat} (h : e.ka = i) : spc Bs i = true := List.any_eq_true.2 ⟨e, he, by simp [h]⟩
def JN (ops : Array Oper) (Os : List Old) (i : Nat) (w : World) : Prop := ∀ e ∈ Os, ∃ f : Nat → Bool, (∀ k o, ops[k]? = some o → depOn o i = true → f k = false) ∧ Av w e.b e.t (e.C f)
def OOb (P : Program) (ops : Array Oper) (w0 : World) (Bs : List Blk) (Os : List Old) (c : Nat → Value) (j : Nat) (o : Oper) (a : Act) : Prop :=
 match Bs.find? fun e => e.ks == j with
 | some e => ∀ w, Fo Os w0 w → fillL ops (lookOn ops o) w (fun a' => ∀ b, a'.tmps[e.s]? = some (.pointer (some ⟨b, 0, none⟩)) → Av w b e.t e.Z → ∃ w', (execOp a'.eval o).run P w = .ok .skip w' ∧ Av w' b e.t e.C ∧ Fr (fun k => k = b) w w') (BL Bs) a
 | none => match Bs.find? fun e => e.ka == j with
  | some e => ∀ (ρ : Operand → Value) w, (execOp ρ o).run P w = .ok (.value (.pointer (some ⟨w.heap.size, 0, none⟩))) (w.alloc (.cells e.Z.toArray e.t (0, 0)))
  | none => match Os.find? fun e => e.ks.contains j with
   | some e => ∀ w, Fo Os w0 w → fillL ops (lookOn ops o) w (fun a' => ∀ f : Nat → Bool, f j = false → Av w e.b e.t (e.C f) → ∃ w', (execOp a'.eval o).run P w = .ok .skip w' ∧ Av w' e.b e.t (e.C fun k => k == j || f k) ∧ Fr (fun k => k = e.b) w w') (BL Bs) a
   | none => ∀ w, Fo Os w0 w → JN ops Os j w → fillL ops (lookOn ops o) w (fun a' => relOp P ops Ext o a' w (fun u _ => u = c j)) (BL Bs) a
def relWalkO (P : Program) (ops : Array Oper) (w0 : World) (Bs : List Blk) (Os : List Old) (Q : Exit → Act → World → Prop) : Nat → List Oper → Act → Prop
 | _, [], a => ∀ w, Fo Os w0 w → fillL ops (fun _ => true) w (fun a' => Q .normal a' w) (BL Bs) a
 | i, o :: rest, a => match Bs.find? fun e => e.ks == i with
  | some e => (∀ w, Fo Os w0 w → fillL ops (lookOn ops o) w (fun a' => ∀ b, a'.tmps[e.s]? = some (.pointer (some ⟨b, 0, none⟩)) → Av w b e.t e.Z → ∃ w', (execOp a'.eval o).run P w = .ok .skip w' ∧ Av w' b e.t e.C ∧ Fr (fun k => k = b) w w') (BL Bs) a) ∧ o.dst = none ∧ relWalkO P ops w0 Bs Os Q (i + 1) rest a
  | none => match Bs.find? fun e => e.ka == i with
   | some e => (∀ (ρ : Operand → Value) w, (execOp ρ o).run P w = .ok (.value (.pointer (some ⟨w.heap.size, 0, none⟩))) (w.alloc (.cells e.Z.toArray e.t (0, 0)))) ∧ relWalkO P ops w0 Bs Os Q (i + 1) rest a
   | none => match Os.find? fun e => e.ks.contains i with
    | some e => (∀ w, Fo Os w0 w → fillL ops (lookOn ops o) w (fun a' => ∀ f : Nat → Bool, f i = false → Av w e.b e.t (e.C f) → ∃ w', (execOp a'.eval o).run P w = .ok .skip w' ∧ Av w' e.b e.t (e.C fun k => k == i || f k) ∧ Fr (fun k => k = e.b) w w') (BL Bs) a) ∧ o.dst = none ∧ relWalkO P ops w0 Bs Os Q (i + 1) rest a
    | none => ∃ c, (∀ w, Fo Os w0 w → JN ops Os i w → fillL ops (lookOn ops o) w (fun a' => relOp P ops Ext o a' w (fun v _ => v = c)) (BL Bs) a) ∧ relWalkO P ops w0 Bs Os Q (i + 1) rest (a.put o.dst c)
theorem relWalk_specO (F : BFacts ops ops.size Bs) (a0 : Act) : ∀ (rest : List Oper) (i : Nat) (a : Act), (∀ k, k < rest.length → rest[k]? = ops[i + k]?) → relWalkO P ops w0 Bs Os Q i rest a → ∀ c0 : Nat → Value, a = cf ops (BL Bs) c0 a0 i →
  ∃ c : Nat → Value, (∀ j, j < i → c j = c0 j) ∧ (∀ j o, i ≤ j → j < i + rest.length → ops[j]? = some o → OOb P ops w0 Bs Os c j o (cf ops (BL Bs) c a0 j)) ∧
   (∀ w, Fo Os w0 w → fillL ops (fun _ => true) w (fun a' => Q .normal a' w) (BL Bs) (cf ops (BL Bs) c a0 (i + rest.length))) := by
 have congr : ∀ (c d : Nat → Value) (i : Nat), (∀ j, j < i → c j = d j) → cf ops (BL Bs) c a0 i = cf ops (BL Bs) d a0 i := by
  intro c d i
  induction i with
  | zero => intro _; rfl
  | succ i ih =>
   intro h
   simp only [cf]
   rw [ih fun j hj => h j (by omega), h i (by omega)]
 intro rest
 induction rest with
 | nil =>
  intro i a hr h c0 ha
  subst ha
  exact ⟨c0, fun _ _ => rfl, fun j o hj hj2 ho => by simp at hj2; omega, fun w hw => h w hw⟩
 | cons o rest ih =>
  intro i a hr h c0 ha
  have ho : ops[i]? = some o := (hr 0 (by simp)).symm
  have hr' : ∀ k, k < rest.length → rest[k]? = ops[i + 1 + k]? := fun k hk => by
   have := hr (k + 1) (by simpa using hk)
   rw [List.getElem?_cons_succ] at this
   rw [this]
   congr 1
   omega
  have hd : dstAt ops i = o.dst := by simp [dstAt, ho]
  unfold relWalkO at h
  have same : ∀ (c : Nat → Value), (∀ j, j < i → c j = c0 j) → cf ops (BL Bs) c a0 i = a := fun c hc => (congr c c0 i hc).trans ha.symm
  have shift : ∀ (c : Nat → Value), cf ops (BL Bs) c a0 (i + 1 + rest.length) = cf ops (BL Bs) c a0 (i + (o :: rest).length) := fun c => by rw [List.length_cons, show i + (rest.length + 1) = i + 1 + rest.length by omega]
  cases hk : Bs.find? (fun e => e.ks == i) with
  | some e =>
   rw [hk] at h
   obtain ⟨h1, h2, h3⟩ := h
   have heB := List.mem_of_find?_eq_some hk
   have hei : e.ks = i := by simpa using List.find?_some hk
   have hl : (BL Bs).lookup i = none := BL_none fun f hf q => F.cross f hf e heB (by omega)
   obtain ⟨c, hc, hob, hfin⟩ := ih (i + 1) _ hr' h3 c0 (by
    simp only [cf, hl, hd, h2]
    exact ha)
   refine ⟨c, fun j hj => hc j (by omega), fun j o' hj hj2 ho' => ?_, by rw [← shift]; exact hfin⟩
   by_cases hji : j = i
   ·subst hji
    rw [ho] at ho'
    injection ho' with ho'
    subst ho'
    unfold OOb
    rw [hk, same c fun k hk => hc k (by omega)]
    exact h1
   ·exact hob j o' (by omega) (by rw [List.length_cons] at hj2; omega) ho'
  | none =>
   rw [hk] at h
   dsimp only at h
   cases hq : Bs.find? (fun e => e.ka == i) with
   | some e =>
    rw [hq] at h
    obtain ⟨h1, h3⟩ := h
    have heB := List.mem_of_find?_eq_some hq
    have hei : e.ka = i := by simpa using List.find?_some hq
    obtain ⟨phi, hl⟩ : ∃ phi, (BL Bs).lookup i = some phi := Option.ne_none_iff_exists'.1 (by rw [← hei]; exact BL_lookup heB)
    obtain ⟨c, hc, hob, hfin⟩ := ih (i + 1) _ hr' h3 c0 (by
     simp only [cf, hl]
     exact ha)
    refine ⟨c, fun j hj => hc j (by omega), fun j o' hj hj2 ho' => ?_, by rw [← shift]; exact hfin⟩
    by_cases hji : j = i
    ·subst hji
     rw [ho] at ho'
     injection ho' with ho'
     subst ho'
     unfold OOb
     rw [hk, hq]
     exact h1
    ·exact hob j o' (by omega) (by rw [List.length_cons] at hj2; omega) ho'
   | none =>
    rw [hq] at h
    dsimp only at h
    have hl : (BL Bs).lookup i = none := BL_none fun f hf q => by
     have := List.find?_eq_none.1 hq f hf
     simp [q] at this
    cases hz : Os.find? (fun e => e.ks.contains i) with
    | some e =>
     rw [hz] at h
     obtain ⟨h1, h2, h3⟩ := h
     obtain ⟨c, hc, hob, hfin⟩ := ih (i + 1) _ hr' h3 c0 (by
      simp only [cf, hl, hd, h2]
      exact ha)
     refine ⟨c, fun j hj => hc j (by omega), fun j o' hj hj2 ho' => ?_, by rw [← shift]; exact hfin⟩
     by_cases hji : j = i
     ·subst hji
      rw [ho] at ho'
      injection ho' with ho'
      subst ho'
      unfold OOb
      rw [hk, hq, hz]
      dsimp only
      rw [same c fun k hk => hc k (by omega)]
      exact h1
     ·exact hob j o' (by omega) (by rw [List.length_cons] at hj2; omega) ho'
    | none =>
     rw [hz] at h
     obtain ⟨v, h1, h3⟩ := h
     have e1 : cf ops (BL Bs) (fun j => if j = i then v else c0 j) a0 i = cf ops (BL Bs) c0 a0 i := congr _ _ _ fun j hj => if_neg (by omega)
     obtain ⟨c, hc, hob, hfin⟩ := ih (i + 1) _ hr' h3 (fun j => if j = i then v else c0 j) (by
      simp only [cf, hl, if_pos, hd]
      rw [e1, ← ha])
     have hcv : c i = v := (hc i (by omega)).trans (if_pos rfl)
     refine ⟨c, fun j hj => (hc j (by omega)).trans (if_neg (by omega)), fun j o' hj hj2 ho' => ?_, by rw [← shift]; exact hfin⟩
     by_cases hji : j = i
     ·subst hji
      rw [ho] at ho'
      injection ho' with ho'
      subst ho'
      unfold OOb
      rw [hk, hq, hz]
      dsimp only
      rw [same c fun k hk => (hc k (by omega)).trans (if_neg (by omega)), hcv]
      exact h1
     ·exact hob j o' (by omega) (by rw [List.length_cons] at hj2; omega) ho'
theorem relO_any {c : Nat → Value} {a0 : Act} (hB : relB ops ((BL Bs).map (·.1)) = true) (hrange : ∀ j t, dstAt ops j = some t → t < a0.tmps.size)
  (hob : ∀ j o, ops[j]? = some o → OOb P ops w0 Bs Os c j o (cf ops (BL Bs) c a0 j))
  (hW : BOk ops ops.size Bs = true) (G : OFacts ops w0 Bs Os)
  (hfin : ∀ w, Fo Os w0 w → fillL ops (fun _ => true) w (fun a' => JB w0.heap.size Bs (Array.replicate ops.size true) a'.tmps w → JO Os (Array.replicate ops.size true) w → Q .normal a' w) (BL Bs) (cf ops (BL Bs) c a0 ops.size)) :
  ∀ (fuel : Nat) (listed : Array Bool) (a : Act) (w : World) (U : List Nat), U.length ≤ fuel → (∀ i, i < ops.size → listed.getD i false = false → i ∈ U) → RelInv ops (Fo Os) w0 (BL Bs) c a0 listed a w → JB w0.heap.size Bs listed a.tmps w → JO Os listed w → wpAny P .any ops Q fuel listed a w := by
 obtain ⟨hB1, hnd, hks⟩ := relB_spec hB
 have F := BOk_facts hW
 have huniq : ∀ j t, dstAt ops j = some t → ∀ k, k ≠ j → dstAt ops k ≠ some t := by
  intro j t hj k hk
  cases ho : ops[j]? with
  | none => simp [dstAt, ho] at hj
  | some o => exact (hB1 j o ho).2.2.1 k t (by simpa [dstAt, ho] using hj) hk
 have hlt : ∀ j t, dstAt ops j = some t → j < ops.size := by
  intro j t hj
  rcases Nat.lt_or_ge j ops.size with h | h
  ·exact h
  ·simp [dstAt, Array.getElem?_eq_none h] at hj
 have theEnd : ∀ (listed : Array Bool) (a : Act) (w : World), RelInv ops (Fo Os) w0 (BL Bs) c a0 listed a w → JB w0.heap.size Bs listed a.tmps w → JO Os listed w → (∀ i, i < ops.size → listed.getD i false = true) → Q .normal a w := by
  intro listed a w hI hX hY hall
  have hrep : listed = Array.replicate ops.size true := by
   refine Array.ext (by simp [hI.lsize]) fun i h1 h2 => ?_
   have := hall i (by rw [← hI.lsize]; exact h1)
   rw [Array.getD_eq_getD_getElem?, Array.getElem?_eq_getElem h1] at this
   simpa using this
  have h1 := fillL_at (fun j => a.tmps.getD ((dstAt ops j).getD 0) undef) (BL Bs) _ (hfin w hI.ext) (fun p hp _ => rel_vals hnd hrange hks hI p hp (hall _ (hks _ (List.mem_map.2 ⟨p, hp, rfl⟩)).1))
  have e : fillA ops (fun _ => true) (fun j => a.tmps.getD ((dstAt ops j).getD 0) undef) (BL Bs) (cf ops (BL Bs) c a0 ops.size) = a := by
   have hd : (fillA ops (fun _ => true) (fun j => a.tmps.getD ((dstAt ops j).getD 0) undef) (BL Bs) (cf ops (BL Bs) c a0 ops.size)).defers = a.defers := by
    rw [fillA_defers, cf_defers, hI.defers]
   have ht : (fillA ops (fun _ => true) (fun j => a.tmps.getD ((dstAt ops j).getD 0) undef) (BL Bs) (cf ops (BL Bs) c a0 ops.size)).tmps = a.tmps :=
    Array.ext_getElem? fun t => rel_agree hnd hrange huniq hI (fun _ => true) ops.size t fun j hj => .inl ⟨hall j (hlt j t hj), hlt j t hj, rfl⟩
   cases hx : fillA ops (fun _ => true) (fun j => a.tmps.getD ((dstAt ops j).getD 0) undef) (BL Bs) (cf ops (BL Bs) c a0 ops.size)
   rw [hx] at hd ht
   cases a
   simp_all
  rw [e] at h1
  rw [hrep] at hX hY
  exact h1 hX hY
 have noReady : ∀ (listed : Array Bool), listed.size = ops.size → Region.ready .any ops listed = [] → ∀ i, i < ops.size → listed.getD i false = true := by
  intro listed hsz hr i
  induction i using Nat.strongRecOn with
  | ind i ih =>
   intro hi
   cases hl : listed.getD i false with
   | true => rfl
   | false =>
    have : i ∈ Region.ready .any ops listed := by
     rw [mem_ready]
     refine ⟨?_, ops[i], Array.getElem?_eq_getElem hi, fun e he hb => ?_⟩
     ·rw [Array.getD_eq_getD_getElem?] at hl ⊢
      rw [Array.getElem?_eq_getElem (by omega)] at hl ⊢
      exact hl
     ·have := (hB1 i _ (Array.getElem?_eq_getElem hi)).2.1 e he hb
      exact ih e.on this (by omega)
    rw [hr] at this
    cases this
 intro fuel
 induction fuel with
 | zero =>
  intro listed a w U hU hin hI hX hY
  have hall : ∀ i, i < ops.size → listed.getD i false = true := by
   intro i hi
   cases hl : listed.getD i false with
   | true => rfl
   | false =>
    have := hin i hi hl
    have hU0 : U = [] := List.eq_nil_of_length_eq_zero (by omega)
    rw [hU0] at this
    cases this
  refine ⟨?_, theEnd listed a w hI hX hY hall⟩
  rw [List.eq_nil_iff_forall_not_mem]
  intro i hi
  rw [mem_ready] at hi
  obtain ⟨h0, o, ho, _⟩ := hi
  have := hall i (Array.getElem?_eq_some_iff.1 ho).1
  rw [getD_false_of_true h0] at this
  cases this
 | succ fuel ih =>
  intro listed a w U hU hin hI hX hY
  refine ⟨fun hr => theEnd listed a w hI hX hY (noReady listed hI.lsize hr), fun i hi => ?_⟩
  rw [mem_ready] at hi
  obtain ⟨h0, o, ho, hall⟩ := hi
  have hiu := getD_false_of_true h0
  have hilt := (Array.getElem?_eq_some_iff.1 ho).1
  obtain ⟨hsel, hearly, _, hlooks⟩ := hB1 i o ho
  have hdst : dstAt ops i = o.dst := by simp [dstAt, ho]
  have hag : ∀ t ∈ o.looksAt ops, a.tmps[t]? = (fillA ops (lookOn ops o) (fun j => a.tmps.getD ((dstAt ops j).getD 0) undef) (BL Bs) (cf ops (BL Bs) c a0 i)).tmps[t]? := by
   intro t ht
   symm
   refine rel_agree hnd hrange huniq hI (lookOn ops o) i t fun j hj => ?_
   have hjlt := hlt j t hj
   have hoj := Array.getElem?_eq_getElem hjlt
   rcases hlooks t ht j _ hoj (by simpa [dstAt, hoj] using hj) with ⟨h1, h2⟩ | h1 | ⟨h1, h2⟩
   ·obtain ⟨e, he, hb, hon⟩ := depOn_mem h2
    have := hall e he hb
    rw [hon] at this
    exact .inl ⟨this, h1, by unfold lookOn; rw [h2, hj]; simpa using ht⟩
   ·subst h1
    refine .inr ⟨hiu, Nat.le_refl _, ?_⟩
    unfold lookOn
    cases hD : depOn o j with
    | false => rfl
    | true =>
     obtain ⟨e, he, hb, hon⟩ := depOn_mem hD
     have := hearly e he hb
     omega
   ·refine .inr ⟨?_, by omega, ?_⟩
    ·cases hl : listed.getD j false with
     | false => rfl
     | true =>
      obtain ⟨e, he, hb, hon⟩ := depOn_mem h2
      have := hI.shut j _ hoj hl e he hb
      rw [hon, hiu] at this
      cases this
    ·unfold lookOn
     cases hD : depOn o j with
     | false => rfl
     | true =>
      obtain ⟨e, he, hb, hon⟩ := depOn_mem hD
      have := hearly e he hb
      omega
  have next : ∀ v w', Fo Os w0 w' → JB w0.heap.size Bs (listed.setIfInBounds i true) (a.put o.dst v).tmps w' → JO Os (listed.setIfInBounds i true) w' → ((BL Bs).lookup i = none → o.dst ≠ none → v = c i) → wpAny P .any ops Q fuel (listed.setIfInBounds i true) (a.put o.dst v) w' := by
   intro v w' hR hXn hYn hok
   have hset : ∀ j, (listed.setIfInBounds i true).getD j false = true → listed.getD j false = true ∨ j = i := by
    intro j hj
    by_cases hji : i = j
    ·exact .inr hji.symm
    ·rw [getD_set_ne false hji] at hj
     exact .inl hj
   refine ih _ _ _ (U.erase i) ?_ ?_ ⟨by simp [hI.lsize], by rw [put_tmps_size, hI.size], by rw [put_defers, hI.defers], hR, ?_, ?_, ?_, ?_⟩ hXn hYn
   ·have := List.length_erase_of_mem (hin i hilt hiu)
    omega
   ·intro k hk hkl
    have hki : i ≠ k := by
     rintro rfl
     rw [Array.getD_eq_getD_getElem?, Array.getElem?_setIfInBounds_self_of_lt (by rw [hI.lsize]; exact hilt)] at hkl
     cases hkl
    rw [getD_set_ne false hki] at hkl
    exact (List.mem_erase_of_ne (Ne.symm hki)).2 (hin k hk hkl)
   ·intro k ok hok' hkl e he hb
    rcases hset k hkl with h | h
    ·exact getD_set_true (hI.shut k ok hok' h e he hb)
    ·subst h
     rw [ho] at hok'
     injection hok' with hok'
     subst hok'
     exact getD_set_true (hall e he hb)
   ·intro j t hj ht hjl hlk
    by_cases hji : j = i
    ·subst hji
     rw [hdst] at hj
     rw [hj, put_get_same _ _ _ (by rw [hI.size]; exact ht)]
     exact congrArg some (hok hlk (by rw [hj]; simp))
    ·rw [put_get_ne _ _ _ _ (fun e => huniq j t hj i (Ne.symm hji) (hdst.trans e))]
     exact hI.one j t hj ht ((hset j hjl).resolve_right hji) hlk
   ·intro j t phi hj ht hjl hlk
    by_cases hji : j = i
    ·subst hji
     rw [hdst] at hj
     rw [hj, put_get_same _ _ _ (by rw [hI.size]; exact ht)]
     exact ⟨v, rfl, BL_word hlk v w'⟩
    ·rw [put_get_ne _ _ _ _ (fun e => huniq j t hj i (Ne.symm hji) (hdst.trans e))]
     obtain ⟨u, hu, hphi⟩ := hI.word j t phi hj ht ((hset j hjl).resolve_right hji) hlk
     exact ⟨u, hu, BL_word hlk u w'⟩
   ·intro t ht
    have hi1 : (listed.setIfInBounds i true).getD i false = true := by
     rw [Array.getD_eq_getD_getElem?, Array.getElem?_setIfInBounds_self_of_lt (by rw [hI.lsize]; exact hilt)]
     rfl
    rw [put_get_ne _ _ _ _ (fun e => ht i hi1 (hdst.trans e))]
    exact hI.old t fun j hj => ht j (getD_set_true hj)
  have hobi := hob i o ho
  unfold OOb at hobi
  unfold wpOp
  rw [ho]
  dsimp only
  cases hks2 : Bs.find? (fun e => e.ks == i) with
  | some e =>
   rw [hks2] at hobi
   dsimp only at hobi
   have heB := List.mem_of_find?_eq_some hks2
   have hei : e.ks = i := by simpa using List.find?_some hks2
   obtain ⟨g0, d0, dep, hlook⟩ := F.sto e heB (by rw [hei]; exact hilt) o (by rw [hei]; exact ho)
   have hkal : listed.getD e.ka false = true := by
    obtain ⟨x, hx, hb, hon⟩ := depOn_mem dep
    have := hall x hx hb
    rwa [hon] at this
   obtain ⟨b, hb1, hb2, hb3⟩ := hX.at_ e heB hkal
   rw [hei, hiu, if_neg (by simp)] at hb3
   have h1 := fillL_at (fun j => a.tmps.getD ((dstAt ops j).getD 0) undef) (BL Bs) _ (hobi w hI.ext) (fun p hp _ => BL_vals (fun j => a.tmps.getD ((dstAt ops j).getD 0) undef) w p hp)
   obtain ⟨w', hr, hA, hFr⟩ := h1 b (by rw [← hag e.s hlook]; exact hb1) hb3
   have hev : execOp (fillA ops (lookOn ops o) (fun j => a.tmps.getD ((dstAt ops j).getD 0) undef) (BL Bs) (cf ops (BL Bs) c a0 i)).eval o = execOp a.eval o := execOp_congr o hsel fun x hx => by
    cases x with
    | tmp t =>
     have ht : t ∈ o.looksAt ops := List.mem_append_left _ (List.mem_filterMap.2 ⟨.tmp t, by simpa using hx, rfl⟩)
     simp only [Act.eval, Array.getD_eq_getD_getElem?, hag t ht]
    | const v => rfl
    | global g => rfl
    | func f => rfl
   rw [hev] at hr
   have hw : Region.wanted o (yielded ops a.tmps) = true := by
    unfold Region.wanted
    rw [g0]
   rw [if_pos hw]
   refine .inl ?_
   unfold Oper.wp
   rw [hr]
   refine next undef w' (foNew hI.ext hFr hb2) ?_ (hY.same G (fun f hf hk => by have := G.spc f hf i hk; rw [spc_ks heB hei] at this; cases this) (fun f hf C hC => hFr.av hC (fun q => by have := G.lt f hf; omega))) (fun _ hd => absurd d0 hd)
   have : (a.put o.dst undef).tmps = a.tmps := by rw [d0]; rfl
   rw [this]
   exact hX.store F heB hei (by rw [hI.lsize]; exact hilt) hilt hkal hb1 hA hFr
  | none =>
   rw [hks2] at hobi
   dsimp only at hobi
   have hnk : ∀ f ∈ Bs, f.ks ≠ i := fun f hf q => by
    have := List.find?_eq_none.1 hks2 f hf
    simp [q] at this
   cases hka2 : Bs.find? (fun e => e.ka == i) with
   | some e =>
    rw [hka2] at hobi
    dsimp only at hobi
    have heB := List.mem_of_find?_eq_some hka2
    have hei : e.ka = i := by simpa using List.find?_some hka2
    have hde : o.dst = some e.s := by
     have := F.dst e heB
     rw [hei, hdst] at this
     exact this
    have hw : Region.wanted o (yielded ops a.tmps) = true := by
     unfold Region.wanted
     rw [F.grd e heB o (by rw [hei]; exact ho)]
    rw [if_pos hw]
    refine .inl ?_
    unfold Oper.wp
    rw [hobi a.eval w]
    have hno : listed.getD e.ks false = false := by
     rcases Nat.lt_or_ge e.ks ops.size with hlt2 | hge
     ·cases hl2 : listed.getD e.ks false with
      | false => rfl
      | true =>
       have ho2 := Array.getElem?_eq_getElem hlt2
       obtain ⟨_, _, dep, _⟩ := F.sto e heB hlt2 _ ho2
       obtain ⟨x, hx, hb, hon⟩ := depOn_mem dep
       have := hI.shut e.ks _ ho2 hl2 x hx hb
       rw [hon, hei, hiu] at this
       cases this
     ·rw [Array.getD_eq_getD_getElem?, Array.getElem?_eq_none (by rw [hI.lsize]; exact hge)]
      rfl
    refine next _ _ (foAlloc hI.ext _) ?_ (hY.same G (fun f hf hk => by have := G.spc f hf i hk; rw [spc_ka heB hei] at this; cases this) (fun f hf C hC => hC.alloc _)) (fun hl2 _ => absurd hl2 (by rw [← hei]; exact BL_lookup heB))
    rw [hde]
    exact hX.alloc F heB hei hno (by rw [hI.lsize]; exact hilt) (by rw [hI.size]; exact hrange i e.s (by rw [hdst]; exact hde)) (foSize hI.ext)
   | none =>
    rw [hka2] at hobi
    dsimp only at hobi
    have hna : ∀ f ∈ Bs, f.ka ≠ i := fun f hf q => by
     have := List.find?_eq_none.1 hka2 f hf
     simp [q] at this
    cases hos2 : Os.find? (fun e => e.ks.contains i) with
    | some e =>
     rw [hos2] at hobi
     dsimp only at hobi
     have heO := List.mem_of_find?_eq_some hos2
     have hei : i ∈ e.ks := by simpa using List.find?_some hos2
     obtain ⟨g0, d0⟩ := G.op e heO i hei o ho
     have h1 := fillL_at (fun j => a.tmps.getD ((dstAt ops j).getD 0) undef) (BL Bs) _ (hobi w hI.ext) (fun p hp _ => BL_vals (fun j => a.tmps.getD ((dstAt ops j).getD 0) undef) w p hp)
     obtain ⟨w', hr, hA, hFr⟩ := h1 (fun k => listed.getD k false) hiu (hY e heO)
     have hev : execOp (fillA ops (lookOn ops o) (fun j => a.tmps.getD ((dstAt ops j).getD 0) undef) (BL Bs) (cf ops (BL Bs) c a0 i)).eval o = execOp a.eval o := execOp_congr o hsel fun x hx => by
      cases x with
      | tmp t =>
       have ht : t ∈ o.looksAt ops := List.mem_append_left _ (List.mem_filterMap.2 ⟨.tmp t, by simpa using hx, rfl⟩)
       simp only [Act.eval, Array.getD_eq_getD_getElem?, hag t ht]
      | const v => rfl
      | global g => rfl
      | func f => rfl
     rw [hev] at hr
     have hw : Region.wanted o (yielded ops a.tmps) = true := by
      unfold Region.wanted
      rw [g0]
     rw [if_pos hw]
     refine .inl ?_
     unfold Oper.wp
     rw [hr]
     have ht : (a.put o.dst undef).tmps = a.tmps := by rw [d0]; rfl
     refine next undef w' (foOld hI.ext hFr heO) (by rw [ht]; exact hX.fr (fun f hf => ⟨hna f hf, hnk f hf⟩) hFr (G.lt e heO)) (hY.store G heO hei (by rw [hI.lsize]; exact hilt) hA hFr) (fun _ hd => absurd d0 hd)
    | none =>
     rw [hos2] at hobi
     dsimp only at hobi
     have hfn : ∀ k o', ops[k]? = some o' → depOn o' i = true → listed.getD k false = false := fun k o' hk hd => by
      cases hl : listed.getD k false with
      | false => rfl
      | true =>
       obtain ⟨x, hx, hb, hon⟩ := depOn_mem hd
       have := hI.shut k o' hk hl x hx hb
       rw [hon, hiu] at this
       cases this
     have hJN : JN ops Os i w := fun e he => ⟨fun k => listed.getD k false, hfn, hY e he⟩
     have hop : relOp P ops Ext o a w (fun u _ => u = c i) := relOp_same hsel (fun t ht => (hag t ht).symm) (fillL_at (fun j => a.tmps.getD ((dstAt ops j).getD 0) undef) (BL Bs) _ (hobi w hI.ext hJN) (fun p hp _ => BL_vals (fun j => a.tmps.getD ((dstAt ops j).getD 0) undef) w p hp))
     have go : ∀ v w', Ext w w' → v = c i → wpAny P .any ops Q (fuel) (listed.setIfInBounds i true) (a.put o.dst v) w' := fun v w' h1 h2 =>
      next v w' (foExt hI.ext h1) (hX.normal (fun f hf => ⟨hna f hf, hnk f hf⟩) (fun f hf q => huniq f.ka f.s (F.dst f hf) i (fun q => hna f hf q.symm) (hdst.trans q)) h1 v) (hY.same G (fun f hf hk => by have := List.find?_eq_none.1 hos2 f hf; simp [hk] at this) (fun f hf C hC => hC.below h1)) (fun _ _ => h2)
     unfold relOp at hop
     by_cases hw : Region.wanted o (yielded ops a.tmps) = true
     ·rw [if_pos hw] at hop ⊢
      refine .inl ?_
      unfold Oper.wp
      generalize (execOp a.eval o).run P w = r at hop ⊢
      cases r with
      | halt x w' => exact hop.elim
      | ok nx w' =>
       cases nx with
       | value v => exact go v w' hop.1 hop.2
       | skip => exact go undef w' hop.1 hop.2
       | enter f args =>
        refine Calls.mono hop ?_
        rintro e w'' ⟨v, rfl, h1, h2⟩
        exact go v w'' h1 h2
       | _ => exact hop.elim
     ·rw [if_neg hw] at hop ⊢
      exact go undef w (Ext.refl w) hop
theorem wp_region_relO {id : Nat} {a : Act} {w : World} {l : List Oper} (Bs : List Blk) (Os : List Old) (hm : P.follows .mixedOrders = true) (hB : relB l.toArray ((BL Bs).map (·.1)) = true)
  (hrange : l.all (fun o => match o.dst with | some d => decide (d < a.tmps.size) | none => true) = true)
  (hW : BOk l.toArray l.toArray.size Bs = true) (hS : OOk l.toArray Bs Os = true) (hC : ∀ e ∈ Os, ∀ f g : Nat → Bool, (∀ k ∈ e.ks, f k = g k) → e.C f = e.C g) (hne : Os.Pairwise fun e f => e.b ≠ f.b) (h0 : ∀ e ∈ Os, Av w e.b e.t (e.C fun _ => false))
  (h : relWalkO P l.toArray w.drew Bs Os (fun x a' w' => JB w.heap.size Bs (Array.replicate l.length true) a'.tmps w' → JO Os (Array.replicate l.length true) w' → Q x a' w') 0 l a) : (Code.region id l.toArray true).wp P Q a w := by
 obtain ⟨c, _, hob, hfin⟩ := relWalk_specO (BOk_facts hW) a l 0 a (fun k => by simp) h (fun _ => undef) rfl
 refine wp_region_any hm (relO_any (c := c) (a0 := a) hB (fun j t hj => ?_) (fun j o ho => hob j o (Nat.zero_le _) (by have := (Array.getElem?_eq_some_iff.1 ho).1; simpa using this) ho) hW (OOk_facts hS hC hne h0) (by simpa using hfin) l.toArray.size _ a _ (List.range l.toArray.size) (by simp) (fun i hi _ => List.mem_range.2 hi) ?_ ?_ ?_)
 ·rw [List.all_eq_true] at hrange
  cases ho : l[j]? with
  | none => simp [dstAt, ho] at hj
  | some o =>
   have := hrange o (List.mem_of_getElem? ho)
   have hd : o.dst = some t := by simpa [dstAt, ho] using hj
   rw [hd] at this
   simpa using this
 all_goals
  have hnone : ∀ j, ¬ (Array.replicate l.toArray.size false).getD j false = true := by
   intro j
   rw [Array.getD_eq_getD_getElem?, Array.getElem?_replicate]
   split <;> simp
 ·exact ⟨by simp, rfl, rfl, Fr.refl _ _, fun i o _ hl => absurd hl (hnone i), fun j t _ _ hl => absurd hl (hnone j), fun j t phi _ _ hl => absurd hl (hnone j), fun t _ => rfl⟩
 ·exact ⟨fun e _ hl => absurd hl (hnone e.ka), fun e _ f _ _ hl => absurd hl (hnone e.ka)⟩
 ·intro e he
  have : (fun k => (Array.replicate l.toArray.size false).getD k false) = fun _ => false := by
   funext k
   have := hnone k
   simpa using this
  rw [this]
  exact h0 e he
variable {i : Nat} {o : Oper} {rest : List Oper} {l l' : List Value} {d : List Deferred}
theorem oC (hL : spcO Bs Os i = false) (hD : ((BL Bs).all fun p => !lookOn ops o p.1) = true) (hw : okG ops o l = some true) {t : Nat} (ht : o.dst = some t) {c : Value}
  (h : ∀ w, Fo Os w0 w → relRes P Ext w (fun v _ => v = c) ((execOp (Act.eval ⟨l.toArray, d⟩) o).run P w)) (hl : l.set t c = l') (k : relWalkO P ops w0 Bs Os Q (i + 1) rest ⟨l'.toArray, d⟩) : relWalkO P ops w0 Bs Os Q i (o :: rest) ⟨l.toArray, d⟩ := by
 subst hl
 unfold relWalkO
 rw [find_ks (spcO_l hL), find_ka (spcO_l hL), find_os hL]
 refine ⟨c, fun w hR _ => fill_none hD ?_, ?_⟩
 ·unfold relOp
  rw [if_pos (wanted_okG hw)]
  exact h w hR
 ·rw [ht, put_lit]
  exact k
theorem oPure (hL : spcO Bs Os i = false) (hD : ((BL Bs).all fun p => !lookOn ops o p.1) = true) (hw : okG ops o l = some true) {t : Nat} (ht : o.dst = some t) {c : Value}
  (h : ∀ w, Fo Os w0 w → (execOp (Act.eval ⟨l.toArray, d⟩) o).run P w = .ok (.value c) w) (hl : l.set t c = l') (k : relWalkO P ops w0 Bs Os Q (i + 1) rest ⟨l'.toArray, d⟩) : relWalkO P ops w0 Bs Os Q i (o :: rest) ⟨l.toArray, d⟩ :=
 oC hL hD hw ht (fun w hw' => by rw [h w hw']; exact ⟨Ext.refl w, rfl⟩) hl k
theorem oMove (hL : spcO Bs Os i = false) (hD : ((BL Bs).all fun p => !lookOn ops o p.1) = true) (hw : okG ops o l = some true) {t : Nat} (ht : o.dst = some t) (x : Operand) (ho : o.op = .move x ∨ o.op = .assign x) {c : Value} (hc : evL l x = c)
  (hl : l.set t c = l') (k : relWalkO P ops w0 Bs Os Q (i + 1) rest ⟨l'.toArray, d⟩) : relWalkO P ops w0 Bs Os Q i (o :: rest) ⟨l.toArray, d⟩ := by
 refine oPure hL hD hw ht (fun w _ => ?_) hl k
 subst hc
 rw [← eval_evL l d]
 rcases ho with ho | ho <;> (unfold execOp; rw [ho]; rfl)
theorem oCall1 (hL : spcO Bs Os i = false) (hD : ((BL Bs).all fun p => !lookOn ops o p.1) = true) (hw : okG ops o l = some true) {t : Nat} (ht : o.dst = some t) {c : Value} (f : FuncId) (args : Array Value)
  (he : ∀ w, (execOp (Act.eval ⟨l.toArray, d⟩) o).run P w = .ok (.enter f args) w)
  (h : ∀ w, Fo Os w0 w → Calls P f args w fun e w' => e = .returned c ∧ Ext w w') (hl : l.set t c = l') (k : relWalkO P ops w0 Bs Os Q (i + 1) rest ⟨l'.toArray, d⟩) : relWalkO P ops w0 Bs Os Q i (o :: rest) ⟨l.toArray, d⟩ :=
 oC hL hD hw ht (fun w hw' => by
  rw [he w]
  exact (h w hw').mono fun e w' ⟨h1, h2⟩ => ⟨c, h1, h2, rfl⟩) hl k
theorem oPureJ (hL : spcO Bs Os i = false) (hD : ((BL Bs).all fun p => !lookOn ops o p.1) = true) (hw : okG ops o l = some true) {t : Nat} (ht : o.dst = some t) {c : Value}
  (h : ∀ w, Fo Os w0 w → JN ops Os i w → (execOp (Act.eval ⟨l.toArray, d⟩) o).run P w = .ok (.value c) w) (hl : l.set t c = l') (k : relWalkO P ops w0 Bs Os Q (i + 1) rest ⟨l'.toArray, d⟩) : relWalkO P ops w0 Bs Os Q i (o :: rest) ⟨l.toArray, d⟩ := by
 subst hl
 unfold relWalkO
 rw [find_ks (spcO_l hL), find_ka (spcO_l hL), find_os hL]
 refine ⟨c, fun w hR hJ => fill_none hD ?_, ?_⟩
 ·unfold relOp
  rw [if_pos (wanted_okG hw), h w hR hJ]
  exact ⟨Ext.refl w, rfl⟩
 ·rw [ht, put_lit]
  exact k
theorem JN.one {i k b : Nat} {t : TypeId} {Z C : List Value} {w : World} (h : JN ops Os i w) (he : Old.one b t k Z C ∈ Os) {o : Oper} (ho : ops[k]? = some o) (hd : depOn o i = true) : Av w b t Z := by
 obtain ⟨f, hf, ha⟩ := h _ he
 have := hf k o ho hd
 simpa [Old.one, this] using ha
theorem oEnd {i : Nat} {a : Act} (h : ∀ w, Fo Os w0 w → fillL ops (fun _ => true) w (fun a' => Q .normal a' w) (BL Bs) a) : relWalkO P ops w0 Bs Os Q i [] a := h
theorem oAlloc {e : Blk} {i : Nat} {o : Oper} {rest : List Oper} {a : Act} (hk : (Bs.find? fun e => e.ks == i) = none) (ha : (Bs.find? fun e => e.ka == i) = some e) (h : ∀ (ρ : Operand → Value) w, (execOp ρ o).run P w = .ok (.value (.pointer (some ⟨w.heap.size, 0, none⟩))) (w.alloc (.cells e.Z.toArray e.t (0, 0)))) (k : relWalkO P ops w0 Bs Os Q (i + 1) rest a) : relWalkO P ops w0 Bs Os Q i (o :: rest) a := by
 unfold relWalkO
 rw [hk, ha]
 exact ⟨h, k⟩
theorem oStore {e : Blk} {i : Nat} {o : Oper} {rest : List Oper} {a : Act} (hk : (Bs.find? fun e => e.ks == i) = some e) (hd : o.dst = none) (h : ∀ w, Fo Os w0 w → fillL ops (lookOn ops o) w (fun a' => ∀ b, a'.tmps[e.s]? = some (.pointer (some ⟨b, 0, none⟩)) → Av w b e.t e.Z → ∃ w', (execOp a'.eval o).run P w = .ok .skip w' ∧ Av w' b e.t e.C ∧ Fr (fun k => k = b) w w') (BL Bs) a)
  (k : relWalkO P ops w0 Bs Os Q (i + 1) rest a) : relWalkO P ops w0 Bs Os Q i (o :: rest) a := by
 unfold relWalkO
 rw [hk]
 exact ⟨h, hd, k⟩
theorem oOld {e : Old} {i : Nat} {o : Oper} {rest : List Oper} {a : Act} (hk : (Bs.find? fun e => e.ks == i) = none) (ha : (Bs.find? fun e => e.ka == i) = none) (ho : (Os.find? fun e => e.ks.contains i) = some e) (hd : o.dst = none) (h : ∀ w, Fo Os w0 w → fillL ops (lookOn ops o) w (fun a' => ∀ f : Nat → Bool, f i = false → Av w e.b e.t (e.C f) → ∃ w', (execOp a'.eval o).run P w = .ok .skip w' ∧ Av w' e.b e.t (e.C fun k => k == i || f k) ∧ Fr (fun k => k = e.b) w w') (BL Bs) a)
  (k : relWalkO P ops w0 Bs Os Q (i + 1) rest a) : relWalkO P ops w0 Bs Os Q i (o :: rest) a := by
 unfold relWalkO
 rw [hk, ha, ho]
 exact ⟨h, hd, k⟩
theorem Old.one_con (b : Nat) (t : TypeId) (k : Nat) (Z C : List Value) (f g : Nat → Bool) (h : ∀ j ∈ (Old.one b t k Z C).ks, f j = g j) : (Old.one b t k Z C).C f = (Old.one b t k Z C).C g := by
 have := h k (by simp [Old.one])
 simp [Old.one, this]
theorem oOldRow {w : World} {o : Oper} {ρ : Operand → Value} {b k : Nat} {t : TypeId} {Z C : List Value} {f : Nat → Bool} (hf : f k = false) (h0 : Av w (Old.one b t k Z C).b (Old.one b t k Z C).t ((Old.one b t k Z C).C f)) (hz : Z.length = C.length) (ty : TypeId) (x y : Operand) (ho : o.op = .store ty x y) (hx : ρ x = .pointer (some ⟨b, 0, none⟩)) (hy : ρ y = .agg C.toArray) (n : Nat) (hn : C.length = n)
  (hi : (P.info? ty).map (·.size) = some n) (h1 : C.all (·.oneCell') = true) : ∃ w', (execOp ρ o).run P w = .ok .skip w' ∧ Av w' (Old.one b t k Z C).b (Old.one b t k Z C).t ((Old.one b t k Z C).C fun j => j == k || f j) ∧ Fr (fun k => k = b) w w' := by
 have h0 : Av w b t Z := by simpa [Old.one, hf] using h0
 obtain ⟨w', r1, r2, r3⟩ := bStoreRow (P := P) h0 hz ty x y ho hx hy n hn hi h1
 refine ⟨w', r1, ?_, r3⟩
 simpa [Old.one] using r2
end
end Go.Proofs.YtobjgebojhjhnaaDoor
namespace Go.Proofs.YtobjgebojhjhnaaDoor
open Go.RowKit
theorem Rd.piece {α : Type} {w : World} {b off : Nat} (f : α → List Value) (n : Nat) : ∀ (l : List α) (_ : ∀ e ∈ l, (f e).length = n) (_ : Rd w (some ⟨b, off, none⟩) (l.flatMap f)) (k : Nat) (e : α) (_ : l[k]? = some e), w.rangeAt b (off + k * n) (f e)
 | [], _, _, k, e, hk => by simp at hk
 | x :: l, hl, hr, 0, e, hk => by
  obtain rfl : x = e := by simpa using hk
  intro j v hv
  rcases hr with h | ⟨b', o', hA, hc⟩
  ·rw [List.flatMap_cons] at h
   rw [(List.append_eq_nil_iff.1 h).1] at hv
   simp at hv
  ·cases hA
   have hj := (List.getElem?_eq_some_iff.1 hv).1
   have := hc j v (by rw [List.flatMap_cons, List.getElem?_append_left hj]; exact hv)
   rw [Nat.zero_mul, Nat.add_zero]
   exact this
 | x :: l, hl, hr, k + 1, e, hk => by
  have hx := hl x (List.mem_cons_self ..)
  have h2 := hr.drop n
  rw [List.flatMap_cons, List.drop_append, List.drop_of_length_le (by rw [hx]; exact Nat.le_refl _), hx, Nat.sub_self, List.drop_zero, List.nil_append] at h2
  have := Rd.piece f n l (fun e he => hl e (List.mem_cons_of_mem _ he)) h2 k e (by simpa using hk)
  rw [show off + (k + 1) * n = off + n + k * n by rw [Nat.add_mul, Nat.one_mul]; omega]
  exact this
theorem flat_length {α β : Type} (f : α → List β) (n : Nat) : ∀ (l : List α) (_ : ∀ e ∈ l, (f e).length = n), (l.flatMap f).length = l.length * n
 | [], _ => by simp
 | x :: l, h => by
  rw [List.flatMap_cons, List.length_append, h x (List.mem_cons_self ..), flat_length f n l fun e he => h e (List.mem_cons_of_mem _ he), List.length_cons, Nat.add_mul, Nat.one_mul, Nat.add_comm]
end Go.Proofs.YtobjgebojhjhnaaDoor
namespace Go.Proofs.YtobjgebojhjhnaaDoor
open Go.RowKit
theorem fold_splice (off : Nat) : ∀ (xs old pre post : List Value) (k : Nat), old.length = xs.length → pre.length = off + k →
  (xs.zipIdx k).foldl (fun (cs : Array Value) (p : Value × Nat) => cs.setIfInBounds (off + p.2) p.1) (pre ++ (old ++ post)).toArray = (pre ++ (xs ++ post)).toArray
 | [], old, pre, post, k, h, _ => by
  have : old = [] := List.eq_nil_of_length_eq_zero h
  subst this
  rfl
 | x :: xs, [], pre, post, k, h, _ => by simp at h
 | x :: xs, y :: old, pre, post, k, h, hp => by
  simp only [List.zipIdx_cons, List.foldl_cons]
  have e : (pre ++ (y :: old ++ post)).toArray.setIfInBounds (off + k) x = ((pre ++ [x]) ++ (old ++ post)).toArray := by
   rw [List.setIfInBounds_toArray, ← hp, List.set_append_right _ _ (Nat.le_refl _)]
   simp
  rw [e, fold_splice off xs old (pre ++ [x]) post (k + 1) (by simpa using h) (by simp; omega)]
  simp
theorem fill_step {place : Nat → Option (Nat × Nat)} (pre old xs post : List Value) {i off size : Nat} {v : Value} {rest : List (Nat × Value)} (hp : place i = some (off, size)) (hv : v.cells = xs.toArray) (hx : xs.length = size) (ho : pre.length = off) (hl : old.length = size) :
  Instr.fill place (pre ++ (old ++ post)).toArray ((i, v) :: rest) = Instr.fill place (pre ++ (xs ++ post)).toArray rest := by
 rw [Instr.fill, hp]
 simp only
 rw [if_neg (by rw [hv]; simp [hx]; omega), hv]
 congr 1
 have := fold_splice off xs old pre post 0 (by omega) (by omega)
 rw [← this]
 simp
theorem built_struct {P : Program} {t : TypeId} {fields : Array Field} {z : Value} {places : List (Nat × Nat)} {parts : List (Nat × Value)} (hu : P.underlying t = some (.struct fields)) (hz : (P.info? t).map (·.zero) = some (some z))
  (hp : fields.toList.mapM (fun f => (P.info? f.type).map fun i => (f.offset, i.size)) = some places) : P.built t parts = Instr.fill (places.toArray[·]?) z.cells parts := by
 obtain ⟨i, hi, hzi⟩ := Option.map_eq_some_iff.1 hz
 unfold Program.built
 rw [hi, hu]
 simp only [hzi, hp]
theorem exec_build {P : Program} {t : TypeId} {cs : List Value} {w : World} {o : Oper} {ρ : Operand → Value} {ops : List (Nat × Operand)} (ho : o.op = .build t ops.toArray) (h : P.built t (ops.map fun p => (p.1, ρ p.2)) = some cs.toArray) : (execOp ρ o).run P w = .ok (.value (.agg cs.toArray)) w := by
 have := run_build (P := P) w t (ops.map fun p => (p.1, ρ p.2)).toArray cs.toArray (by simpa using h)
 unfold execOp
 simp only [ho, List.map_toArray]
 simp only [Sem.run_bind, this, Result.andThen_ok]
 rfl
end Go.Proofs.YtobjgebojhjhnaaDoor
namespace Go.Proofs.YtobjgebojhjhnaaDoor
open Go.RowKit
structure TIn where
 prev : List UInt8
 idx : Nat
 scr : List UInt8
 seq : Nat
structure TOut where
 val : Nat
 scr : List UInt8
structure TTx where
 ver : Nat
 ins : List TIn
 outs : List TOut
 lock : Nat
def TIn.ok (i : TIn) : Prop := i.prev.length = 32 ∧ i.idx < 4294967296 ∧ i.seq < 4294967296
def TOut.ok (o : TOut) : Prop := o.val < 18446744073709551616
def inB (i : TIn) : List UInt8 := i.prev ++ (Cm.lo 4 i.idx ++ ((Cm.put i.scr.length ++ i.scr) ++ Cm.lo 4 i.seq))
def outBs (o : TOut) : List UInt8 := Cm.lo 8 o.val ++ (Cm.put o.scr.length ++ o.scr)
def txB (t : TTx) : List UInt8 := Cm.lo 4 t.ver ++ (Cm.put t.ins.length ++ (t.ins.flatMap inB ++ (Cm.put t.outs.length ++ (t.outs.flatMap outBs ++ Cm.lo 4 t.lock))))
def txSane (t : TTx) : Bool := decide (1 ≤ t.ins.length) && decide (t.ins.length ≤ 1000) && decide (t.outs.length ≤ 1000) && (t.ins.all fun i => decide (i.scr.length ≤ 10000)) && (t.outs.all fun o => decide (o.scr.length ≤ 10000))
abbrev Sl := Option Addr × Nat
abbrev slv (n : Nat) (s : Sl) : Value := .slice s.1 n s.2
def inc (e : TIn × Sl) : List Value := e.1.prev.map bv ++ [.int .u32 (e.1.idx : Int), slv e.1.scr.length e.2, .int .u32 (e.1.seq : Int)]
def outc (e : TOut × Sl) : List Value := [.int .u64 (e.1.val : Int), slv e.1.scr.length e.2]
def icl (l : List (TIn × Sl)) : List Value := l.flatMap inc
def ocl (l : List (TOut × Sl)) : List Value := l.flatMap outc
def InAt (w : World) (e : TIn × Sl) : Prop := e.1.ok ∧ Rd w e.2.1 (e.1.scr.map bv) ∧ e.1.scr.length ≤ e.2.2
def OutAt (w : World) (e : TOut × Sl) : Prop := e.1.ok ∧ Rd w e.2.1 (e.1.scr.map bv) ∧ e.1.scr.length ≤ e.2.2
theorem InAt.below {w w' : World} {e : TIn × Sl} (h : InAt w e) (b : Below w.heap.size w w') : InAt w' e := ⟨h.1, h.2.1.below b, h.2.2⟩
theorem OutAt.below {w w' : World} {e : TOut × Sl} (h : OutAt w e) (b : Below w.heap.size w w') : OutAt w' e := ⟨h.1, h.2.1.below b, h.2.2⟩
theorem inc_length {w : World} {e : TIn × Sl} (h : InAt w e) : (inc e).length = 35 := by simp [inc, h.1.1]
theorem outc_length (e : TOut × Sl) : (outc e).length = 2 := rfl
theorem inc_one (e : TIn × Sl) : ∀ u ∈ inc e, u.oneCell' = true := by
 intro u hu
 simp only [inc, List.mem_append, List.mem_cons, List.not_mem_nil, or_false] at hu
 rcases hu with hu | rfl | rfl | rfl
 ·exact bv_one _ u hu
 all_goals rfl
theorem outc_one (e : TOut × Sl) : ∀ u ∈ outc e, u.oneCell' = true := by
 intro u hu
 simp only [outc, List.mem_cons, List.not_mem_nil, or_false] at hu
 rcases hu with rfl | rfl <;> rfl
def RdIns (w : World) (A : Option Addr) (l : List (TIn × Sl)) : Prop := Rd w A (icl l) ∧ ∀ e ∈ l, InAt w e
def RdOuts (w : World) (A : Option Addr) (l : List (TOut × Sl)) : Prop := Rd w A (ocl l) ∧ ∀ e ∈ l, OutAt w e
theorem RdIns.below {w w' : World} {A : Option Addr} {l : List (TIn × Sl)} (h : RdIns w A l) (b : Below w.heap.size w w') : RdIns w' A l := ⟨h.1.below b, fun e he => (h.2 e he).below b⟩
theorem RdOuts.below {w w' : World} {A : Option Addr} {l : List (TOut × Sl)} (h : RdOuts w A l) (b : Below w.heap.size w w') : RdOuts w' A l := ⟨h.1.below b, fun e he => (h.2 e he).below b⟩
theorem RdIns.adr {w : World} {A : Option Addr} {l : List (TIn × Sl)} (h : RdIns w A l) (hl : 0 < l.length) : ∃ b off, A = some ⟨b, off, none⟩ := by
 rcases h.1 with e | ⟨b, off, e, _⟩
 ·have := flat_length inc 35 l fun e he => inc_length (h.2 e he)
  rw [icl] at e; rw [e] at this; simp at this; omega
 ·exact ⟨b, off, e⟩
theorem RdOuts.adr {w : World} {A : Option Addr} {l : List (TOut × Sl)} (h : RdOuts w A l) (hl : 0 < l.length) : ∃ b off, A = some ⟨b, off, none⟩ := by
 rcases h.1 with e | ⟨b, off, e, _⟩
 ·have := flat_length outc 2 l fun e _ => outc_length e
  rw [ocl] at e; rw [e] at this; simp at this; omega
 ·exact ⟨b, off, e⟩
theorem RdIns.nth {w : World} {b off : Nat} {l : List (TIn × Sl)} (h : RdIns w (some ⟨b, off, none⟩) l) (k : Nat) (e : TIn × Sl) (hk : l[k]? = some e) : w.rangeAt b (off + k * 35) (inc e) ∧ InAt w e :=
 ⟨Rd.piece inc 35 l (fun e he => inc_length (h.2 e he)) h.1 k e hk, h.2 e (List.mem_of_getElem? hk)⟩
theorem RdOuts.nth {w : World} {b off : Nat} {l : List (TOut × Sl)} (h : RdOuts w (some ⟨b, off, none⟩) l) (k : Nat) (e : TOut × Sl) (hk : l[k]? = some e) : w.rangeAt b (off + k * 2) (outc e) ∧ OutAt w e :=
 ⟨Rd.piece outc 2 l (fun e _ => outc_length e) h.1 k e hk, h.2 e (List.mem_of_getElem? hk)⟩
def txOf (ver : Nat) (l : List (TIn × Sl)) (m : List (TOut × Sl)) (lock : Nat) : TTx := ⟨ver, l.map (·.1), m.map (·.1), lock⟩
theorem inB_length (i : TIn) (h : i.prev.length = 32) (hs : i.scr.length ≤ 10000) : (inB i).length ≤ 10049 := by
 have := Cm.size_le i.scr.length
 simp only [inB, List.length_append, Cm.lo_length, Cm.put_length, h]; omega
theorem outBs_length (o : TOut) (hs : o.scr.length ≤ 10000) : (outBs o).length ≤ 10017 := by
 have := Cm.size_le o.scr.length
 simp only [outBs, List.length_append, Cm.lo_length, Cm.put_length]; omega
theorem flat_le {α β : Type} (f : α → List β) (n : Nat) : ∀ (l : List α) (_ : ∀ e ∈ l, (f e).length ≤ n), (l.flatMap f).length ≤ l.length * n
 | [], _ => by simp
 | x :: l, h => by
  have h1 := h x (List.mem_cons_self ..)
  have h2 := flat_le f n l fun e he => h e (List.mem_cons_of_mem _ he)
  rw [List.flatMap_cons, List.length_append, List.length_cons, Nat.add_mul, Nat.one_mul]
  omega
theorem BufTo.keep {g base : Nat} {w w' : World} {v v' : Value} {bs' : List UInt8} (h : BufTo g base w v w' v' bs') (x : Nat) (hx : x < w.heap.size) (hg : x ≠ g) (hv : v.ownBlock ≠ some x) : w'.heap[x]? = w.heap[x]? ∧ v'.ownBlock ≠ some x := by
 refine ⟨h.fr.block x hx (fun e => e.elim hg hv), fun e => ?_⟩
 rcases h.row with e' | ⟨q, e', hq⟩
 ·exact hv (e'.symm.trans e)
 ·rw [e'] at e; injection e; omega
end Go.Proofs.YtobjgebojhjhnaaDoor
namespace Go.Proofs.YtobjgebojhjhnaaDoor
open Go.RowKit
theorem inc_at {w : World} {e : TIn × Sl} (h : InAt w e) : (inc e)[32]? = some (.int .u32 (e.1.idx : Int)) ∧ (inc e)[33]? = some (slv e.1.scr.length e.2) ∧ (inc e)[34]? = some (.int .u32 (e.1.seq : Int)) := by
 have hl : (e.1.prev.map bv).length = 32 := by rw [List.length_map]; exact h.1.1
 refine ⟨?_, ?_, ?_⟩
 all_goals
  rw [inc, List.getElem?_append_right (by rw [hl]; omega), hl]
  rfl
theorem all_of {l : List Value} (h : ∀ u ∈ l, u.oneCell' = true) : l.all (·.oneCell') = true := List.all_eq_true.2 h
theorem info_in : (Tryd.prog.info? 101).map (·.size) = some 35 := by kernel_rfl
theorem info_out : (Tryd.prog.info? 104).map (·.size) = some 2 := by kernel_rfl
theorem txSane_iff (t : TTx) : txSane t = true ↔ (1 ≤ t.ins.length ∧ t.ins.length ≤ 1000 ∧ t.outs.length ≤ 1000) ∧ (∀ i ∈ t.ins, i.scr.length ≤ 10000) ∧ ∀ o ∈ t.outs, o.scr.length ≤ 10000 := by
 simp only [txSane, Bool.and_eq_true, decide_eq_true_eq, List.all_eq_true]
 constructor
 ·rintro ⟨⟨⟨⟨a, b⟩, c⟩, d⟩, e⟩; exact ⟨⟨a, b, c⟩, d, e⟩
 ·rintro ⟨⟨a, b, c⟩, d, e⟩; exact ⟨⟨⟨⟨a, b⟩, c⟩, d⟩, e⟩
theorem mem_take_succ {α : Type} {l : List α} {k : Nat} {e : α} (hk : l[k]? = some e) {x : α} (hx : x ∈ l.take (k + 1)) : x ∈ l.take k ∨ x = e := by
 rw [List.take_add_one, hk] at hx
 rcases List.mem_append.1 hx with h | h
 ·exact .inl h
 ·exact .inr (by simpa using h)
set_option maxRecDepth 10000 in
set_option maxHeartbeats 2000000 in
theorem TSane (ver lock : Nat) (l : List (TIn × Sl)) (m : List (TOut × Sl)) (A1 A2 : Option Addr) (n1 n2 c1 c2 : Nat) (hn1 : l.length = n1) (hn2 : m.length = n2) (w : World) (h1 : RdIns w A1 l) (h2 : RdOuts w A2 m) :
    Calls Tryd.prog 47 #[.agg #[.int .u32 (ver : Int), .slice A1 n1 c1, .slice A2 n2 c2, .int .u32 (lock : Int)]] w fun e w' => e = .returned (.bool (txSane (txOf ver l m lock))) ∧ Below w.heap.size w w' := by
  obtain ⟨b, hb⟩ : ∃ b, b = txSane (txOf ver l m lock) := ⟨_, rfl⟩
  have hsane := txSane_iff (txOf ver l m lock)
  simp only [txOf, List.length_map, hn1, hn2, List.forall_mem_map] at hsane
  rw [← hb]
  rw [show TTx.mk ver (l.map (·.1)) (m.map (·.1)) lock = txOf ver l m lock from rfl, ← hb] at hsane
  clear hb
  replace hn1 := Lib.hid hn1
  replace hn2 := Lib.hid hn2
  by_cases hnum : 1 ≤ n1 ∧ n1 ≤ 1000 ∧ n2 ≤ 1000
  · obtain ⟨q1, q2, q3⟩ := hnum
    have t1 : decide ((n1 : Int) < 1) = false := by simp; omega
    have t2 : decide ((1000 : Int) < (n1 : Int)) = false := by simp; omega
    have t3 : decide ((1000 : Int) < (n2 : Int)) = false := by simp; omega
    replace hsane := Lib.hid hsane
    go_enter Tryd.func47, Tryd.ntmps47
    go_wp2
    go_loopw [4, 26] (fun _ i wr => ∃ k : Nat, k ≤ n1 ∧ i = .int .i64 (k : Int) ∧ Hid (∀ e ∈ l.take k, e.1.scr.length ≤ 10000) ∧ Av wr w.heap.size 75 [.int .u32 (ver : Int), .slice A1 n1 c1, .slice A2 n2 c2, .int .u32 (lock : Int)] ∧ Below w.heap.size w wr) (fun _ i _ => n1 - (intOf i).toNat)
    case atStart => exact ⟨0, by omega, rfl, Lib.hid (by simp), heap_alloc_new _ _, (Below.refl _ _).alloc (Nat.le_refl _) _⟩
    case round =>
      obtain ⟨k, hk, rfl, hall, hav, hbw⟩ := hrel
      by_cases hlt : k < n1
      · have t4 : decide ((k : Int) < (n1 : Int)) = true := by simp; omega
        obtain ⟨e, he⟩ : ∃ e, l[k]? = some e := ⟨_, List.getElem?_eq_getElem (by rw [hn1.out]; exact hlt)⟩
        obtain ⟨b1, off, rfl⟩ := h1.adr (by rw [hn1.out]; omega)
        obtain ⟨hrng, hin⟩ := (h1.below hbw).nth k e he
        obtain ⟨i32, i33, i34⟩ := inc_at hin
        have hcl := inc_length hin
        have hone := all_of (inc_one e)
        obtain ⟨q, hq⟩ : ∃ q, e.1.scr.length = q := ⟨_, rfl⟩
        rw [hq] at i33
        obtain ⟨cs, hcs⟩ : ∃ cs, cs = inc e := ⟨_, rfl⟩
        rw [← hcs] at hrng hcl hone i33
        have m0 : 0 ≤ (k : Int) := by omega
        have m1 : (k : Int) < (n1 : Int) := by omega
        replace i33 := Lib.hid i33
        replace he := Lib.hid he
        replace hq := Lib.hid hq
        clear i32 i34 hcs hin
        by_cases hq1 : q ≤ 10000
        · have t5 : decide ((10000 : Int) < (q : Int)) = false := by simp; omega
          go_wp2_with (first
            | refine wpList_load_mid rfl _ _ rfl b1 (off + k * 35) rfl cs _ hrng Tryd.underlying101 rfl (by rw [hcl]; exact info_in) ?_
            | (refine wpList_storeAv (hbw.alloc hbw.size _) (heap_alloc_new _ _) hbw.size rfl _ _ _ rfl rfl cs rfl 35 hcl (by kernel_rfl) rfl hone ?_
               intro w3 a3 b3 k3 z3
               have cq := a3.cell 33 _ i33.out))
          refine ⟨⟨k + 1, by omega, by go_num, Lib.hid ?_, ?_, b3⟩, ?_⟩
          · intro e' he'
            rcases mem_take_succ he.out he' with h | rfl
            · exact hall.out e' h
            · rw [hq.out]; exact hq1
          · exact (hav.alloc _).same (k3 w.heap.size (by have := hav.lt; omega))
          · simp [intOf]; omega
        · have t5 : decide ((10000 : Int) < (q : Int)) = true := by simp; omega
          go_wp2_with (first
            | refine wpList_load_mid rfl _ _ rfl b1 (off + k * 35) rfl cs _ hrng Tryd.underlying101 rfl (by rw [hcl]; exact info_in) ?_
            | (refine wpList_storeAv (hbw.alloc hbw.size _) (heap_alloc_new _ _) hbw.size rfl _ _ _ rfl rfl cs rfl 35 hcl (by kernel_rfl) rfl hone ?_
               intro w3 a3 b3 k3 z3
               have cq := a3.cell 33 _ i33.out))
          go_ret
          refine ⟨?_, b3⟩
          have : b = false := by
            cases b
            · rfl
            · have := (hsane.out.1 rfl).2.1 e (List.mem_of_getElem? he.out)
              rw [hq.out] at this
              exact absurd this hq1
          rw [this]; rfl
      · obtain rfl : k = n1 := by omega
        have t4 : decide ((k : Int) < (k : Int)) = false := by simp
        have hc := hav.cell 2 _ rfl
        go_wp2
        go_loopw [6, 38] (fun _ i wr => ∃ k : Nat, k ≤ n2 ∧ i = .int .i64 (k : Int) ∧ Hid (∀ e ∈ m.take k, e.1.scr.length ≤ 10000) ∧ Below w.heap.size w wr) (fun _ i _ => n2 - (intOf i).toNat)
        case atStart => exact ⟨0, by omega, rfl, Lib.hid (by simp), hbw⟩
        case round =>
          clear hc hav hbw
          obtain ⟨j, hj, rfl, hall2, hbw⟩ := hrel
          by_cases hlt2 : j < n2
          · have t4 : decide ((j : Int) < (n2 : Int)) = true := by simp; omega
            obtain ⟨e, he⟩ : ∃ e, m[j]? = some e := ⟨_, List.getElem?_eq_getElem (by rw [hn2.out]; exact hlt2)⟩
            obtain ⟨b1, off, rfl⟩ := h2.adr (by rw [hn2.out]; omega)
            obtain ⟨hrng, hin⟩ := (h2.below hbw).nth j e he
            have hone := all_of (outc_one e)
            obtain ⟨q, hq⟩ : ∃ q, e.1.scr.length = q := ⟨_, rfl⟩
            have i33 : (outc e)[1]? = some (slv q e.2) := by rw [← hq]; rfl
            have hcl := outc_length e
            obtain ⟨cs, hcs⟩ : ∃ cs, cs = outc e := ⟨_, rfl⟩
            rw [← hcs] at hrng hone i33 hcl
            have m0 : 0 ≤ (j : Int) := by omega
            have m1 : (j : Int) < (n2 : Int) := by omega
            replace i33 := Lib.hid i33
            replace he := Lib.hid he
            replace hq := Lib.hid hq
            clear hcs hin
            by_cases hq1 : q ≤ 10000
            · have t5 : decide ((10000 : Int) < (q : Int)) = false := by simp; omega
              go_wp2_with (first
                | refine wpList_load_mid rfl _ _ rfl b1 (off + j * 2) rfl cs _ hrng Tryd.underlying104 rfl (by rw [hcl]; exact info_out) ?_
                | (refine wpList_storeAv (hbw.alloc hbw.size _) (heap_alloc_new _ _) hbw.size rfl _ _ _ rfl rfl cs rfl 2 hcl (by kernel_rfl) rfl hone ?_
                   intro w3 a3 b3 k3 z3
                   have cq := a3.cell 1 _ i33.out))
              refine ⟨⟨j + 1, by omega, by go_num, Lib.hid ?_, b3⟩, ?_⟩
              · intro e' he'
                rcases mem_take_succ he.out he' with h | rfl
                · exact hall2.out e' h
                · rw [hq.out]; exact hq1
              · simp [intOf]; omega
            · have t5 : decide ((10000 : Int) < (q : Int)) = true := by simp; omega
              go_wp2_with (first
                | refine wpList_load_mid rfl _ _ rfl b1 (off + j * 2) rfl cs _ hrng Tryd.underlying104 rfl (by rw [hcl]; exact info_out) ?_
                | (refine wpList_storeAv (hbw.alloc hbw.size _) (heap_alloc_new _ _) hbw.size rfl _ _ _ rfl rfl cs rfl 2 hcl (by kernel_rfl) rfl hone ?_
                   intro w3 a3 b3 k3 z3
                   have cq := a3.cell 1 _ i33.out))
              go_ret
              refine ⟨?_, b3⟩
              have : b = false := by
                cases b
                · rfl
                · have := (hsane.out.1 rfl).2.2 e (List.mem_of_getElem? he.out)
                  rw [hq.out] at this
                  exact absurd this hq1
              rw [this]; rfl
          · obtain rfl : j = n2 := by omega
            have t4 : decide ((j : Int) < (j : Int)) = false := by simp
            go_wp2
            go_ret
            refine ⟨?_, hbw⟩
            have : b = true := by
              refine hsane.out.2 ⟨⟨q1, q2, q3⟩, fun e he => hall.out e ?_, fun e he => hall2.out e ?_⟩
              · rw [List.take_of_length_le (by rw [hn1.out]; omega)]; exact he
              · rw [List.take_of_length_le (by rw [hn2.out]; omega)]; exact he
            rw [this]; rfl
  · have : b = false := by
      cases b
      · rfl
      · exact absurd (hsane.1 rfl).1 hnum
    subst this
    clear hsane h1 h2
    by_cases q1 : n1 < 1
    · have t1 : decide ((n1 : Int) < 1) = true := by simp; omega
      go_enter Tryd.func47, Tryd.ntmps47
      go_wp2
      go_ret
      exact ⟨rfl, (Below.refl _ _).alloc (Nat.le_refl _) _⟩
    · have t1 : decide ((n1 : Int) < 1) = false := by simp; omega
      by_cases q2 : 1000 < n1
      · have t2 : decide ((1000 : Int) < (n1 : Int)) = true := by simp; omega
        go_enter Tryd.func47, Tryd.ntmps47
        go_wp2
        go_ret
        exact ⟨rfl, (Below.refl _ _).alloc (Nat.le_refl _) _⟩
      · have t2 : decide ((1000 : Int) < (n1 : Int)) = false := by simp; omega
        have t3 : decide ((1000 : Int) < (n2 : Int)) = true := by simp; omega
        go_enter Tryd.func47, Tryd.ntmps47
        go_wp2
        go_ret
        exact ⟨rfl, (Below.refl _ _).alloc (Nat.le_refl _) _⟩
end Go.Proofs.YtobjgebojhjhnaaDoor
namespace Go.Proofs.YtobjgebojhjhnaaDoor
open Go.RowKit
set_option maxRecDepth 10000 in
set_option maxHeartbeats 1000000 in
theorem TPut1 (n : Int) (h0 : 0 ≤ n) (sz : Nat) (hsz : sz ≤ 8) (g base : Nat) (w : World) (v : Value) (bs : List UInt8) (hB : Buf w g base v bs) (hbase : base ≤ w.heap.size) (hlen : bs.length ≤ 1000000000000) :
  Calls Tryd.prog 72 #[.int .u64 n, .int .i64 (sz : Int), .pointer (some ⟨g, 0, none⟩)] w fun e w' => (∃ r, e = .returned r) ∧ ∃ v', BufTo g base w v w' v' (bs ++ Cm.lo sz n.toNat) := by
 go_enter Tryd.func72, Tryd.ntmps72
 go_wp2
 go_loopw [5, 7] (fun _ i wr => ∃ (k : Nat) (v' : Value), k ≤ sz ∧ i = .int .i64 (k : Int) ∧ BufTo g base w v wr v' (bs ++ Cm.lo k n.toNat)) (fun _ i _ => sz - (intOf i).toNat)
 case atStart => exact ⟨0, v, by omega, rfl, by simpa [Cm.lo] using hB.to⟩
 case round =>
  obtain ⟨k, v', hk, rfl, hb⟩ := hrel
  by_cases hlt : k < sz
  ·have t1 : decide ((k : Int) < (sz : Int)) = true := by simp; omega
   obtain ⟨x, hx⟩ : ∃ x, x = UInt8.ofNat (n.toNat / 256 ^ k) := ⟨_, rfl⟩
   have hby := byte_at n h0 k
   rw [← hx] at hby
   have hll : (bs ++ Cm.lo k n.toNat).length ≤ 1000000000008 := by rw [List.length_append, Cm.lo_length]; omega
   replace hx := Lib.hid hx
   obtain ⟨cs, hcs⟩ : ∃ cs, cs = bs ++ Cm.lo k n.toNat := ⟨_, rfl⟩
   rw [← hcs] at hb hll
   replace hcs := Lib.hid hcs
   have e1 : IntKind.i64.wrap (8 * (k : Int)) = 8 * (k : Int) := by rw [IntKind.wrap_i64]; omega
   have e2 : 0 ≤ 8 * (k : Int) := by omega
   have e3 : 8 * (k : Int) < 64 := by omega
   have e4 : (8 * (k : Int)).toNat = 8 * k := by omega
   go_wp2_with fail
   refine wp_region_relT 7 [(6, OneW [bv x])] Ext (by kernel_rfl) (by kernel_rfl) (by kernel_rfl) (by kernel_rfl) (by kernel_rfl) Ext.refl Ext.trans (by intro p hp v w w' hR; simp only [List.mem_singleton] at hp; subst hp; exact OneW.mono hR) ?_
   refine ZP (c := v') (fun w hw => by have := (hb.buf.av.below hw.drew).cell 0 _ rfl; go_simp; first | done | rfl) ?_
   refine ZM ?_
   refine ZM ?_
   refine ZP (fun w _ => by go_simp; first | done | rfl) ?_
   refine ZP (c := .int .u64 (n / 2 ^ (8 * k))) (fun w hw => by go_simp; first | done | rfl) ?_
   refine ZP (c := .int .u8 (x.toNat : Int)) (fun w hw => by go_simp; rw [IntKind.wrap_u8, hby]) ?_
   refine relWord _ rfl (fun w hw => fill_none rfl (relOp_yes rfl ?_)) ?_
   ·go_simp
    exact ⟨(Below.refl _ _).alloc (Nat.le_refl _) _, _, rfl, Rd.one _ _ _⟩
   refine relEnd fun w2 hw2 => fill_take rfl rfl fun u hu => fill_end ?_
   simp only [List.set_cons_succ, List.set_cons_zero, List.drop_succ_cons, List.drop_zero]
   obtain ⟨D, rfl, hrb⟩ := hu
   have hb1 := hb.below hw2.drew
   have hb2 := hb1.buf
   have hbase2 : base ≤ w2.heap.size := Nat.le_trans hbase hb1.fr.size
   go_wp2_with (at_builtin; refine wpList_appV hb2.own hbase2 (bs := [x]) 1 1 hrb rfl (by omega) rfl (.tmp 10) (.tmp 16) rfl rfl rfl ?_; intro v3 w3 o3 gr3 ob3; obtain ⟨q3, A3, c3, rfl⟩ := o3.formE; have q1 := hb2.av.same (gr3.block _ hb2.av.lt (fun e => hb2.ne e.symm)); have qc := q1.cell 0 _ rfl; have qf := frozen_of_row _ _ 0 _ _ q1)
   have hb3 := hb1.trans (hb2.app o3 gr3 ob3)
   refine ⟨⟨k + 1, .slice A3 q3 c3, by omega, by go_num, ?_⟩, ?_⟩
   ·rw [hcs.out, List.append_assoc, hx.out, ← Cm.lo_snoc] at hb3
    exact hb3
   ·simp [intOf]; omega
  ·obtain rfl : k = sz := by omega
   have t1 : decide ((k : Int) < (k : Int)) = false := by simp
   go_wp2
   go_end0
   refine ⟨⟨_, rfl⟩, v', hb⟩
set_option maxRecDepth 10000 in
set_option maxHeartbeats 1000000 in
theorem TPut2 (n : Nat) (hn : n ≤ 1000000) (g base : Nat) (w : World) (v : Value) (bs : List UInt8) (hB : Buf w g base v bs) (hbase : base ≤ w.heap.size) (hlen : bs.length ≤ 1000000000000) :
  Calls Tryd.prog 73 #[.int .i64 (n : Int), .pointer (some ⟨g, 0, none⟩)] w fun e w' => (∃ r, e = .returned r) ∧ ∃ v', BufTo g base w v w' v' (bs ++ Cm.put n) := by
 have n0 : 0 ≤ (n : Int) := by omega
 have e1 : IntKind.u64.wrap (n : Int) = (n : Int) := by rw [IntKind.wrap_u64]; omega
 obtain ⟨p, hp⟩ : ∃ p, p = Cm.put n := ⟨_, rfl⟩
 have HP := Lib.hid (fun w => compact_Put [] none 0 0 (n : Int) n0 p (by rw [hp]; rfl) w (Rd.nil _ _) rfl (by omega))
 have hpl : p.length ≤ 9 := by rw [hp, Cm.put_length]; exact (Cm.size_le n).2
 rw [← hp]
 clear hp
 obtain ⟨m, hm⟩ : ∃ m, p.length = m := ⟨_, rfl⟩
 rw [hm] at hpl
 replace hm := Lib.hid hm
 go_enter Tryd.func73, Tryd.ntmps73
 go_wp2_with fail
 refine wp_region_relT 4 [(3, SlW p)] Ext (by kernel_rfl) (by kernel_rfl) (by kernel_rfl) (by kernel_rfl) (by kernel_rfl) Ext.refl Ext.trans (by intro p hp v w w' hR; simp only [List.mem_singleton] at hp; subst hp; exact SlW.mono hR) ?_
 refine ZP (c := v) (fun w hw => by have := (hB.av.below hw.drew).cell 0 _ rfl; go_simp; first | done | rfl) ?_
 refine ZM ?_
 refine ZP (c := .int .u64 (n : Int)) (fun w _ => by go_simp; first | done | rfl) ?_
 refine relCall _ rfl rfl rfl 74 #[.slice none 0 0, .int .u64 (n : Int)] (fun w => by go_simp) (fun w hw => (HP.out w).mono ?_) ?_
 ·rintro e w' ⟨u, rfl, ho, hb⟩
  exact ⟨_, rfl, hb, SlW.own ho⟩
 refine relEnd fun w2 hw2 => fill_take rfl rfl fun u hu => fill_end ?_
 simp only [List.set_cons_succ, List.set_cons_zero, List.drop_succ_cons, List.drop_zero]
 obtain ⟨D, c, rfl, hrb⟩ := hu
 rw [hm.out]
 have hb1 := hB.to.below hw2.drew
 have hb2 := hb1.buf
 have hbase2 : base ≤ w2.heap.size := Nat.le_trans hbase hb1.fr.size
 go_wp2_with (at_builtin; refine wpList_appV hb2.own hbase2 m c hrb hm.out (by omega) rfl (.tmp 3) (.tmp 6) rfl rfl rfl ?_; intro v3 w3 o3 gr3 ob3; obtain ⟨q3, A3, c3, rfl⟩ := o3.formE; have q1 := hb2.av.same (gr3.block _ hb2.av.lt (fun e => hb2.ne e.symm)); have qc := q1.cell 0 _ rfl; have qf := frozen_of_row _ _ 0 _ _ q1)
 go_end0
 refine ⟨⟨_, rfl⟩, .slice A3 q3 c3, hb1.trans (hb2.app o3 gr3 ob3)⟩
set_option maxRecDepth 10000 in
set_option maxHeartbeats 1000000 in
theorem TPut3 (s : List UInt8) (A : Option Addr) (n c : Nat) (hs : s.length = n) (hn : n ≤ 1000000) (g6 g base : Nat) (w : World) (v : Value) (bs : List UInt8) (hr : Rd w A (s.map bv)) (hA : s ≠ [] → ∀ a, A = some a → a.block ≠ g ∧ v.ownBlock ≠ some a.block)
  (h6 : Av w g6 175 [.func (.func 73) #[] #[.pointer (some ⟨g, 0, none⟩)]]) (hB : Buf w g base v bs) (hbase : base ≤ w.heap.size) (hlen : bs.length ≤ 100000000000) :
  Calls Tryd.prog 75 #[.slice A n c, .pointer (some ⟨g6, 0, none⟩), .pointer (some ⟨g, 0, none⟩)] w fun e w' => (∃ r, e = .returned r) ∧ ∃ v', BufTo g base w v w' v' (bs ++ (Cm.put n ++ s)) := by
 have HP := Lib.hid (TPut2 n hn g base w v bs hB hbase (by omega))
 have c6 := h6.cell 0 _ rfl
 have hpl : (Cm.put n).length ≤ 9 := by rw [Cm.put_length]; exact (Cm.size_le n).2
 obtain ⟨p, hp⟩ : ∃ p, p = Cm.put n := ⟨_, rfl⟩
 rw [← hp] at HP hpl ⊢
 clear hp
 replace hs := Lib.hid hs
 go_enter Tryd.func75, Tryd.ntmps75
 go_wp2_with fail
 refine (HP.out).mono ?_
 rintro e w2 ⟨⟨r, rfl⟩, v2, hb1⟩
 have hb2 := hb1.buf
 have hbase2 : base ≤ w2.heap.size := Nat.le_trans hbase hb1.fr.size
 have hr2 : Rd w2 A (s.map bv) := by
  by_cases hs0 : s = []
  ·rw [hs0]; exact Rd.nil _ _
  ·exact hb1.fr.rd hr (fun a ha e => e.elim (hA hs0 a ha).1 (hA hs0 a ha).2)
 have cg := hb2.av.cell 0 _ rfl
 have hll : (bs ++ p).length ≤ 100000000009 := by rw [List.length_append]; omega
 clear c6 HP hpl hr hA h6 hB hbase
 go_wp2_with (at_builtin; refine wpList_appV hb2.own hbase2 n c hr2 hs.out (by omega) rfl (.tmp 8) (.tmp 9) rfl rfl rfl ?_; intro v3 w3 o3 gr3 ob3; obtain ⟨q3, A3, c3, rfl⟩ := o3.formE; have q1 := hb2.av.same (gr3.block _ hb2.av.lt (fun e => hb2.ne e.symm)); have qc := q1.cell 0 _ rfl; have qf := frozen_of_row _ _ 0 _ _ q1)
 go_end0
 refine ⟨⟨_, rfl⟩, .slice A3 q3 c3, ?_⟩
 rw [← List.append_assoc]
 exact hb1.trans (hb2.app o3 gr3 ob3)
end Go.Proofs.YtobjgebojhjhnaaDoor
