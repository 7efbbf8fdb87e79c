import Derived.Test.YtobjgebojhjhnaaDoorQr4
namespace Go.Proofs.YtobjgebojhjhnaaDoor
open Go.RowKit
structure Old where
 b : Nat
 t : TypeId
 ks : List Nat
 C : (Nat → Bool) → List Value
def Old.one (b : Nat) (t : TypeId) (k : Nat) (Z C : List Value) : Old := ⟨b, t, [k], fun f => if f k = true then C else Z⟩
def JO (Os : List Old) (listed : Array Bool) (w : World) : Prop := ∀ e ∈ Os, Av w e.b e.t (e.C fun k => listed.getD k false)
def Fo (Os : List Old) (w0 w : World) : Prop := Fr (fun k => ∃ e ∈ Os, e.b = k) w0 w
theorem RX_drew {B : Nat} {a b : World} (h : Below B a.drew b) : Below B a b := ⟨h.os, h.tape, h.output, h.size, h.block⟩
theorem Fo.av {Os : List Old} {w0 w : World} (h : Fo Os w0.drew w) {g : Nat} {t : TypeId} {l : List Value} (ha : Av w0 g t l) (hg : ∀ e ∈ Os, e.b ≠ g) : Av w g t l := Fr.av h ha.drew (fun ⟨e, he, hb⟩ => hg e he hb)
theorem Fo.nil {w0 w : World} (h : Fo [] w0.drew w) : Below w0.heap.size w0 w := Ext.drew (Fr.below h (fun k ⟨e, he, _⟩ => by cases he) (Nat.le_refl _))
theorem Fo.low {Os : List Old} {w0 w : World} (h : Fo Os w0.drew w) {B : Nat} (hB : B ≤ w0.heap.size) (hb : ∀ e ∈ Os, B ≤ e.b) : Below B w0 w := RX_drew (Fr.below h (fun k ⟨e, he, hk⟩ => by rw [← hk]; exact hb e he) hB)
def spcO (Bs : List Blk) (Os : List Old) (i : Nat) : Bool := spc Bs i || Os.any fun e => e.ks.contains i
theorem spcO_l {Bs : List Blk} {Os : List Old} {i : Nat} (h : spcO Bs Os i = false) : spc Bs i = false := (Bool.or_eq_false_iff.1 h).1
theorem find_os {Bs : List Blk} {Os : List Old} {i : Nat} (h : spcO Bs Os i = false) : (Os.find? fun e => e.ks.contains i) = none := by
 rw [List.find?_eq_none]
 intro e he hi
 have := List.any_eq_false.1 (Bool.or_eq_false_iff.1 h).2 e he
 exact this hi
def OOk (ops : Array Oper) (Bs : List Blk) (Os : List Old) : Bool :=
 Os.all fun e => e.ks.all fun k => !spc Bs k && (match ops[k]? with | some o => o.guard.isNone && o.dst.isNone | none => false) && ((Os.filter fun f => f.ks.contains k).length == 1)
structure OFacts (ops : Array Oper) (w0 : World) (Bs : List Blk) (Os : List Old) : Prop where
 spc : ∀ e ∈ Os, ∀ k ∈ e.ks, spc Bs k = false
 op : ∀ e ∈ Os, ∀ k ∈ e.ks, ∀ o, ops[k]? = some o → o.guard = none ∧ o.dst = none
 one : ∀ e ∈ Os, ∀ f ∈ Os, ∀ k, k ∈ e.ks → k ∈ f.ks → e = f
 ne : ∀ e ∈ Os, ∀ f ∈ Os, e.b = f.b → e = f
 con : ∀ e ∈ Os, ∀ f g : Nat → Bool, (∀ k ∈ e.ks, f k = g k) → e.C f = e.C g
 lt : ∀ e ∈ Os, e.b < w0.heap.size
theorem eq_of_filter_one {α : Type} {p : α → Bool} : ∀ {l : List α}, (l.filter p).length = 1 → ∀ {x y : α}, x ∈ l → y ∈ l → p x = true → p y = true → x = y := by
 intro l h x y hx hy px py
 have h1 : x ∈ l.filter p := List.mem_filter.2 ⟨hx, px⟩
 have h2 : y ∈ l.filter p := List.mem_filter.2 ⟨hy, py⟩
 match hf : l.filter p, h with
 | [z], _ => rw [hf] at h1 h2; simp at h1 h2; rw [h1, h2]
theorem pairwise_ne {α : Type} {p : α → Nat} : ∀ {l : List α}, (l.Pairwise fun e f => p e ≠ p f) → ∀ e ∈ l, ∀ f ∈ l, p e = p f → e = f
 | [], _, e, he, _, _, _ => by cases he
 | a :: l, h, e, he, f, hf, q => by
  rw [List.pairwise_cons] at h
  rcases List.mem_cons.1 he with rfl | he' <;> rcases List.mem_cons.1 hf with rfl | hf'
  ·rfl
  ·exact absurd q (h.1 f hf')
  ·exact absurd q.symm (h.1 e he')
  ·exact pairwise_ne h.2 e he' f hf' q
theorem OOk_facts {ops : Array Oper} {w : World} {Bs : List Blk} {Os : List Old} (h : OOk ops Bs Os = true) (hC : ∀ e ∈ Os, ∀ f g : Nat → Bool, (∀ k ∈ e.ks, f k = g k) → e.C f = e.C g) (hne : Os.Pairwise fun e f => e.b ≠ f.b) (h0 : ∀ e ∈ Os, Av w e.b e.t (e.C fun _ => false)) : OFacts ops w.drew Bs Os := by
 unfold OOk at h
 simp only [Bool.and_eq_true, List.all_eq_true, Bool.not_eq_true', beq_iff_eq] at h
 refine ⟨fun e he k hk => (h e he k hk).1.1, fun e he k hk o ho => ?_, fun e he f hf k hk hk' => ?_, pairwise_ne hne, hC, fun e he => (h0 e he).lt⟩
 ·have := (h e he k hk).1.2
  rw [ho] at this
  simpa using this
 ·exact eq_of_filter_one (h e he k hk).2 he hf (by simpa using hk) (by simpa using hk')
section
variable {P : Program} {ops : Array Oper} {Q : Exit → Act → World → Prop} {w0 : World} {Bs : List Blk} {Os : List Old}
theorem JB.fr {H0 i : Nat} {listed : Array Bool} {tm : Array Value} {w w' : World} (h : JB H0 Bs listed tm w) (hi : ∀ e ∈ Bs, e.ka ≠ i ∧ e.ks ≠ i) {b : Nat} (hF : Fr (fun k => k = b) w w') (hb : b < H0) : JB H0 Bs (listed.setIfInBounds i true) tm w' := by
 have k1 : ∀ e ∈ Bs, (listed.setIfInBounds i true).getD e.ka false = listed.getD e.ka false := fun e he => getD_set_ne false (Ne.symm (hi e he).1)
 have k2 : ∀ e ∈ Bs, (listed.setIfInBounds i true).getD e.ks false = listed.getD e.ks false := fun e he => getD_set_ne false (Ne.symm (hi e he).2)
 refine ⟨fun e he hl => ?_, fun e he f hf hs h1 h2 b hb => ?_⟩
 ·rw [k1 e he] at hl
  obtain ⟨c, p, q, r⟩ := h.at_ e he hl
  exact ⟨c, p, q, by rw [k2 e he]; exact hF.av r (by omega)⟩
 ·rw [k1 e he] at h1
  rw [k1 f hf] at h2
  exact h.ne e he f hf hs h1 h2 b hb
theorem JO.same {i : Nat} {listed : Array Bool} {w w' : World} (h : JO Os listed w) (G : OFacts ops w0 Bs Os) (hi : ∀ e ∈ Os, i ∉ e.ks) (hw : ∀ e ∈ Os, ∀ C, Av w e.b e.t C → Av w' e.b e.t C) : JO Os (listed.setIfInBounds i true) w' := by
 intro e he
 rw [G.con e he _ (fun k => listed.getD k false) fun k hk => getD_set_ne false (fun q => hi e he (by rw [q]; exact hk))]
 exact hw e he _ (h e he)
theorem JO.store {i : Nat} {listed : Array Bool} {w w' : World} (h : JO Os listed w) (G : OFacts ops w0 Bs Os) {e : Old} (he : e ∈ Os) (hi : i ∈ e.ks) (hl : i < listed.size) (hA : Av w' e.b e.t (e.C fun k => k == i || listed.getD k false)) (hF : Fr (fun k => k = e.b) w w') : JO Os (listed.setIfInBounds i true) w' := by
 intro f hf
 by_cases hn : f = e
 ·subst hn
  have : (fun k => (listed.setIfInBounds i true).getD k false) = fun k => k == i || listed.getD k false := by
   funext k
   by_cases hk : i = k
   ·subst hk
    rw [Array.getD_eq_getD_getElem?, Array.getElem?_setIfInBounds_self_of_lt hl]
    simp
   ·rw [getD_set_ne false hk]
    have : (k == i) = false := by simpa using Ne.symm hk
    rw [this, Bool.false_or]
  rw [this]
  exact hA
 ·rw [G.con f hf _ (fun k => listed.getD k false) fun k hk => getD_set_ne false (fun q => hn (G.one f hf e he i (by rw [q]; exact hk) hi))]
  exact hF.av (h f hf) (fun q => hn (G.ne f hf e he q))
theorem foNew {w w' : World} (h : Fo Os w0 w) {b : Nat} (hF : Fr (fun k => k = b) w w') (hb : w0.heap.size ≤ b) : Fo Os w0 w' :=
 ⟨hF.os.trans h.os, hF.tape.trans h.tape, hF.output.trans h.output, Nat.le_trans h.size hF.size, fun k hk hs => (hF.block k (Nat.lt_of_lt_of_le hk h.size) (by omega)).trans (h.block k hk hs)⟩
theorem foExt {w w' : World} (h : Fo Os w0 w) (hE : Ext w w') : Fo Os w0 w' := Fr.trans h (Below.fr hE)
theorem foAlloc {w : World} (h : Fo Os w0 w) (o : Obj) : Fo Os w0 (w.alloc o) := foExt h ((Below.refl _ _).alloc (Nat.le_refl _) _)
theorem foSize {w : World} (h : Fo Os w0 w) : w0.heap.size ≤ w.heap.size := h.size
theorem foOld {w w' : World} (h : Fo Os w0 w) {e : Old} (hF : Fr (fun k => k = e.b) w w') (he : e ∈ Os) : Fo Os w0 w' := Fr.trans h (Fr.weaken hF fun _ _ hk => ⟨e, he, hk.symm⟩)
theorem spc_ks {e : Blk} (he : e ∈ Bs) {i : Nat} (h : e.ks = i) : spc Bs i = true := List.any_eq_true.2 ⟨e, he, by simp [h]⟩
theorem spc_ka {e : Blk} (he : e ∈ Bs) {i : Nat} (h : e.ka = i) : spc Bs i = true := List.any_eq_true.2 ⟨e, he, by simp [h]⟩
def JN (ops : Array Oper) (Os : List Old) (i : Nat) (w : World) : Prop := ∀ e ∈ Os, ∃ f : Nat → Bool, (∀ k o, ops[k]? = some o → depOn o i = true → f k = false) ∧ Av w e.b e.t (e.C f)
def OOb (P : Program) (ops : Array Oper) (w0 : World) (Bs : List Blk) (Os : List Old) (c : Nat → Value) (j : Nat) (o : Oper) (a : Act) : Prop :=
 match Bs.find? fun e => e.ks == j with
 | some e => ∀ w, Fo Os w0 w → fillL ops (lookOn ops o) w (fun a' => ∀ b, a'.tmps[e.s]? = some (.pointer (some ⟨b, 0, none⟩)) → Av w b e.t e.Z → ∃ w', (execOp a'.eval o).run P w = .ok .skip w' ∧ Av w' b e.t e.C ∧ Fr (fun k => k = b) w w') (BL Bs) a
 | none => match Bs.find? fun e => e.ka == j with
  | some e => ∀ (ρ : Operand → Value) w, (execOp ρ o).run P w = .ok (.value (.pointer (some ⟨w.heap.size, 0, none⟩))) (w.alloc (.cells e.Z.toArray e.t (0, 0)))
  | none => match Os.find? fun e => e.ks.contains j with
   | some e => ∀ w, Fo Os w0 w → fillL ops (lookOn ops o) w (fun a' => ∀ f : Nat → Bool, f j = false → Av w e.b e.t (e.C f) → ∃ w', (execOp a'.eval o).run P w = .ok .skip w' ∧ Av w' e.b e.t (e.C fun k => k == j || f k) ∧ Fr (fun k => k = e.b) w w') (BL Bs) a
   | none => ∀ w, Fo Os w0 w → JN ops Os j w → fillL ops (lookOn ops o) w (fun a' => relOp P ops Ext o a' w (fun u _ => u = c j)) (BL Bs) a
def relWalkO (P : Program) (ops : Array Oper) (w0 : World) (Bs : List Blk) (Os : List Old) (Q : Exit → Act → World → Prop) : Nat → List Oper → Act → Prop
 | _, [], a => ∀ w, Fo Os w0 w → fillL ops (fun _ => true) w (fun a' => Q .normal a' w) (BL Bs) a
 | i, o :: rest, a => match Bs.find? fun e => e.ks == i with
  | some e => (∀ w, Fo Os w0 w → fillL ops (lookOn ops o) w (fun a' => ∀ b, a'.tmps[e.s]? = some (.pointer (some ⟨b, 0, none⟩)) → Av w b e.t e.Z → ∃ w', (execOp a'.eval o).run P w = .ok .skip w' ∧ Av w' b e.t e.C ∧ Fr (fun k => k = b) w w') (BL Bs) a) ∧ o.dst = none ∧ relWalkO P ops w0 Bs Os Q (i + 1) rest a
  | none => match Bs.find? fun e => e.ka == i with
   | some e => (∀ (ρ : Operand → Value) w, (execOp ρ o).run P w = .ok (.value (.pointer (some ⟨w.heap.size, 0, none⟩))) (w.alloc (.cells e.Z.toArray e.t (0, 0)))) ∧ relWalkO P ops w0 Bs Os Q (i + 1) rest a
   | none => match Os.find? fun e => e.ks.contains i with
    | some e => (∀ w, Fo Os w0 w → fillL ops (lookOn ops o) w (fun a' => ∀ f : Nat → Bool, f i = false → Av w e.b e.t (e.C f) → ∃ w', (execOp a'.eval o).run P w = .ok .skip w' ∧ Av w' e.b e.t (e.C fun k => k == i || f k) ∧ Fr (fun k => k = e.b) w w') (BL Bs) a) ∧ o.dst = none ∧ relWalkO P ops w0 Bs Os Q (i + 1) rest a
    | none => ∃ c, (∀ w, Fo Os w0 w → JN ops Os i w → fillL ops (lookOn ops o) w (fun a' => relOp P ops Ext o a' w (fun v _ => v = c)) (BL Bs) a) ∧ relWalkO P ops w0 Bs Os Q (i + 1) rest (a.put o.dst c)
theorem relWalk_specO (F : BFacts ops ops.size Bs) (a0 : Act) : ∀ (rest : List Oper) (i : Nat) (a : Act), (∀ k, k < rest.length → rest[k]? = ops[i + k]?) → relWalkO P ops w0 Bs Os Q i rest a → ∀ c0 : Nat → Value, a = cf ops (BL Bs) c0 a0 i →
  ∃ c : Nat → Value, (∀ j, j < i → c j = c0 j) ∧ (∀ j o, i ≤ j → j < i + rest.length → ops[j]? = some o → OOb P ops w0 Bs Os c j o (cf ops (BL Bs) c a0 j)) ∧
   (∀ w, Fo Os w0 w → fillL ops (fun _ => true) w (fun a' => Q .normal a' w) (BL Bs) (cf ops (BL Bs) c a0 (i + rest.length))) := by
 have congr : ∀ (c d : Nat → Value) (i : Nat), (∀ j, j < i → c j = d j) → cf ops (BL Bs) c a0 i = cf ops (BL Bs) d a0 i := by
  intro c d i
  induction i with
  | zero => intro _; rfl
  | succ i ih =>
   intro h
   simp only [cf]
   rw [ih fun j hj => h j (by omega), h i (by omega)]
 intro rest
 induction rest with
 | nil =>
  intro i a hr h c0 ha
  subst ha
  exact ⟨c0, fun _ _ => rfl, fun j o hj hj2 ho => by simp at hj2; omega, fun w hw => h w hw⟩
 | cons o rest ih =>
  intro i a hr h c0 ha
  have ho : ops[i]? = some o := (hr 0 (by simp)).symm
  have hr' : ∀ k, k < rest.length → rest[k]? = ops[i + 1 + k]? := fun k hk => by
   have := hr (k + 1) (by simpa using hk)
   rw [List.getElem?_cons_succ] at this
   rw [this]
   congr 1
   omega
  have hd : dstAt ops i = o.dst := by simp [dstAt, ho]
  unfold relWalkO at h
  have same : ∀ (c : Nat → Value), (∀ j, j < i → c j = c0 j) → cf ops (BL Bs) c a0 i = a := fun c hc => (congr c c0 i hc).trans ha.symm
  have shift : ∀ (c : Nat → Value), cf ops (BL Bs) c a0 (i + 1 + rest.length) = cf ops (BL Bs) c a0 (i + (o :: rest).length) := fun c => by rw [List.length_cons, show i + (rest.length + 1) = i + 1 + rest.length by omega]
  cases hk : Bs.find? (fun e => e.ks == i) with
  | some e =>
   rw [hk] at h
   obtain ⟨h1, h2, h3⟩ := h
   have heB := List.mem_of_find?_eq_some hk
   have hei : e.ks = i := by simpa using List.find?_some hk
   have hl : (BL Bs).lookup i = none := BL_none fun f hf q => F.cross f hf e heB (by omega)
   obtain ⟨c, hc, hob, hfin⟩ := ih (i + 1) _ hr' h3 c0 (by
    simp only [cf, hl, hd, h2]
    exact ha)
   refine ⟨c, fun j hj => hc j (by omega), fun j o' hj hj2 ho' => ?_, by rw [← shift]; exact hfin⟩
   by_cases hji : j = i
   ·subst hji
    rw [ho] at ho'
    injection ho' with ho'
    subst ho'
    unfold OOb
    rw [hk, same c fun k hk => hc k (by omega)]
    exact h1
   ·exact hob j o' (by omega) (by rw [List.length_cons] at hj2; omega) ho'
  | none =>
   rw [hk] at h
   dsimp only at h
   cases hq : Bs.find? (fun e => e.ka == i) with
   | some e =>
    rw [hq] at h
    obtain ⟨h1, h3⟩ := h
    have heB := List.mem_of_find?_eq_some hq
    have hei : e.ka = i := by simpa using List.find?_some hq
    obtain ⟨phi, hl⟩ : ∃ phi, (BL Bs).lookup i = some phi := Option.ne_none_iff_exists'.1 (by rw [← hei]; exact BL_lookup heB)
    obtain ⟨c, hc, hob, hfin⟩ := ih (i + 1) _ hr' h3 c0 (by
     simp only [cf, hl]
     exact ha)
    refine ⟨c, fun j hj => hc j (by omega), fun j o' hj hj2 ho' => ?_, by rw [← shift]; exact hfin⟩
    by_cases hji : j = i
    ·subst hji
     rw [ho] at ho'
     injection ho' with ho'
     subst ho'
     unfold OOb
     rw [hk, hq]
     exact h1
    ·exact hob j o' (by omega) (by rw [List.length_cons] at hj2; omega) ho'
   | none =>
    rw [hq] at h
    dsimp only at h
    have hl : (BL Bs).lookup i = none := BL_none fun f hf q => by
     have := List.find?_eq_none.1 hq f hf
     simp [q] at this
    cases hz : Os.find? (fun e => e.ks.contains i) with
    | some e =>
     rw [hz] at h
     obtain ⟨h1, h2, h3⟩ := h
     obtain ⟨c, hc, hob, hfin⟩ := ih (i + 1) _ hr' h3 c0 (by
      simp only [cf, hl, hd, h2]
      exact ha)
     refine ⟨c, fun j hj => hc j (by omega), fun j o' hj hj2 ho' => ?_, by rw [← shift]; exact hfin⟩
     by_cases hji : j = i
     ·subst hji
      rw [ho] at ho'
      injection ho' with ho'
      subst ho'
      unfold OOb
      rw [hk, hq, hz]
      dsimp only
      rw [same c fun k hk => hc k (by omega)]
      exact h1
     ·exact hob j o' (by omega) (by rw [List.length_cons] at hj2; omega) ho'
    | none =>
     rw [hz] at h
     obtain ⟨v, h1, h3⟩ := h
     have e1 : cf ops (BL Bs) (fun j => if j = i then v else c0 j) a0 i = cf ops (BL Bs) c0 a0 i := congr _ _ _ fun j hj => if_neg (by omega)
     obtain ⟨c, hc, hob, hfin⟩ := ih (i + 1) _ hr' h3 (fun j => if j = i then v else c0 j) (by
      simp only [cf, hl, if_pos, hd]
      rw [e1, ← ha])
     have hcv : c i = v := (hc i (by omega)).trans (if_pos rfl)
     refine ⟨c, fun j hj => (hc j (by omega)).trans (if_neg (by omega)), fun j o' hj hj2 ho' => ?_, by rw [← shift]; exact hfin⟩
     by_cases hji : j = i
     ·subst hji
      rw [ho] at ho'
      injection ho' with ho'
      subst ho'
      unfold OOb
      rw [hk, hq, hz]
      dsimp only
      rw [same c fun k hk => (hc k (by omega)).trans (if_neg (by omega)), hcv]
      exact h1
     ·exact hob j o' (by omega) (by rw [List.length_cons] at hj2; omega) ho'
theorem relO_any {c : Nat → Value} {a0 : Act} (hB : relB ops ((BL Bs).map (·.1)) = true) (hrange : ∀ j t, dstAt ops j = some t → t < a0.tmps.size)
  (hob : ∀ j o, ops[j]? = some o → OOb P ops w0 Bs Os c j o (cf ops (BL Bs) c a0 j))
  (hW : BOk ops ops.size Bs = true) (G : OFacts ops w0 Bs Os)
  (hfin : ∀ w, Fo Os w0 w → fillL ops (fun _ => true) w (fun a' => JB w0.heap.size Bs (Array.replicate ops.size true) a'.tmps w → JO Os (Array.replicate ops.size true) w → Q .normal a' w) (BL Bs) (cf ops (BL Bs) c a0 ops.size)) :
  ∀ (fuel : Nat) (listed : Array Bool) (a : Act) (w : World) (U : List Nat), U.length ≤ fuel → (∀ i, i < ops.size → listed.getD i false = false → i ∈ U) → RelInv ops (Fo Os) w0 (BL Bs) c a0 listed a w → JB w0.heap.size Bs listed a.tmps w → JO Os listed w → wpAny P .any ops Q fuel listed a w := by
 obtain ⟨hB1, hnd, hks⟩ := relB_spec hB
 have F := BOk_facts hW
 have huniq : ∀ j t, dstAt ops j = some t → ∀ k, k ≠ j → dstAt ops k ≠ some t := by
  intro j t hj k hk
  cases ho : ops[j]? with
  | none => simp [dstAt, ho] at hj
  | some o => exact (hB1 j o ho).2.2.1 k t (by simpa [dstAt, ho] using hj) hk
 have hlt : ∀ j t, dstAt ops j = some t → j < ops.size := by
  intro j t hj
  rcases Nat.lt_or_ge j ops.size with h | h
  ·exact h
  ·simp [dstAt, Array.getElem?_eq_none h] at hj
 have theEnd : ∀ (listed : Array Bool) (a : Act) (w : World), RelInv ops (Fo Os) w0 (BL Bs) c a0 listed a w → JB w0.heap.size Bs listed a.tmps w → JO Os listed w → (∀ i, i < ops.size → listed.getD i false = true) → Q .normal a w := by
  intro listed a w hI hX hY hall
  have hrep : listed = Array.replicate ops.size true := by
   refine Array.ext (by simp [hI.lsize]) fun i h1 h2 => ?_
   have := hall i (by rw [← hI.lsize]; exact h1)
   rw [Array.getD_eq_getD_getElem?, Array.getElem?_eq_getElem h1] at this
   simpa using this
  have h1 := fillL_at (fun j => a.tmps.getD ((dstAt ops j).getD 0) undef) (BL Bs) _ (hfin w hI.ext) (fun p hp _ => rel_vals hnd hrange hks hI p hp (hall _ (hks _ (List.mem_map.2 ⟨p, hp, rfl⟩)).1))
  have e : fillA ops (fun _ => true) (fun j => a.tmps.getD ((dstAt ops j).getD 0) undef) (BL Bs) (cf ops (BL Bs) c a0 ops.size) = a := by
   have hd : (fillA ops (fun _ => true) (fun j => a.tmps.getD ((dstAt ops j).getD 0) undef) (BL Bs) (cf ops (BL Bs) c a0 ops.size)).defers = a.defers := by
    rw [fillA_defers, cf_defers, hI.defers]
   have ht : (fillA ops (fun _ => true) (fun j => a.tmps.getD ((dstAt ops j).getD 0) undef) (BL Bs) (cf ops (BL Bs) c a0 ops.size)).tmps = a.tmps :=
    Array.ext_getElem? fun t => rel_agree hnd hrange huniq hI (fun _ => true) ops.size t fun j hj => .inl ⟨hall j (hlt j t hj), hlt j t hj, rfl⟩
   cases hx : fillA ops (fun _ => true) (fun j => a.tmps.getD ((dstAt ops j).getD 0) undef) (BL Bs) (cf ops (BL Bs) c a0 ops.size)
   rw [hx] at hd ht
   cases a
   simp_all
  rw [e] at h1
  rw [hrep] at hX hY
  exact h1 hX hY
 have noReady : ∀ (listed : Array Bool), listed.size = ops.size → Region.ready .any ops listed = [] → ∀ i, i < ops.size → listed.getD i false = true := by
  intro listed hsz hr i
  induction i using Nat.strongRecOn with
  | ind i ih =>
   intro hi
   cases hl : listed.getD i false with
   | true => rfl
   | false =>
    have : i ∈ Region.ready .any ops listed := by
     rw [mem_ready]
     refine ⟨?_, ops[i], Array.getElem?_eq_getElem hi, fun e he hb => ?_⟩
     ·rw [Array.getD_eq_getD_getElem?] at hl ⊢
      rw [Array.getElem?_eq_getElem (by omega)] at hl ⊢
      exact hl
     ·have := (hB1 i _ (Array.getElem?_eq_getElem hi)).2.1 e he hb
      exact ih e.on this (by omega)
    rw [hr] at this
    cases this
 intro fuel
 induction fuel with
 | zero =>
  intro listed a w U hU hin hI hX hY
  have hall : ∀ i, i < ops.size → listed.getD i false = true := by
   intro i hi
   cases hl : listed.getD i false with
   | true => rfl
   | false =>
    have := hin i hi hl
    have hU0 : U = [] := List.eq_nil_of_length_eq_zero (by omega)
    rw [hU0] at this
    cases this
  refine ⟨?_, theEnd listed a w hI hX hY hall⟩
  rw [List.eq_nil_iff_forall_not_mem]
  intro i hi
  rw [mem_ready] at hi
  obtain ⟨h0, o, ho, _⟩ := hi
  have := hall i (Array.getElem?_eq_some_iff.1 ho).1
  rw [getD_false_of_true h0] at this
  cases this
 | succ fuel ih =>
  intro listed a w U hU hin hI hX hY
  refine ⟨fun hr => theEnd listed a w hI hX hY (noReady listed hI.lsize hr), fun i hi => ?_⟩
  rw [mem_ready] at hi
  obtain ⟨h0, o, ho, hall⟩ := hi
  have hiu := getD_false_of_true h0
  have hilt := (Array.getElem?_eq_some_iff.1 ho).1
  obtain ⟨hsel, hearly, _, hlooks⟩ := hB1 i o ho
  have hdst : dstAt ops i = o.dst := by simp [dstAt, ho]
  have hag : ∀ t ∈ o.looksAt ops, a.tmps[t]? = (fillA ops (lookOn ops o) (fun j => a.tmps.getD ((dstAt ops j).getD 0) undef) (BL Bs) (cf ops (BL Bs) c a0 i)).tmps[t]? := by
   intro t ht
   symm
   refine rel_agree hnd hrange huniq hI (lookOn ops o) i t fun j hj => ?_
   have hjlt := hlt j t hj
   have hoj := Array.getElem?_eq_getElem hjlt
   rcases hlooks t ht j _ hoj (by simpa [dstAt, hoj] using hj) with ⟨h1, h2⟩ | h1 | ⟨h1, h2⟩
   ·obtain ⟨e, he, hb, hon⟩ := depOn_mem h2
    have := hall e he hb
    rw [hon] at this
    exact .inl ⟨this, h1, by unfold lookOn; rw [h2, hj]; simpa using ht⟩
   ·subst h1
    refine .inr ⟨hiu, Nat.le_refl _, ?_⟩
    unfold lookOn
    cases hD : depOn o j with
    | false => rfl
    | true =>
     obtain ⟨e, he, hb, hon⟩ := depOn_mem hD
     have := hearly e he hb
     omega
   ·refine .inr ⟨?_, by omega, ?_⟩
    ·cases hl : listed.getD j false with
     | false => rfl
     | true =>
      obtain ⟨e, he, hb, hon⟩ := depOn_mem h2
      have := hI.shut j _ hoj hl e he hb
      rw [hon, hiu] at this
      cases this
    ·unfold lookOn
     cases hD : depOn o j with
     | false => rfl
     | true =>
      obtain ⟨e, he, hb, hon⟩ := depOn_mem hD
      have := hearly e he hb
      omega
  have next : ∀ v w', Fo Os w0 w' → JB w0.heap.size Bs (listed.setIfInBounds i true) (a.put o.dst v).tmps w' → JO Os (listed.setIfInBounds i true) w' → ((BL Bs).lookup i = none → o.dst ≠ none → v = c i) → wpAny P .any ops Q fuel (listed.setIfInBounds i true) (a.put o.dst v) w' := by
   intro v w' hR hXn hYn hok
   have hset : ∀ j, (listed.setIfInBounds i true).getD j false = true → listed.getD j false = true ∨ j = i := by
    intro j hj
    by_cases hji : i = j
    ·exact .inr hji.symm
    ·rw [getD_set_ne false hji] at hj
     exact .inl hj
   refine ih _ _ _ (U.erase i) ?_ ?_ ⟨by simp [hI.lsize], by rw [put_tmps_size, hI.size], by rw [put_defers, hI.defers], hR, ?_, ?_, ?_, ?_⟩ hXn hYn
   ·have := List.length_erase_of_mem (hin i hilt hiu)
    omega
   ·intro k hk hkl
    have hki : i ≠ k := by
     rintro rfl
     rw [Array.getD_eq_getD_getElem?, Array.getElem?_setIfInBounds_self_of_lt (by rw [hI.lsize]; exact hilt)] at hkl
     cases hkl
    rw [getD_set_ne false hki] at hkl
    exact (List.mem_erase_of_ne (Ne.symm hki)).2 (hin k hk hkl)
   ·intro k ok hok' hkl e he hb
    rcases hset k hkl with h | h
    ·exact getD_set_true (hI.shut k ok hok' h e he hb)
    ·subst h
     rw [ho] at hok'
     injection hok' with hok'
     subst hok'
     exact getD_set_true (hall e he hb)
   ·intro j t hj ht hjl hlk
    by_cases hji : j = i
    ·subst hji
     rw [hdst] at hj
     rw [hj, put_get_same _ _ _ (by rw [hI.size]; exact ht)]
     exact congrArg some (hok hlk (by rw [hj]; simp))
    ·rw [put_get_ne _ _ _ _ (fun e => huniq j t hj i (Ne.symm hji) (hdst.trans e))]
     exact hI.one j t hj ht ((hset j hjl).resolve_right hji) hlk
   ·intro j t phi hj ht hjl hlk
    by_cases hji : j = i
    ·subst hji
     rw [hdst] at hj
     rw [hj, put_get_same _ _ _ (by rw [hI.size]; exact ht)]
     exact ⟨v, rfl, BL_word hlk v w'⟩
    ·rw [put_get_ne _ _ _ _ (fun e => huniq j t hj i (Ne.symm hji) (hdst.trans e))]
     obtain ⟨u, hu, hphi⟩ := hI.word j t phi hj ht ((hset j hjl).resolve_right hji) hlk
     exact ⟨u, hu, BL_word hlk u w'⟩
   ·intro t ht
    have hi1 : (listed.setIfInBounds i true).getD i false = true := by
     rw [Array.getD_eq_getD_getElem?, Array.getElem?_setIfInBounds_self_of_lt (by rw [hI.lsize]; exact hilt)]
     rfl
    rw [put_get_ne _ _ _ _ (fun e => ht i hi1 (hdst.trans e))]
    exact hI.old t fun j hj => ht j (getD_set_true hj)
  have hobi := hob i o ho
  unfold OOb at hobi
  unfold wpOp
  rw [ho]
  dsimp only
  cases hks2 : Bs.find? (fun e => e.ks == i) with
  | some e =>
   rw [hks2] at hobi
   dsimp only at hobi
   have heB := List.mem_of_find?_eq_some hks2
   have hei : e.ks = i := by simpa using List.find?_some hks2
   obtain ⟨g0, d0, dep, hlook⟩ := F.sto e heB (by rw [hei]; exact hilt) o (by rw [hei]; exact ho)
   have hkal : listed.getD e.ka false = true := by
    obtain ⟨x, hx, hb, hon⟩ := depOn_mem dep
    have := hall x hx hb
    rwa [hon] at this
   obtain ⟨b, hb1, hb2, hb3⟩ := hX.at_ e heB hkal
   rw [hei, hiu, if_neg (by simp)] at hb3
   have h1 := fillL_at (fun j => a.tmps.getD ((dstAt ops j).getD 0) undef) (BL Bs) _ (hobi w hI.ext) (fun p hp _ => BL_vals (fun j => a.tmps.getD ((dstAt ops j).getD 0) undef) w p hp)
   obtain ⟨w', hr, hA, hFr⟩ := h1 b (by rw [← hag e.s hlook]; exact hb1) hb3
   have hev : execOp (fillA ops (lookOn ops o) (fun j => a.tmps.getD ((dstAt ops j).getD 0) undef) (BL Bs) (cf ops (BL Bs) c a0 i)).eval o = execOp a.eval o := execOp_congr o hsel fun x hx => by
    cases x with
    | tmp t =>
     have ht : t ∈ o.looksAt ops := List.mem_append_left _ (List.mem_filterMap.2 ⟨.tmp t, by simpa using hx, rfl⟩)
     simp only [Act.eval, Array.getD_eq_getD_getElem?, hag t ht]
    | const v => rfl
    | global g => rfl
    | func f => rfl
   rw [hev] at hr
   have hw : Region.wanted o (yielded ops a.tmps) = true := by
    unfold Region.wanted
    rw [g0]
   rw [if_pos hw]
   refine .inl ?_
   unfold Oper.wp
   rw [hr]
   refine next undef w' (foNew hI.ext hFr hb2) ?_ (hY.same G (fun f hf hk => by have := G.spc f hf i hk; rw [spc_ks heB hei] at this; cases this) (fun f hf C hC => hFr.av hC (fun q => by have := G.lt f hf; omega))) (fun _ hd => absurd d0 hd)
   have : (a.put o.dst undef).tmps = a.tmps := by rw [d0]; rfl
   rw [this]
   exact hX.store F heB hei (by rw [hI.lsize]; exact hilt) hilt hkal hb1 hA hFr
  | none =>
   rw [hks2] at hobi
   dsimp only at hobi
   have hnk : ∀ f ∈ Bs, f.ks ≠ i := fun f hf q => by
    have := List.find?_eq_none.1 hks2 f hf
    simp [q] at this
   cases hka2 : Bs.find? (fun e => e.ka == i) with
   | some e =>
    rw [hka2] at hobi
    dsimp only at hobi
    have heB := List.mem_of_find?_eq_some hka2
    have hei : e.ka = i := by simpa using List.find?_some hka2
    have hde : o.dst = some e.s := by
     have := F.dst e heB
     rw [hei, hdst] at this
     exact this
    have hw : Region.wanted o (yielded ops a.tmps) = true := by
     unfold Region.wanted
     rw [F.grd e heB o (by rw [hei]; exact ho)]
    rw [if_pos hw]
    refine .inl ?_
    unfold Oper.wp
    rw [hobi a.eval w]
    have hno : listed.getD e.ks false = false := by
     rcases Nat.lt_or_ge e.ks ops.size with hlt2 | hge
     ·cases hl2 : listed.getD e.ks false with
      | false => rfl
      | true =>
       have ho2 := Array.getElem?_eq_getElem hlt2
       obtain ⟨_, _, dep, _⟩ := F.sto e heB hlt2 _ ho2
       obtain ⟨x, hx, hb, hon⟩ := depOn_mem dep
       have := hI.shut e.ks _ ho2 hl2 x hx hb
       rw [hon, hei, hiu] at this
       cases this
     ·rw [Array.getD_eq_getD_getElem?, Array.getElem?_eq_none (by rw [hI.lsize]; exact hge)]
      rfl
    refine next _ _ (foAlloc hI.ext _) ?_ (hY.same G (fun f hf hk => by have := G.spc f hf i hk; rw [spc_ka heB hei] at this; cases this) (fun f hf C hC => hC.alloc _)) (fun hl2 _ => absurd hl2 (by rw [← hei]; exact BL_lookup heB))
    rw [hde]
    exact hX.alloc F heB hei hno (by rw [hI.lsize]; exact hilt) (by rw [hI.size]; exact hrange i e.s (by rw [hdst]; exact hde)) (foSize hI.ext)
   | none =>
    rw [hka2] at hobi
    dsimp only at hobi
    have hna : ∀ f ∈ Bs, f.ka ≠ i := fun f hf q => by
     have := List.find?_eq_none.1 hka2 f hf
     simp [q] at this
    cases hos2 : Os.find? (fun e => e.ks.contains i) with
    | some e =>
     rw [hos2] at hobi
     dsimp only at hobi
     have heO := List.mem_of_find?_eq_some hos2
     have hei : i ∈ e.ks := by simpa using List.find?_some hos2
     obtain ⟨g0, d0⟩ := G.op e heO i hei o ho
     have h1 := fillL_at (fun j => a.tmps.getD ((dstAt ops j).getD 0) undef) (BL Bs) _ (hobi w hI.ext) (fun p hp _ => BL_vals (fun j => a.tmps.getD ((dstAt ops j).getD 0) undef) w p hp)
     obtain ⟨w', hr, hA, hFr⟩ := h1 (fun k => listed.getD k false) hiu (hY e heO)
     have hev : execOp (fillA ops (lookOn ops o) (fun j => a.tmps.getD ((dstAt ops j).getD 0) undef) (BL Bs) (cf ops (BL Bs) c a0 i)).eval o = execOp a.eval o := execOp_congr o hsel fun x hx => by
      cases x with
      | tmp t =>
       have ht : t ∈ o.looksAt ops := List.mem_append_left _ (List.mem_filterMap.2 ⟨.tmp t, by simpa using hx, rfl⟩)
       simp only [Act.eval, Array.getD_eq_getD_getElem?, hag t ht]
      | const v => rfl
      | global g => rfl
      | func f => rfl
     rw [hev] at hr
     have hw : Region.wanted o (yielded ops a.tmps) = true := by
      unfold Region.wanted
      rw [g0]
     rw [if_pos hw]
     refine .inl ?_
     unfold Oper.wp
     rw [hr]
     have ht : (a.put o.dst undef).tmps = a.tmps := by rw [d0]; rfl
     refine next undef w' (foOld hI.ext hFr heO) (by rw [ht]; exact hX.fr (fun f hf => ⟨hna f hf, hnk f hf⟩) hFr (G.lt e heO)) (hY.store G heO hei (by rw [hI.lsize]; exact hilt) hA hFr) (fun _ hd => absurd d0 hd)
    | none =>
     rw [hos2] at hobi
     dsimp only at hobi
     have hfn : ∀ k o', ops[k]? = some o' → depOn o' i = true → listed.getD k false = false := fun k o' hk hd => by
      cases hl : listed.getD k false with
      | false => rfl
      | true =>
       obtain ⟨x, hx, hb, hon⟩ := depOn_mem hd
       have := hI.shut k o' hk hl x hx hb
       rw [hon, hiu] at this
       cases this
     have hJN : JN ops Os i w := fun e he => ⟨fun k => listed.getD k false, hfn, hY e he⟩
     have hop : relOp P ops Ext o a w (fun u _ => u = c i) := relOp_same hsel (fun t ht => (hag t ht).symm) (fillL_at (fun j => a.tmps.getD ((dstAt ops j).getD 0) undef) (BL Bs) _ (hobi w hI.ext hJN) (fun p hp _ => BL_vals (fun j => a.tmps.getD ((dstAt ops j).getD 0) undef) w p hp))
     have go : ∀ v w', Ext w w' → v = c i → wpAny P .any ops Q (fuel) (listed.setIfInBounds i true) (a.put o.dst v) w' := fun v w' h1 h2 =>
      next v w' (foExt hI.ext h1) (hX.normal (fun f hf => ⟨hna f hf, hnk f hf⟩) (fun f hf q => huniq f.ka f.s (F.dst f hf) i (fun q => hna f hf q.symm) (hdst.trans q)) h1 v) (hY.same G (fun f hf hk => by have := List.find?_eq_none.1 hos2 f hf; simp [hk] at this) (fun f hf C hC => hC.below h1)) (fun _ _ => h2)
     unfold relOp at hop
     by_cases hw : Region.wanted o (yielded ops a.tmps) = true
     ·rw [if_pos hw] at hop ⊢
      refine .inl ?_
      unfold Oper.wp
      generalize (execOp a.eval o).run P w = r at hop ⊢
      cases r with
      | halt x w' => exact hop.elim
      | ok nx w' =>
       cases nx with
       | value v => exact go v w' hop.1 hop.2
       | skip => exact go undef w' hop.1 hop.2
       | enter f args =>
        refine Calls.mono hop ?_
        rintro e w'' ⟨v, rfl, h1, h2⟩
        exact go v w'' h1 h2
       | _ => exact hop.elim
     ·rw [if_neg hw] at hop ⊢
      exact go undef w (Ext.refl w) hop
theorem wp_region_relO {id : Nat} {a : Act} {w : World} {l : List Oper} (Bs : List Blk) (Os : List Old) (hm : P.follows .mixedOrders = true) (hB : relB l.toArray ((BL Bs).map (·.1)) = true)
  (hrange : l.all (fun o => match o.dst with | some d => decide (d < a.tmps.size) | none => true) = true)
  (hW : BOk l.toArray l.toArray.size Bs = true) (hS : OOk l.toArray Bs Os = true) (hC : ∀ e ∈ Os, ∀ f g : Nat → Bool, (∀ k ∈ e.ks, f k = g k) → e.C f = e.C g) (hne : Os.Pairwise fun e f => e.b ≠ f.b) (h0 : ∀ e ∈ Os, Av w e.b e.t (e.C fun _ => false))
  (h : relWalkO P l.toArray w.drew Bs Os (fun x a' w' => JB w.heap.size Bs (Array.replicate l.length true) a'.tmps w' → JO Os (Array.replicate l.length true) w' → Q x a' w') 0 l a) : (Code.region id l.toArray true).wp P Q a w := by
 obtain ⟨c, _, hob, hfin⟩ := relWalk_specO (BOk_facts hW) a l 0 a (fun k => by simp) h (fun _ => undef) rfl
 refine wp_region_any hm (relO_any (c := c) (a0 := a) hB (fun j t hj => ?_) (fun j o ho => hob j o (Nat.zero_le _) (by have := (Array.getElem?_eq_some_iff.1 ho).1; simpa using this) ho) hW (OOk_facts hS hC hne h0) (by simpa using hfin) l.toArray.size _ a _ (List.range l.toArray.size) (by simp) (fun i hi _ => List.mem_range.2 hi) ?_ ?_ ?_)
 ·rw [List.all_eq_true] at hrange
  cases ho : l[j]? with
  | none => simp [dstAt, ho] at hj
  | some o =>
   have := hrange o (List.mem_of_getElem? ho)
   have hd : o.dst = some t := by simpa [dstAt, ho] using hj
   rw [hd] at this
   simpa using this
 all_goals
  have hnone : ∀ j, ¬ (Array.replicate l.toArray.size false).getD j false = true := by
   intro j
   rw [Array.getD_eq_getD_getElem?, Array.getElem?_replicate]
   split <;> simp
 ·exact ⟨by simp, rfl, rfl, Fr.refl _ _, fun i o _ hl => absurd hl (hnone i), fun j t _ _ hl => absurd hl (hnone j), fun j t phi _ _ hl => absurd hl (hnone j), fun t _ => rfl⟩
 ·exact ⟨fun e _ hl => absurd hl (hnone e.ka), fun e _ f _ _ hl => absurd hl (hnone e.ka)⟩
 ·intro e he
  have : (fun k => (Array.replicate l.toArray.size false).getD k false) = fun _ => false := by
   funext k
   have := hnone k
   simpa using this
  rw [this]
  exact h0 e he
variable {i : Nat} {o : Oper} {rest : List Oper} {l l' : List Value} {d : List Deferred}
theorem oC (hL : spcO Bs Os i = false) (hD : ((BL Bs).all fun p => !lookOn ops o p.1) = true) (hw : okG ops o l = some true) {t : Nat} (ht : o.dst = some t) {c : Value}
  (h : ∀ w, Fo Os w0 w → relRes P Ext w (fun v _ => v = c) ((execOp (Act.eval ⟨l.toArray, d⟩) o).run P w)) (hl : l.set t c = l') (k : relWalkO P ops w0 Bs Os Q (i + 1) rest ⟨l'.toArray, d⟩) : relWalkO P ops w0 Bs Os Q i (o :: rest) ⟨l.toArray, d⟩ := by
 subst hl
 unfold relWalkO
 rw [find_ks (spcO_l hL), find_ka (spcO_l hL), find_os hL]
 refine ⟨c, fun w hR _ => fill_none hD ?_, ?_⟩
 ·unfold relOp
  rw [if_pos (wanted_okG hw)]
  exact h w hR
 ·rw [ht, put_lit]
  exact k
theorem oPure (hL : spcO Bs Os i = false) (hD : ((BL Bs).all fun p => !lookOn ops o p.1) = true) (hw : okG ops o l = some true) {t : Nat} (ht : o.dst = some t) {c : Value}
  (h : ∀ w, Fo Os w0 w → (execOp (Act.eval ⟨l.toArray, d⟩) o).run P w = .ok (.value c) w) (hl : l.set t c = l') (k : relWalkO P ops w0 Bs Os Q (i + 1) rest ⟨l'.toArray, d⟩) : relWalkO P ops w0 Bs Os Q i (o :: rest) ⟨l.toArray, d⟩ :=
 oC hL hD hw ht (fun w hw' => by rw [h w hw']; exact ⟨Ext.refl w, rfl⟩) hl k
theorem oMove (hL : spcO Bs Os i = false) (hD : ((BL Bs).all fun p => !lookOn ops o p.1) = true) (hw : okG ops o l = some true) {t : Nat} (ht : o.dst = some t) (x : Operand) (ho : o.op = .move x ∨ o.op = .assign x) {c : Value} (hc : evL l x = c)
  (hl : l.set t c = l') (k : relWalkO P ops w0 Bs Os Q (i + 1) rest ⟨l'.toArray, d⟩) : relWalkO P ops w0 Bs Os Q i (o :: rest) ⟨l.toArray, d⟩ := by
 refine oPure hL hD hw ht (fun w _ => ?_) hl k
 subst hc
 rw [← eval_evL l d]
 rcases ho with ho | ho <;> (unfold execOp; rw [ho]; rfl)
theorem oCall1 (hL : spcO Bs Os i = false) (hD : ((BL Bs).all fun p => !lookOn ops o p.1) = true) (hw : okG ops o l = some true) {t : Nat} (ht : o.dst = some t) {c : Value} (f : FuncId) (args : Array Value)
  (he : ∀ w, (execOp (Act.eval ⟨l.toArray, d⟩) o).run P w = .ok (.enter f args) w)
  (h : ∀ w, Fo Os w0 w → Calls P f args w fun e w' => e = .returned c ∧ Ext w w') (hl : l.set t c = l') (k : relWalkO P ops w0 Bs Os Q (i + 1) rest ⟨l'.toArray, d⟩) : relWalkO P ops w0 Bs Os Q i (o :: rest) ⟨l.toArray, d⟩ :=
 oC hL hD hw ht (fun w hw' => by
  rw [he w]
  exact (h w hw').mono fun e w' ⟨h1, h2⟩ => ⟨c, h1, h2, rfl⟩) hl k
theorem oPureJ (hL : spcO Bs Os i = false) (hD : ((BL Bs).all fun p => !lookOn ops o p.1) = true) (hw : okG ops o l = some true) {t : Nat} (ht : o.dst = some t) {c : Value}
  (h : ∀ w, Fo Os w0 w → JN ops Os i w → (execOp (Act.eval ⟨l.toArray, d⟩) o).run P w = .ok (.value c) w) (hl : l.set t c = l') (k : relWalkO P ops w0 Bs Os Q (i + 1) rest ⟨l'.toArray, d⟩) : relWalkO P ops w0 Bs Os Q i (o :: rest) ⟨l.toArray, d⟩ := by
 subst hl
 unfold relWalkO
 rw [find_ks (spcO_l hL), find_ka (spcO_l hL), find_os hL]
 refine ⟨c, fun w hR hJ => fill_none hD ?_, ?_⟩
 ·unfold relOp
  rw [if_pos (wanted_okG hw), h w hR hJ]
  exact ⟨Ext.refl w, rfl⟩
 ·rw [ht, put_lit]
  exact k
theorem JN.one {i k b : Nat} {t : TypeId} {Z C : List Value} {w : World} (h : JN ops Os i w) (he : Old.one b t k Z C ∈ Os) {o : Oper} (ho : ops[k]? = some o) (hd : depOn o i = true) : Av w b t Z := by
 obtain ⟨f, hf, ha⟩ := h _ he
 have := hf k o ho hd
 simpa [Old.one, this] using ha
theorem oEnd {i : Nat} {a : Act} (h : ∀ w, Fo Os w0 w → fillL ops (fun _ => true) w (fun a' => Q .normal a' w) (BL Bs) a) : relWalkO P ops w0 Bs Os Q i [] a := h
theorem oAlloc {e : Blk} {i : Nat} {o : Oper} {rest : List Oper} {a : Act} (hk : (Bs.find? fun e => e.ks == i) = none) (ha : (Bs.find? fun e => e.ka == i) = some e) (h : ∀ (ρ : Operand → Value) w, (execOp ρ o).run P w = .ok (.value (.pointer (some ⟨w.heap.size, 0, none⟩))) (w.alloc (.cells e.Z.toArray e.t (0, 0)))) (k : relWalkO P ops w0 Bs Os Q (i + 1) rest a) : relWalkO P ops w0 Bs Os Q i (o :: rest) a := by
 unfold relWalkO
 rw [hk, ha]
 exact ⟨h, k⟩
theorem oStore {e : Blk} {i : Nat} {o : Oper} {rest : List Oper} {a : Act} (hk : (Bs.find? fun e => e.ks == i) = some e) (hd : o.dst = none) (h : ∀ w, Fo Os w0 w → fillL ops (lookOn ops o) w (fun a' => ∀ b, a'.tmps[e.s]? = some (.pointer (some ⟨b, 0, none⟩)) → Av w b e.t e.Z → ∃ w', (execOp a'.eval o).run P w = .ok .skip w' ∧ Av w' b e.t e.C ∧ Fr (fun k => k = b) w w') (BL Bs) a)
  (k : relWalkO P ops w0 Bs Os Q (i + 1) rest a) : relWalkO P ops w0 Bs Os Q i (o :: rest) a := by
 unfold relWalkO
 rw [hk]
 exact ⟨h, hd, k⟩
theorem oOld {e : Old} {i : Nat} {o : Oper} {rest : List Oper} {a : Act} (hk : (Bs.find? fun e => e.ks == i) = none) (ha : (Bs.find? fun e => e.ka == i) = none) (ho : (Os.find? fun e => e.ks.contains i) = some e) (hd : o.dst = none) (h : ∀ w, Fo Os w0 w → fillL ops (lookOn ops o) w (fun a' => ∀ f : Nat → Bool, f i = false → Av w e.b e.t (e.C f) → ∃ w', (execOp a'.eval o).run P w = .ok .skip w' ∧ Av w' e.b e.t (e.C fun k => k == i || f k) ∧ Fr (fun k => k = e.b) w w') (BL Bs) a)
  (k : relWalkO P ops w0 Bs Os Q (i + 1) rest a) : relWalkO P ops w0 Bs Os Q i (o :: rest) a := by
 unfold relWalkO
 rw [hk, ha, ho]
 exact ⟨h, hd, k⟩
theorem Old.one_con (b : Nat) (t : TypeId) (k : Nat) (Z C : List Value) (f g : Nat → Bool) (h : ∀ j ∈ (Old.one b t k Z C).ks, f j = g j) : (Old.one b t k Z C).C f = (Old.one b t k Z C).C g := by
 have := h k (by simp [Old.one])
 simp [Old.one, this]
theorem oOldRow {w : World} {o : Oper} {ρ : Operand → Value} {b k : Nat} {t : TypeId} {Z C : List Value} {f : Nat → Bool} (hf : f k = false) (h0 : Av w (Old.one b t k Z C).b (Old.one b t k Z C).t ((Old.one b t k Z C).C f)) (hz : Z.length = C.length) (ty : TypeId) (x y : Operand) (ho : o.op = .store ty x y) (hx : ρ x = .pointer (some ⟨b, 0, none⟩)) (hy : ρ y = .agg C.toArray) (n : Nat) (hn : C.length = n)
  (hi : (P.info? ty).map (·.size) = some n) (h1 : C.all (·.oneCell') = true) : ∃ w', (execOp ρ o).run P w = .ok .skip w' ∧ Av w' (Old.one b t k Z C).b (Old.one b t k Z C).t ((Old.one b t k Z C).C fun j => j == k || f j) ∧ Fr (fun k => k = b) w w' := by
 have h0 : Av w b t Z := by simpa [Old.one, hf] using h0
 obtain ⟨w', r1, r2, r3⟩ := bStoreRow (P := P) h0 hz ty x y ho hx hy n hn hi h1
 refine ⟨w', r1, ?_, r3⟩
 simpa [Old.one] using r2
end
end Go.Proofs.YtobjgebojhjhnaaDoor
