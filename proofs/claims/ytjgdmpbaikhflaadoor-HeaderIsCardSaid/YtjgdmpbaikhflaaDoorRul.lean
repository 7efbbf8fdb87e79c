/- The rules for the walk of XRel: frames as lists that are written out. -/
import Derived.Test.YtjgdmpbaikhflaaDoorRel
import Derived.Test.YtjgdmpbaikhflaaDoorPr1
namespace Go.Proofs.YtjgdmpbaikhflaaDoor
open Go.RowKit

/-- the world has gone on: what was there is there -/
def Ext (w w' : World) : Prop := Below w.heap.size w w'
theorem Ext.refl (w : World) : Ext w w := Below.refl _ _
theorem Ext.trans (a b c : World) (h : Ext a b) (k : Ext b c) : Ext a c := Below.trans h (k.mono h.size)
theorem Ext.drew {a b : World} (h : Ext a.drew b) : Ext a b := ⟨h.os, h.tape, h.output, h.size, h.block⟩
theorem Ext.below {a b : World} (h : Ext a b) : Below a.heap.size a b := h

def evL (l : List Value) : Operand → Value
  | .tmp t => l.getD t undef
  | .const v => v
  | .global g => .pointer (some ⟨g, 0, none⟩)
  | .func f => .func (.func f) #[] #[]
theorem eval_evL (l : List Value) (d : List Deferred) (x : Operand) : Act.eval ⟨l.toArray, d⟩ x = evL l x := by
  cases x with
  | tmp t => simp [Act.eval, evL]
  | _ => rfl
def okG (ops : Array Oper) (o : Oper) (l : List Value) : Option Bool :=
  match o.guard with
  | none => some true
  | some (j, b) => match dstAt ops j with
    | some t => match l[t]? with
      | some (.bool v) => some (v == b)
      | _ => none
    | none => none
theorem wanted_okG {ops : Array Oper} {o : Oper} {l : List Value} {r : Bool} (h : okG ops o l = some r) : Region.wanted o (yielded ops l.toArray) = r := by
  unfold okG at h
  unfold Region.wanted
  cases hg : o.guard with
  | none => rw [hg] at h; simpa using h
  | some g =>
    obtain ⟨j, b⟩ := g
    rw [hg] at h
    dsimp only at h ⊢
    unfold dstAt at h
    unfold yielded
    cases hd : (ops[j]?).bind (·.dst) with
    | none => rw [hd] at h; cases h
    | some t =>
      rw [hd] at h
      dsimp only at h ⊢
      simp only [Option.bind_some, List.getElem?_toArray]
      cases hl : l[t]? with
      | none => rw [hl] at h; cases h
      | some v =>
        rw [hl] at h
        cases v <;> first | (cases h; done) | skip
        simp only [Option.some.injEq] at h
        subst h
        simp
theorem put_lit (l : List Value) (d : List Deferred) (t : Nat) (v : Value) : Act.put ⟨l.toArray, d⟩ (some t) v = ⟨(l.set t v).toArray, d⟩ := by
  simp [Act.put]

section
variable {P : Program} {ops : Array Oper} {R : World → World → Prop} {Q : Exit → Act → World → Prop} {w0 : World} {L : List (Nat × VP)} {i : Nat} {o : Oper} {rest : List Oper} {l l' : List Value} {d : List Deferred}

theorem fill_none {D : Nat → Bool} {w : World} {K : Act → Prop} : ∀ {L : List (Nat × VP)} {a : Act}, (L.all fun p => !D p.1) = true → K a → fillL ops D w K L a
  | [], _, _, h => h
  | (j, phi) :: r, a, hD, h => by
    simp only [List.all_cons, Bool.and_eq_true, Bool.not_eq_true'] at hD
    unfold fillL
    rw [if_neg (by simp [hD.1])]
    exact fill_none hD.2 h

/-- one value, out of the frame alone -/
theorem relC (hL : L.lookup i = none) (hD : (L.all fun p => !lookOn ops o p.1) = true) (hw : okG ops o l = some true) {t : Nat} (ht : o.dst = some t) {c : Value}
    (h : ∀ w, R w0 w → relRes P R w (fun v _ => v = c) ((execOp (Act.eval ⟨l.toArray, d⟩) o).run P w)) (hl : l.set t c = l') (k : relWalk P ops R Q w0 L (i + 1) rest ⟨l'.toArray, d⟩) : relWalk P ops R Q w0 L i (o :: rest) ⟨l.toArray, d⟩ := by
  subst hl
  unfold relWalk
  rw [hL]
  refine ⟨c, fun w hR => fill_none hD ?_, ?_⟩
  · unfold relOp
    rw [if_pos (wanted_okG hw)]
    exact h w hR
  · rw [ht, put_lit]
    exact k
theorem relSkip (hL : L.lookup i = none) (hD : (L.all fun p => !lookOn ops o p.1) = true) (hw : okG ops o l = some false) {t : Nat} (ht : o.dst = some t)
    (hl : l.set t undef = l') (k : relWalk P ops R Q w0 L (i + 1) rest ⟨l'.toArray, d⟩) : relWalk P ops R Q w0 L i (o :: rest) ⟨l.toArray, d⟩ := by
  subst hl
  unfold relWalk
  rw [hL]
  refine ⟨undef, fun w hR => fill_none hD ?_, ?_⟩
  · unfold relOp
    rw [wanted_okG hw]
    exact rfl
  · rw [ht, put_lit]
    exact k
theorem relPure (hR : ∀ w, R w w) (hL : L.lookup i = none) (hD : (L.all fun p => !lookOn ops o p.1) = true) (hw : okG ops o l = some true) {t : Nat} (ht : o.dst = some t) {c : Value}
    (h : ∀ w, R w0 w → (execOp (Act.eval ⟨l.toArray, d⟩) o).run P w = .ok (.value c) w) (hl : l.set t c = l') (k : relWalk P ops R Q w0 L (i + 1) rest ⟨l'.toArray, d⟩) : relWalk P ops R Q w0 L i (o :: rest) ⟨l.toArray, d⟩ :=
  relC hL hD hw ht (fun w hw' => by rw [h w hw']; exact ⟨hR w, rfl⟩) hl k
theorem relMove (hR : ∀ w, R w w) (hL : L.lookup i = none) (hD : (L.all fun p => !lookOn ops o p.1) = true) (hw : okG ops o l = some true) {t : Nat} (ht : o.dst = some t) (x : Operand) (ho : o.op = .move x ∨ o.op = .assign x) {c : Value} (hc : evL l x = c)
    (hl : l.set t c = l') (k : relWalk P ops R Q w0 L (i + 1) rest ⟨l'.toArray, d⟩) : relWalk P ops R Q w0 L i (o :: rest) ⟨l.toArray, d⟩ := by
  refine relPure hR hL hD hw ht (fun w _ => ?_) hl k
  subst hc
  rw [← eval_evL l d]
  rcases ho with ho | ho <;> (unfold execOp; rw [ho]; rfl)
theorem relPick (hR : ∀ w, R w w) (hL : L.lookup i = none) (hD : (L.all fun p => !lookOn ops o p.1) = true) (hw : okG ops o l = some true) {t : Nat} (ht : o.dst = some t) (z x y : Operand) (ho : o.op = .pick z x y) {b : Bool} (hb : evL l z = .bool b) {c : Value} (hc : (if b then evL l x else evL l y) = c)
    (hl : l.set t c = l') (k : relWalk P ops R Q w0 L (i + 1) rest ⟨l'.toArray, d⟩) : relWalk P ops R Q w0 L i (o :: rest) ⟨l.toArray, d⟩ := by
  refine relPure hR hL hD hw ht (fun w _ => ?_) hl k
  subst hc
  rw [← eval_evL l d] at hb
  rw [← eval_evL l d, ← eval_evL l d]
  have e : execOp (Act.eval ⟨l.toArray, d⟩) o = (do let b ← asBool (Act.eval ⟨l.toArray, d⟩ z); pure (.value (if b then Act.eval ⟨l.toArray, d⟩ x else Act.eval ⟨l.toArray, d⟩ y))) := by
    unfold execOp
    rw [ho]
  rw [e, hb]
  rfl
/-- '==', '<', '+' ..: the operands' values first -/
theorem relBin (hR : ∀ w, R w w) (hL : L.lookup i = none) (hD : (L.all fun p => !lookOn ops o p.1) = true) (hw : okG ops o l = some true) {t : Nat} (ht : o.dst = some t) (op : BinOp) (ty ty' : TypeId) (x y : Operand) (ho : o.op = .binOp op ty x y ty')
    {X Y : Value} (hx : evL l x = X) (hy : evL l y = Y) {c : Value} (h : ∀ w, ((do eqGuard op ty x y X Y; binOp op ty X Y : Sem Value)).run P w = .ok c w)
    (hl : l.set t c = l') (k : relWalk P ops R Q w0 L (i + 1) rest ⟨l'.toArray, d⟩) : relWalk P ops R Q w0 L i (o :: rest) ⟨l.toArray, d⟩ := by
  refine relPure hR hL hD hw ht (fun w _ => ?_) hl k
  have e : execOp (Act.eval ⟨l.toArray, d⟩) o = (do pure (.value (← (do eqGuard op ty x y (Act.eval ⟨l.toArray, d⟩ x) (Act.eval ⟨l.toArray, d⟩ y); binOp op ty (Act.eval ⟨l.toArray, d⟩ x) (Act.eval ⟨l.toArray, d⟩ y))))) := by
    unfold execOp
    rw [ho]
  rw [e, eval_evL, eval_evL, hx, hy, Sem.run_bind, h w]
  rfl
/-- a call whose value has a word -/
theorem relCall (phi : VP) (hL : L.lookup i = some phi) (hD : (L.all fun p => !lookOn ops o p.1) = true) (hw : okG ops o l = some true) (f : FuncId) (args : Array Value)
    (he : ∀ w, (execOp (Act.eval ⟨l.toArray, d⟩) o).run P w = .ok (.enter f args) w)
    (h : ∀ w, R w0 w → Calls P f args w fun e w' => ∃ v, e = .returned v ∧ R w w' ∧ phi v w') (k : relWalk P ops R Q w0 L (i + 1) rest ⟨l.toArray, d⟩) : relWalk P ops R Q w0 L i (o :: rest) ⟨l.toArray, d⟩ := by
  unfold relWalk
  rw [hL]
  refine ⟨fun w hR => fill_none hD ?_, k⟩
  unfold relOp
  rw [if_pos (wanted_okG hw), he w]
  exact h w hR
/-- a call that answers one value -/
theorem relCall1 (hL : L.lookup i = none) (hD : (L.all fun p => !lookOn ops o p.1) = true) (hw : okG ops o l = some true) {t : Nat} (ht : o.dst = some t) {c : Value} (f : FuncId) (args : Array Value)
    (he : ∀ w, (execOp (Act.eval ⟨l.toArray, d⟩) o).run P w = .ok (.enter f args) w)
    (h : ∀ w, R w0 w → Calls P f args w fun e w' => e = .returned c ∧ R w w') (hl : l.set t c = l') (k : relWalk P ops R Q w0 L (i + 1) rest ⟨l'.toArray, d⟩) : relWalk P ops R Q w0 L i (o :: rest) ⟨l.toArray, d⟩ :=
  relC hL hD hw ht (fun w hw' => by
    rw [he w]
    exact (h w hw').mono fun e w' ⟨h1, h2⟩ => ⟨c, h1, h2, rfl⟩) hl k
theorem fill_end {D : Nat → Bool} {w : World} {K : Act → Prop} {a : Act} (h : K a) : fillL ops D w K [] a := h
theorem fill_skip {D : Nat → Bool} {w : World} {K : Act → Prop} {a : Act} {j : Nat} {phi : VP} {r : List (Nat × VP)} (hD : D j = false) (h : fillL ops D w K r a) : fillL ops D w K ((j, phi) :: r) a := by
  unfold fillL
  rw [hD]
  exact h
theorem fill_take {D : Nat → Bool} {w : World} {K : Act → Prop} {j : Nat} {phi : VP} {r : List (Nat × VP)} {t : Nat} (ht : dstAt ops j = some t) (hD : D j = true)
    (h : ∀ v, phi v w → fillL ops D w K r ⟨(l.set t v).toArray, d⟩) : fillL ops D w K ((j, phi) :: r) ⟨l.toArray, d⟩ := by
  unfold fillL
  rw [hD]
  intro v hv
  rw [ht, put_lit]
  exact h v hv
theorem relOp_yes {w : World} {ok : VP} (hw : okG ops o l = some true) (h : relRes P R w ok ((execOp (Act.eval ⟨l.toArray, d⟩) o).run P w)) : relOp P ops R o ⟨l.toArray, d⟩ w ok := by
  unfold relOp
  rw [if_pos (wanted_okG hw)]
  exact h
/-- an operation that looks at values that have words, and has one value itself -/
theorem relOn (hL : L.lookup i = none) {t : Nat} (ht : o.dst = some t) {c : Value}
    (h : ∀ w, R w0 w → fillL ops (lookOn ops o) w (fun a' => relOp P ops R o a' w (fun v _ => v = c)) L ⟨l.toArray, d⟩) (hl : l.set t c = l')
    (k : relWalk P ops R Q w0 L (i + 1) rest ⟨l'.toArray, d⟩) : relWalk P ops R Q w0 L i (o :: rest) ⟨l.toArray, d⟩ := by
  subst hl
  unfold relWalk
  rw [hL]
  refine ⟨c, h, ?_⟩
  rw [ht, put_lit]
  exact k
/-- an operation whose value has a word -/
theorem relWord (phi : VP) (hL : L.lookup i = some phi)
    (h : ∀ w, R w0 w → fillL ops (lookOn ops o) w (fun a' => relOp P ops R o a' w phi) L ⟨l.toArray, d⟩)
    (k : relWalk P ops R Q w0 L (i + 1) rest ⟨l.toArray, d⟩) : relWalk P ops R Q w0 L i (o :: rest) ⟨l.toArray, d⟩ := by
  unfold relWalk
  rw [hL]
  exact ⟨h, k⟩
theorem relEnd {a : Act} (h : ∀ w, R w0 w → fillL ops (fun _ => true) w (fun a' => Q .normal a' w) L a) : relWalk P ops R Q w0 L i [] a := h
end
/-- one element in a slice of its own -/
def OneW (cs : List Value) : VP := fun v w => ∃ A, v = .slice A 1 1 ∧ Rd w A cs
theorem OneW.mono {cs : List Value} {v : Value} {w w' : World} (h : Ext w w') : OneW cs v w → OneW cs v w' := by
  rintro ⟨A, rfl, hr⟩
  exact ⟨A, rfl, hr.below h⟩
end Go.Proofs.YtjgdmpbaikhflaaDoor
