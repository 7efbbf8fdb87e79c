/- The rules for a region's conversions of bytes to a string. -/
import Derived.Test.YtijnkieakenipaaDoorRul
import Derived.Test.YtijnkieakenipaaDoorPr2
namespace Go.Proofs.YtijnkieakenipaaDoor
open Go.RowKit
section
variable {ops : Array Oper} {Q : Exit → Act → World → Prop} {w0 : World} {L : List (Nat × VP)} {i : Nat} {o : Oper} {rest : List Oper} {l l' : List Value} {d : List Deferred}

theorem exec_conv {ρ : Operand → Value} (x : Operand) (ho : o.op = .convert 67 9 x) {A : Option Addr} {n c : Nat} (hx : ρ x = .slice A n c) {w : World} {bs : List UInt8} (hr : Rd w A (bs.map bv)) (hn : bs.length = n) :
    (execOp ρ o).run Tryd.prog w = .ok (.value (.string ⟨bs.toArray⟩)) w := by
  unfold execOp
  rw [ho]
  dsimp only
  rw [hx, Sem.run_bind, conv_str hr hn]
  rfl
/-- 'string(b)', b known -/
theorem relStr (hL : L.lookup i = none) (hD : (L.all fun p => !lookOn ops o p.1) = true) (hw : okG ops o l = some true) {t : Nat} (ht : o.dst = some t) (x : Operand) (ho : o.op = .convert 67 9 x)
    {A : Option Addr} {n c : Nat} (hx : evL l x = .slice A n c) (bs : List UInt8) (hn : bs.length = n) (hr : ∀ w, Ext w0 w → Rd w A (bs.map bv))
    (hl : l.set t (.string ⟨bs.toArray⟩) = l') (k : relWalk Tryd.prog ops Ext Q w0 L (i + 1) rest ⟨l'.toArray, d⟩) : relWalk Tryd.prog ops Ext Q w0 L i (o :: rest) ⟨l.toArray, d⟩ :=
  relPure Ext.refl hL hD hw ht (fun w hw' => exec_conv x ho (by rw [eval_evL]; exact hx) (hr w hw') hn) hl k
/-- the word of a slice of just these bytes -/
def SlW (bs : List UInt8) : VP := fun v w => ∃ A c, v = .slice A bs.length c ∧ Rd w A (bs.map bv)
theorem SlW.mono {bs : List UInt8} {v : Value} {w w' : World} (h : Ext w w') : SlW bs v w → SlW bs v w' := by
  rintro ⟨A, c, rfl, hr⟩
  exact ⟨A, c, rfl, hr.below h⟩
theorem SlW.own {bs : List UInt8} {v : Value} {w : World} {base : Nat} (h : OwnB w base v bs) : SlW bs v w := by
  obtain ⟨A, c, rfl, _, _⟩ := h.form
  exact ⟨A, c, rfl, h.rd⟩
theorem add_str (a b : List UInt8) (h : a.length + b.length ≤ 9223372036854775807) (x y : Operand) (w : World) :
    ((do eqGuard .add 9 x y (.string ⟨a.toArray⟩) (.string ⟨b.toArray⟩); binOp .add 9 (.string ⟨a.toArray⟩) (.string ⟨b.toArray⟩) : Sem Value)).run Tryd.prog w = .ok (.string ⟨(a ++ b).toArray⟩) w := by
  go_simp
  rw [if_neg (by omega), ByteArray.mk_append_mk]
theorem relCat (hL : L.lookup i = none) (hD : (L.all fun p => !lookOn ops o p.1) = true) (hw : okG ops o l = some true) {t : Nat} (ht : o.dst = some t) (x y : Operand) (ty' : TypeId) (ho : o.op = .binOp .add 9 x y ty')
    (a b : List UInt8) (hx : evL l x = .string ⟨a.toArray⟩) (hy : evL l y = .string ⟨b.toArray⟩) (hle : a.length + b.length ≤ 9223372036854775807)
    (hl : l.set t (.string ⟨(a ++ b).toArray⟩) = l') (k : relWalk Tryd.prog ops Ext Q w0 L (i + 1) rest ⟨l'.toArray, d⟩) : relWalk Tryd.prog ops Ext Q w0 L i (o :: rest) ⟨l.toArray, d⟩ :=
  relBin Ext.refl hL hD hw ht .add 9 ty' x y ho hx hy (fun w => add_str a b hle x y w) hl k
/-- 'string(f(..))': the value looked at has a word -/
theorem str_word {w : World} {bs : List UInt8} {v : Value} (hv : SlW bs v w) {ρ : Operand → Value} (x : Operand) (ho : o.op = .convert 67 9 x) (hx : ρ x = v) :
    relRes Tryd.prog Ext w (fun u _ => u = .string ⟨bs.toArray⟩) ((execOp ρ o).run Tryd.prog w) := by
  obtain ⟨A, c, rfl, hr⟩ := hv
  rw [exec_conv x ho hx hr rfl]
  exact ⟨Ext.refl w, rfl⟩
end
end Go.Proofs.YtijnkieakenipaaDoor
