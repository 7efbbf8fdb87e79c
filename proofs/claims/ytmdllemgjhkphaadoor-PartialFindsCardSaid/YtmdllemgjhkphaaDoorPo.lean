/- partial.read: the stack's cells, a row of the call's own seen whole. -/
import Derived.Test.YtmdllemgjhkphaaDoorPl
import Derived.Test.YtmdllemgjhkphaaDoorPc
namespace Go.Proofs.YtmdllemgjhkphaaDoor
open Go.RowKit
def zs32 : List UInt8 := List.replicate 32 0
theorem zs32_len : zs32.length = 32 := rfl
/-- the cells of a node above -/
def opc (f : PFr) : List Value := [.int .i64 (f.h : Int), .int .i64 (f.i : Int)] ++ ([.bool f.a.isSome] ++ (f.a.getD zs32).map bv)
def PFr.ok (f : PFr) : Prop := (∀ a, f.a = some a → a.length = 32) ∧ 1 ≤ f.h ∧ f.h ≤ 12 ∧ f.i ≤ 4096
theorem opc_len {f : PFr} (h : f.ok) : (opc f).length = 35 := by
  obtain ⟨h', i, a⟩ := f
  cases a with
  | none => rfl
  | some a => simp [opc, h.1 a rfl]
theorem opc_one (f : PFr) : ∀ u ∈ opc f, u.oneCell' = true := by
  intro u hu
  simp only [opc, List.mem_append, List.mem_cons, List.not_mem_nil, or_false] at hu
  rcases hu with (rfl | rfl) | rfl | hu
  · rfl
  · rfl
  · rfl
  · exact bv_one _ u hu
/-- the cells of a match -/
def mtc (p : Nat × List UInt8) : List Value := [.int .i64 (p.1 : Int)] ++ p.2.map bv
theorem mtc_len {p : Nat × List UInt8} (h : p.2.length = 32) : (mtc p).length = 33 := by simp [mtc, h]
theorem mtc_one (p : Nat × List UInt8) : ∀ u ∈ mtc p, u.oneCell' = true := by
  intro u hu
  simp only [mtc, List.mem_append, List.mem_singleton] at hu
  rcases hu with rfl | hu
  · rfl
  · exact bv_one _ u hu
def skc (sk : List PFr) : List Value := sk.flatMap opc
def mlc (l : List (Nat × List UInt8)) : List Value := l.flatMap mtc
theorem skc_len {sk : List PFr} (h : ∀ f ∈ sk, f.ok) : (skc sk).length = sk.length * 35 := flat_length opc 35 sk fun e he => opc_len (h e he)
theorem mlc_len {l : List (Nat × List UInt8)} (h : ∀ p ∈ l, p.2.length = 32) : (mlc l).length = l.length * 33 := flat_length mtc 33 l fun e he => mtc_len (h e he)
theorem skc_snoc (sk : List PFr) (f : PFr) : skc sk ++ opc f = skc (sk ++ [f]) := by simp [skc]
theorem mlc_snoc (l : List (Nat × List UInt8)) (p : Nat × List UInt8) : mlc l ++ mtc p = mlc (l ++ [p]) := by simp [mlc]
theorem infoOp : (Tryd.prog.info? 91).map (fun i => (i.size, i.bytes)) = some (35, 56) := by kernel_rfl
theorem zeroOp : (Tryd.prog.info? 91).map (fun i => (i.zero.map (·.cells.size))) = some (some 35) := by kernel_rfl
theorem infoMt : (Tryd.prog.info? 37).map (fun i => (i.size, i.bytes)) = some (33, 40) := by kernel_rfl
theorem zeroMt : (Tryd.prog.info? 37).map (fun i => (i.zero.map (·.cells.size))) = some (some 33) := by kernel_rfl
/-- a row of the call's own, as its whole block -/
theorem own_open {w : World} {base : Nat} {e : TypeId} {size n : Nat} {v : Value} {xs : List Value} (h : w.ownsRow base e size v n xs) (hn : 0 < n) :
    ∃ g cap rest, v = .slice (some ⟨g, 0, none⟩) n cap ∧ base ≤ g ∧ n ≤ cap ∧ cap ≤ maxLen ∧ Av w g e (xs ++ rest) ∧ (xs ++ rest).length = cap * size := by
  obtain ⟨h1, h2⟩ := h
  rcases h2 with ⟨_, h0⟩ | ⟨g, cap, cur, e1, e2, e3, e4, e5, e6, e7⟩
  · omega
  · refine ⟨g, cap, cur.toList.drop (n * size), e1, e2, e4, e5, ?_, ?_⟩
    · rw [← e7, List.take_append_drop]
      exact e3
    · rw [← e7, List.take_append_drop]
      simpa using e6
theorem own_close {w : World} {base : Nat} {e : TypeId} {size n g cap : Nat} {xs rest : List Value} (hb : base ≤ g) (hc : n ≤ cap) (hm : cap ≤ maxLen) (ha : Av w g e (xs ++ rest)) (hl : (xs ++ rest).length = cap * size) (hx : xs.length = n * size) :
    w.ownsRow base e size (.slice (some ⟨g, 0, none⟩) n cap) n xs :=
  ⟨hx, .inr ⟨g, cap, (xs ++ rest).toArray, rfl, hb, ha, hc, hm, by simpa using hl, by simp [← hx]⟩⟩
theorem Av.ne {w : World} {g g' : Nat} {t t' : TypeId} {l l' : List Value} (h : Av w g t l) (h' : Av w g' t' l') (ht : t ≠ t') : g ≠ g' := by
  rintro rfl
  unfold Av at h h'
  rw [h] at h'
  injection Option.some.inj h' with _ h2
  exact ht h2
theorem own_ne {w : World} {base : Nat} {e t : TypeId} {size n g : Nat} {v : Value} {xs l : List Value} (h : w.ownsRow base e size v n xs) (ha : Av w g t l) (ht : e ≠ t) : v.ownBlock ≠ some g := by
  rcases h.2 with ⟨h1, _⟩ | ⟨g', cap, cur, e1, e2, e3, _⟩
  · rw [h1]; simp [Value.ownBlock]
  · rw [e1]
    intro h'
    have : g' = g := by simpa [Value.ownBlock] using h'
    subst this
    unfold Av at ha
    rw [e3] at ha
    injection Option.some.inj ha with _ h2
    exact ht h2
theorem own_ne2 {w : World} {base base' : Nat} {e e' : TypeId} {size n size' n' : Nat} {v v' : Value} {xs xs' : List Value} (h : w.ownsRow base e size v n xs) (h' : w.ownsRow base' e' size' v' n' xs') (ht : e ≠ e') : ∀ k, v'.ownBlock = some k → v.ownBlock ≠ some k := by
  intro k hk
  rcases h'.2 with ⟨h1, _⟩ | ⟨g', cap, cur, e1, e2, e3, _⟩
  · rw [h1] at hk; simp [Value.ownBlock] at hk
  · have : g' = k := by rw [e1] at hk; simpa [Value.ownBlock] using hk
    subst this
    rcases h.2 with ⟨h1, _⟩ | ⟨g, cap2, cur2, d1, d2, d3, _⟩
    · rw [h1]; simp [Value.ownBlock]
    · rw [d1]
      intro h'
      have : g = g' := by simpa [Value.ownBlock] using h'
      subst this
      rw [d3] at e3
      injection Option.some.inj e3 with _ h2
      exact ht h2
theorem Fr.app {S : Nat → Prop} {w0 w w' : World} {base : Nat} {e : TypeId} {size n : Nat} {v : Value} {xs : List Value} (h : Fr S w0 w) (ho : w.ownsRow base e size v n xs) (hb : w0.heap.size ≤ base) (hg : w.grownBy w' v.ownBlock) : Fr S w0 w' := by
  refine ⟨hg.os.trans h.os, hg.tape.trans h.tape, hg.output.trans h.output, Nat.le_trans h.size hg.size, fun k hk hs => (hg.block k (Nat.lt_of_lt_of_le hk h.size) fun e => ?_).trans (h.block k hk hs)⟩
  have := (World.ownsRow.lt ho k e.symm).1
  omega
theorem own_pop {w : World} {base : Nat} {e : TypeId} {size n c : Nat} {A : Option Addr} {xs ys : List Value} (h : w.ownsRow base e size (.slice A (n + 1) c) (n + 1) (xs ++ ys)) (hx : xs.length = n * size) : w.ownsRow base e size (.slice A n c) n xs := by
  obtain ⟨g, cap, rest, e1, e2, e3, e4, e5, e6⟩ := own_open h (by omega)
  injection e1 with a1 a2 a3
  subst a1
  subst a3
  exact own_close (rest := ys ++ rest) e2 (by omega) e4 (by rw [← List.append_assoc]; exact e5) (by rw [← List.append_assoc]; exact e6) hx
/-- hashes compared, as an operation -/
theorem eqlHw (x y : List UInt8) (hx : x.length = 32) (hy : y.length = 32) (p q : Operand) (w : World) : (do eqGuard .eql 28 p q (.agg (hcs x)) (.agg (hcs y)); binOp .eql 28 (.agg (hcs x)) (.agg (hcs y)) : Sem Value).run Tryd.prog w = .ok (.bool (x == y)) w := by
  rw [Sem.run_bind, show (eqGuard .eql 28 p q (.agg (hcs x)) (.agg (hcs y))).run Tryd.prog w = .ok () w by go_simp, Result.andThen_ok]
  exact eqlH x y hx hy w
theorem neqHw (x y : List UInt8) (hx : x.length = 32) (hy : y.length = 32) (p q : Operand) (w : World) : (do eqGuard .neq 28 p q (.agg (hcs x)) (.agg (hcs y)); binOp .neq 28 (.agg (hcs x)) (.agg (hcs y)) : Sem Value).run Tryd.prog w = .ok (.bool (!(x == y))) w := by
  rw [Sem.run_bind, show (eqGuard .neq 28 p q (.agg (hcs x)) (.agg (hcs y))).run Tryd.prog w = .ok () w by go_simp, Result.andThen_ok]
  exact neqP x y hx hy w
/-- the world while a part is read -/
structure RdW (tot : Nat) (Ah : Option Addr) (nh ch : Nat) (Af : Option Addr) (nf cf R G X B : Nat) (w0 w : World) (d k : Nat) (h i : Int) (v7 v8 : Value) (sk : List PFr) (l : List (Nat × List UInt8)) : Prop where
  fr : Fr (fun j => j = R) w0 w
  aR : Av w R 62 (rdc tot Ah nh ch Af nf cf d k)
  aG : Av w G 28 (zs32.map bv)
  aX : Av w X 72 (ndc h i)
  o7 : w.ownsRow B 91 35 v7 sk.length (skc sk)
  o8 : w.ownsRow B 37 33 v8 l.length (mlc l)
/-- how much is left to read -/
def pPhi (nf d : Nat) (sk : List PFr) : Nat := 3 * (8 * nf - d) + (sk.map fun f => if f.a.isSome then 1 else 2).sum
/-- what read answers -/
def RdPost (tot : Nat) (Ah : Option Addr) (nh ch : Nat) (Af : Option Addr) (nf cf R : Nat) (w0 : World) (ans : Option PRes) (e : Ending) (w' : World) : Prop :=
  Fr (fun j => j = R) w0 w' ∧ match ans with
  | none => e = .returned (.tuple #[.agg (hcs zs32), .slice none 0 0, .bool false]) ∧ ∃ d k, Av w' R 62 (rdc tot Ah nh ch Af nf cf d k)
  | some r => ∃ A c, e = .returned (.tuple #[.agg (hcs r.x), .slice A r.l.length c, .bool true]) ∧ r.l.length ≤ c ∧ (∀ a, A = some a → w0.heap.size ≤ a.block) ∧ Rd w' A (mlc r.l) ∧ Av w' R 62 (rdc tot Ah nh ch Af nf cf r.d r.k)
end Go.Proofs.YtmdllemgjhkphaaDoor
