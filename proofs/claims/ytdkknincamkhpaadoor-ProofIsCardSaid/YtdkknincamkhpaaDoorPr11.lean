/- Pc; Po; Jmp: put together for the claim. -/
import Derived.Test.YtdkknincamkhpaaDoorPr1
import Derived.Test.YtdkknincamkhpaaDoorPl
import Derived.ScopeJumps
import Derived.WalkMore
/- Pieces of a row of elements. -/
namespace Go.Proofs.YtdkknincamkhpaaDoor
open Go.RowKit
theorem Rd.piece {α : Type} {w : World} {b off : Nat} (f : α → List Value) (n : Nat) : ∀ (l : List α) (_ : ∀ e ∈ l, (f e).length = n) (_ : Rd w (some ⟨b, off, none⟩) (l.flatMap f)) (k : Nat) (e : α) (_ : l[k]? = some e), w.rangeAt b (off + k * n) (f e)
  | [], _, _, k, e, hk => by simp at hk
  | x :: l, hl, hr, 0, e, hk => by
    obtain rfl : x = e := by simpa using hk
    intro j v hv
    rcases hr with h | ⟨b', o', hA, hc⟩
    · rw [List.flatMap_cons] at h
      rw [(List.append_eq_nil_iff.1 h).1] at hv
      simp at hv
    · cases hA
      have hj := (List.getElem?_eq_some_iff.1 hv).1
      have := hc j v (by rw [List.flatMap_cons, List.getElem?_append_left hj]; exact hv)
      rw [Nat.zero_mul, Nat.add_zero]
      exact this
  | x :: l, hl, hr, k + 1, e, hk => by
    have hx := hl x (List.mem_cons_self ..)
    have h2 := hr.drop n
    rw [List.flatMap_cons, List.drop_append, List.drop_of_length_le (by rw [hx]; exact Nat.le_refl _), hx, Nat.sub_self, List.drop_zero, List.nil_append] at h2
    have := Rd.piece f n l (fun e he => hl e (List.mem_cons_of_mem _ he)) h2 k e (by simpa using hk)
    rw [show off + (k + 1) * n = off + n + k * n by rw [Nat.add_mul, Nat.one_mul]; omega]
    exact this
theorem flat_length {α β : Type} (f : α → List β) (n : Nat) : ∀ (l : List α) (_ : ∀ e ∈ l, (f e).length = n), (l.flatMap f).length = l.length * n
  | [], _ => by simp
  | x :: l, h => by
    rw [List.flatMap_cons, List.length_append, h x (List.mem_cons_self ..), flat_length f n l fun e he => h e (List.mem_cons_of_mem _ he), List.length_cons, Nat.add_mul, Nat.one_mul, Nat.add_comm]
end Go.Proofs.YtdkknincamkhpaaDoor
/- partial.read: the stack's cells, a row of the call's own seen whole. -/
namespace Go.Proofs.YtdkknincamkhpaaDoor
open Go.RowKit
def zs32 : List UInt8 := List.replicate 32 0
theorem zs32_len : zs32.length = 32 := rfl
/-- the cells of a node above -/
def opc (f : PFr) : List Value := [.int .i64 (f.h : Int), .int .i64 (f.i : Int)] ++ ([.bool f.a.isSome] ++ (f.a.getD zs32).map bv)
def PFr.ok (f : PFr) : Prop := (∀ a, f.a = some a → a.length = 32) ∧ 1 ≤ f.h ∧ f.h ≤ 12 ∧ f.i ≤ 4096
theorem opc_len {f : PFr} (h : f.ok) : (opc f).length = 35 := by
  obtain ⟨h', i, a⟩ := f
  cases a with
  | none => rfl
  | some a => simp [opc, h.1 a rfl]
theorem opc_one (f : PFr) : ∀ u ∈ opc f, u.oneCell' = true := by
  intro u hu
  simp only [opc, List.mem_append, List.mem_cons, List.not_mem_nil, or_false] at hu
  rcases hu with (rfl | rfl) | rfl | hu
  · rfl
  · rfl
  · rfl
  · exact bv_one _ u hu
/-- the cells of a match -/
def mtc (p : Nat × List UInt8) : List Value := [.int .i64 (p.1 : Int)] ++ p.2.map bv
theorem mtc_len {p : Nat × List UInt8} (h : p.2.length = 32) : (mtc p).length = 33 := by simp [mtc, h]
theorem mtc_one (p : Nat × List UInt8) : ∀ u ∈ mtc p, u.oneCell' = true := by
  intro u hu
  simp only [mtc, List.mem_append, List.mem_singleton] at hu
  rcases hu with rfl | hu
  · rfl
  · exact bv_one _ u hu
def skc (sk : List PFr) : List Value := sk.flatMap opc
def mlc (l : List (Nat × List UInt8)) : List Value := l.flatMap mtc
theorem skc_len {sk : List PFr} (h : ∀ f ∈ sk, f.ok) : (skc sk).length = sk.length * 35 := flat_length opc 35 sk fun e he => opc_len (h e he)
theorem skc_snoc (sk : List PFr) (f : PFr) : skc sk ++ opc f = skc (sk ++ [f]) := by simp [skc]
theorem mlc_snoc (l : List (Nat × List UInt8)) (p : Nat × List UInt8) : mlc l ++ mtc p = mlc (l ++ [p]) := by simp [mlc]
theorem infoOp : (Tryd.prog.info? 113).map (fun i => (i.size, i.bytes)) = some (35, 56) := by kernel_rfl
theorem zeroOp : (Tryd.prog.info? 113).map (fun i => (i.zero.map (·.cells.size))) = some (some 35) := by kernel_rfl
theorem infoMt : (Tryd.prog.info? 51).map (fun i => (i.size, i.bytes)) = some (33, 40) := by kernel_rfl
theorem zeroMt : (Tryd.prog.info? 51).map (fun i => (i.zero.map (·.cells.size))) = some (some 33) := by kernel_rfl
/-- a row of the call's own, as its whole block -/
theorem own_open {w : World} {base : Nat} {e : TypeId} {size n : Nat} {v : Value} {xs : List Value} (h : w.ownsRow base e size v n xs) (hn : 0 < n) :
    ∃ g cap rest, v = .slice (some ⟨g, 0, none⟩) n cap ∧ base ≤ g ∧ n ≤ cap ∧ cap ≤ maxLen ∧ Av w g e (xs ++ rest) ∧ (xs ++ rest).length = cap * size := by
  obtain ⟨h1, h2⟩ := h
  rcases h2 with ⟨_, h0⟩ | ⟨g, cap, cur, e1, e2, e3, e4, e5, e6, e7⟩
  · omega
  · refine ⟨g, cap, cur.toList.drop (n * size), e1, e2, e4, e5, ?_, ?_⟩
    · rw [← e7, List.take_append_drop]
      exact e3
    · rw [← e7, List.take_append_drop]
      simpa using e6
theorem own_close {w : World} {base : Nat} {e : TypeId} {size n g cap : Nat} {xs rest : List Value} (hb : base ≤ g) (hc : n ≤ cap) (hm : cap ≤ maxLen) (ha : Av w g e (xs ++ rest)) (hl : (xs ++ rest).length = cap * size) (hx : xs.length = n * size) :
    w.ownsRow base e size (.slice (some ⟨g, 0, none⟩) n cap) n xs :=
  ⟨hx, .inr ⟨g, cap, (xs ++ rest).toArray, rfl, hb, ha, hc, hm, by simpa using hl, by simp [← hx]⟩⟩
theorem Av.ne {w : World} {g g' : Nat} {t t' : TypeId} {l l' : List Value} (h : Av w g t l) (h' : Av w g' t' l') (ht : t ≠ t') : g ≠ g' := by
  rintro rfl
  unfold Av at h h'
  rw [h] at h'
  injection Option.some.inj h' with _ h2
  exact ht h2
theorem own_ne {w : World} {base : Nat} {e t : TypeId} {size n g : Nat} {v : Value} {xs l : List Value} (h : w.ownsRow base e size v n xs) (ha : Av w g t l) (ht : e ≠ t) : v.ownBlock ≠ some g := by
  rcases h.2 with ⟨h1, _⟩ | ⟨g', cap, cur, e1, e2, e3, _⟩
  · rw [h1]; simp [Value.ownBlock]
  · rw [e1]
    intro h'
    have : g' = g := by simpa [Value.ownBlock] using h'
    subst this
    unfold Av at ha
    rw [e3] at ha
    injection Option.some.inj ha with _ h2
    exact ht h2
theorem own_ne2 {w : World} {base base' : Nat} {e e' : TypeId} {size n size' n' : Nat} {v v' : Value} {xs xs' : List Value} (h : w.ownsRow base e size v n xs) (h' : w.ownsRow base' e' size' v' n' xs') (ht : e ≠ e') : ∀ k, v'.ownBlock = some k → v.ownBlock ≠ some k := by
  intro k hk
  rcases h'.2 with ⟨h1, _⟩ | ⟨g', cap, cur, e1, e2, e3, _⟩
  · rw [h1] at hk; simp [Value.ownBlock] at hk
  · have : g' = k := by rw [e1] at hk; simpa [Value.ownBlock] using hk
    subst this
    rcases h.2 with ⟨h1, _⟩ | ⟨g, cap2, cur2, d1, d2, d3, _⟩
    · rw [h1]; simp [Value.ownBlock]
    · rw [d1]
      intro h'
      have : g = g' := by simpa [Value.ownBlock] using h'
      subst this
      rw [d3] at e3
      injection Option.some.inj e3 with _ h2
      exact ht h2
theorem Fr.app {S : Nat → Prop} {w0 w w' : World} {base : Nat} {e : TypeId} {size n : Nat} {v : Value} {xs : List Value} (h : Fr S w0 w) (ho : w.ownsRow base e size v n xs) (hb : w0.heap.size ≤ base) (hg : w.grownBy w' v.ownBlock) : Fr S w0 w' := by
  refine ⟨hg.os.trans h.os, hg.tape.trans h.tape, hg.output.trans h.output, Nat.le_trans h.size hg.size, fun k hk hs => (hg.block k (Nat.lt_of_lt_of_le hk h.size) fun e => ?_).trans (h.block k hk hs)⟩
  have := (World.ownsRow.lt ho k e.symm).1
  omega
theorem own_pop {w : World} {base : Nat} {e : TypeId} {size n c : Nat} {A : Option Addr} {xs ys : List Value} (h : w.ownsRow base e size (.slice A (n + 1) c) (n + 1) (xs ++ ys)) (hx : xs.length = n * size) : w.ownsRow base e size (.slice A n c) n xs := by
  obtain ⟨g, cap, rest, e1, e2, e3, e4, e5, e6⟩ := own_open h (by omega)
  injection e1 with a1 a2 a3
  subst a1
  subst a3
  exact own_close (rest := ys ++ rest) e2 (by omega) e4 (by rw [← List.append_assoc]; exact e5) (by rw [← List.append_assoc]; exact e6) hx
/-- hashes compared, as an operation -/
theorem eqlHw (x y : List UInt8) (hx : x.length = 32) (hy : y.length = 32) (p q : Operand) (w : World) : (do eqGuard .eql 28 p q (.agg (hcs x)) (.agg (hcs y)); binOp .eql 28 (.agg (hcs x)) (.agg (hcs y)) : Sem Value).run Tryd.prog w = .ok (.bool (x == y)) w := by
  rw [Sem.run_bind, show (eqGuard .eql 28 p q (.agg (hcs x)) (.agg (hcs y))).run Tryd.prog w = .ok () w by go_simp, Result.andThen_ok]
  exact eqlH x y hx hy w
theorem neqHw (x y : List UInt8) (hx : x.length = 32) (hy : y.length = 32) (p q : Operand) (w : World) : (do eqGuard .neq 28 p q (.agg (hcs x)) (.agg (hcs y)); binOp .neq 28 (.agg (hcs x)) (.agg (hcs y)) : Sem Value).run Tryd.prog w = .ok (.bool (!(x == y))) w := by
  rw [Sem.run_bind, show (eqGuard .neq 28 p q (.agg (hcs x)) (.agg (hcs y))).run Tryd.prog w = .ok () w by go_simp, Result.andThen_ok]
  exact neqP x y hx hy w
/-- the world while a part is read -/
structure RdW (tot : Nat) (Ah : Option Addr) (nh ch : Nat) (Af : Option Addr) (nf cf R G X B : Nat) (w0 w : World) (d k : Nat) (h i : Int) (v7 v8 : Value) (sk : List PFr) (l : List (Nat × List UInt8)) : Prop where
  fr : Fr (fun j => j = R) w0 w
  aR : Av w R 80 (rdc tot Ah nh ch Af nf cf d k)
  aG : Av w G 28 (zs32.map bv)
  aX : Av w X 91 (ndc h i)
  o7 : w.ownsRow B 113 35 v7 sk.length (skc sk)
  o8 : w.ownsRow B 51 33 v8 l.length (mlc l)
/-- how much is left to read -/
def pPhi (nf d : Nat) (sk : List PFr) : Nat := 3 * (8 * nf - d) + (sk.map fun f => if f.a.isSome then 1 else 2).sum
/-- what read answers -/
def RdPost (tot : Nat) (Ah : Option Addr) (nh ch : Nat) (Af : Option Addr) (nf cf R : Nat) (w0 : World) (ans : Option PRes) (e : Ending) (w' : World) : Prop :=
  Fr (fun j => j = R) w0 w' ∧ match ans with
  | none => e = .returned (.tuple #[.agg (hcs zs32), .slice none 0 0, .bool false]) ∧ ∃ d k, Av w' R 80 (rdc tot Ah nh ch Af nf cf d k)
  | some r => ∃ A c, e = .returned (.tuple #[.agg (hcs r.x), .slice A r.l.length c, .bool true]) ∧ r.l.length ≤ c ∧ (∀ a, A = some a → w0.heap.size ≤ a.block) ∧ Rd w' A (mlc r.l) ∧ Av w' R 80 (rdc tot Ah nh ch Af nf cf r.d r.k)
end Go.Proofs.YtdkknincamkhpaaDoor
/- A scope with two labels that the run jumps to; a frame of which some slots are known. -/
namespace Go.Proofs.YtdkknincamkhpaaDoor
/-- by a goto to a label: J of it; else Q -/
def jumpsTo (J : Nat → Act → World → Prop) (Q : Exit → Act → World → Prop) : Exit → Act → World → Prop
  | .goto l, a, w => J l a w
  | e, a, w => Q e a w
theorem wp_scope_many {P : Program} {a : Act} {w : World} {Q : Exit → Act → World → Prop} {c : Code} (J : Nat → Nat → Act → World → Prop) (rest : Nat → Option Code) (hf : ∀ l, findLabel c l = rest l) (hJ : ∀ l m a w, J l m a w → (rest l).isSome = true)
    (first : c.wp P (jumpsTo (fun l a w => ∃ m, J l m a w) Q) a w)
    (pass : ∀ l r m a w, J l m a w → rest l = some r → r.wp P (jumpsTo (fun l' a' w' => ∃ m', m' < m ∧ J l' m' a' w') Q) a w) : (Code.scope c).wp P Q a w := by
  intro b k cs
  have hg : ∀ l r, rest l = some r → gotoIn l (.inScope c :: k) = some (.code r :: .inScope c :: k) := fun l r hr => by simp [gotoIn, hf l, hr]
  have key : ∀ m l r a w, J l m a w → rest l = some r → ∃ e a' w', Q e a' w' ∧ Arrives P (lone (b.at a (.code r :: .inScope c :: k)) cs w) b k cs e a' w' := by
    intro m
    induction m using Nat.strongRecOn with
    | _ m ih =>
      intro l r a w hj hr
      obtain ⟨e, a₁, w₁, hq, harr⟩ := pass l r m a w hj hr b (.inScope c :: k) cs
      cases e with
      | normal => exact ⟨.normal, a₁, w₁, hq, Steps.trans harr (.one step_inScope)⟩
      | exit id => exact ⟨.exit id, a₁, w₁, hq, fun k' hk => harr k' (by simp [exitTo, hk])⟩
      | goto l' =>
        obtain ⟨m', hlt, hj'⟩ := hq
        obtain ⟨r', hr'⟩ := Option.isSome_iff_exists.1 (hJ _ _ _ _ hj')
        obtain ⟨e₂, a₂, w₂, hq₂, harr₂⟩ := ih m' hlt l' r' a₁ w₁ hj' hr'
        exact ⟨e₂, a₂, w₂, hq₂, .of_steps (harr _ (hg _ _ hr')) harr₂⟩
      | ret => exact ⟨_, a₁, w₁, hq, harr⟩
      | panic ch => exact ⟨_, a₁, w₁, hq, harr⟩
      | outgrown => exact ⟨_, a₁, w₁, hq, harr⟩
  obtain ⟨e, a₁, w₁, hq, harr⟩ := first b (.inScope c :: k) cs
  cases e with
  | normal => exact ⟨.normal, a₁, w₁, hq, .head step_scope (Steps.trans harr (.one step_inScope))⟩
  | exit id => exact ⟨.exit id, a₁, w₁, hq, fun k' hk => .head step_scope (harr k' (by simp [exitTo, hk]))⟩
  | goto l' =>
    obtain ⟨m', hj'⟩ := hq
    obtain ⟨r', hr'⟩ := Option.isSome_iff_exists.1 (hJ _ _ _ _ hj')
    obtain ⟨e₂, a₂, w₂, hq₂, harr₂⟩ := key m' l' r' a₁ w₁ hj' hr'
    exact ⟨e₂, a₂, w₂, hq₂, .of_steps (.head step_scope (harr _ (hg _ _ hr'))) harr₂⟩
  | ret => exact ⟨_, a₁, w₁, hq, .of_steps (.one step_scope) harr⟩
  | panic ch => exact ⟨_, a₁, w₁, hq, .of_steps (.one step_scope) harr⟩
  | outgrown => exact ⟨_, a₁, w₁, hq, .of_steps (.one step_scope) harr⟩
theorem jumps_mono {P : Program} {Q : Exit → Act → World → Prop} {c : Code} {X Y : Nat → Act → World → Prop} {a : Act} {w : World} (h : ∀ l a w, X l a w → Y l a w) (hc : c.wp P (jumpsTo X Q) a w) : c.wp P (jumpsTo Y Q) a w := by
  refine Code.wp_mono (fun e a' w' hq => ?_) hc
  cases e <;> first | exact h _ _ _ hq | exact hq
/-- a scope with two labels -/
theorem wp_scope_two {P : Program} {a : Act} {w : World} {Q : Exit → Act → World → Prop} {c : Code} (l0 l1 : Nat) (J0 J1 : Nat → Act → World → Prop) {r0 r1 : Code} (h0 : findLabel c l0 = some (Code.skip.seq r0)) (h1 : findLabel c l1 = some (Code.skip.seq r1))
    (pass1 : ∀ m a w, J1 m a w → r1.wp P (jumpsTo (fun l a' w' => ∃ m', m' < m ∧ (l = l0 ∧ J0 m' a' w' ∨ l = l1 ∧ J1 m' a' w')) Q) a w)
    (pass0 : (∀ m a w, J1 m a w → r1.wp P (jumpsTo (fun l a' w' => ∃ m', m' < m ∧ (l = l0 ∧ J0 m' a' w' ∨ l = l1 ∧ J1 m' a' w')) Q) a w) → ∀ m a w, J0 m a w → r0.wp P (jumpsTo (fun l a' w' => ∃ m', m' < m ∧ (l = l0 ∧ J0 m' a' w' ∨ l = l1 ∧ J1 m' a' w')) Q) a w)
    (first : (∀ m a w, J0 m a w → r0.wp P (jumpsTo (fun l a' w' => ∃ m', m' < m ∧ (l = l0 ∧ J0 m' a' w' ∨ l = l1 ∧ J1 m' a' w')) Q) a w) → c.wp P (jumpsTo (fun l a w => ∃ m, (l = l0 ∧ J0 m a w ∨ l = l1 ∧ J1 m a w)) Q) a w) : (Code.scope c).wp P Q a w := by
  refine wp_scope_many (fun l m a w => l = l0 ∧ J0 m a w ∨ l = l1 ∧ J1 m a w) (fun l => findLabel c l) (fun _ => rfl) ?_ (first (pass0 pass1)) ?_
  · rintro l m a w (⟨rfl, _⟩ | ⟨rfl, _⟩)
    · rw [h0]; rfl
    · rw [h1]; rfl
  · rintro l r m a w (⟨rfl, h⟩ | ⟨rfl, h⟩) hr
    · obtain rfl : r = Code.skip.seq r0 := Option.some.inj (hr.symm.trans h0)
      exact wp_seq (wp_skip (pass0 pass1 m a w h))
    · obtain rfl : r = Code.skip.seq r1 := Option.some.inj (hr.symm.trans h1)
      exact wp_seq (wp_skip (pass1 m a w h))
/-- a scope with one label -/
theorem wp_scope_one {P : Program} {a : Act} {w : World} {Q : Exit → Act → World → Prop} {c : Code} (l0 : Nat) (J0 : Nat → Act → World → Prop) {r0 : Code} (h0 : findLabel c l0 = some (Code.skip.seq r0))
    (pass0 : ∀ m a w, J0 m a w → r0.wp P (jumpsTo (fun l a' w' => ∃ m', m' < m ∧ l = l0 ∧ J0 m' a' w') Q) a w)
    (first : (∀ m a w, J0 m a w → r0.wp P (jumpsTo (fun l a' w' => ∃ m', m' < m ∧ l = l0 ∧ J0 m' a' w') Q) a w) → c.wp P (jumpsTo (fun l a w => ∃ m, l = l0 ∧ J0 m a w) Q) a w) : (Code.scope c).wp P Q a w := by
  refine wp_scope_many (fun l m a w => l = l0 ∧ J0 m a w) (fun l => findLabel c l) (fun _ => rfl) ?_ (first pass0) ?_
  · rintro l m a w ⟨rfl, _⟩
    rw [h0]; rfl
  · rintro l r m a w ⟨rfl, h⟩ hr
    obtain rfl : r = Code.skip.seq r0 := Option.some.inj (hr.symm.trans h0)
    exact wp_seq (wp_skip (pass0 m a w h))
/-- these slots hold these values -/
def slotsF (f : Nat → Value) : List (Nat × Value) → Prop
  | [] => True
  | p :: r => f p.1 = p.2 ∧ slotsF f r
/-- a frame of n slots, of which some are known -/
structure Slots (a : Act) (n : Nat) (L : List (Nat × Value)) : Prop where
  defers : a.defers = []
  size : a.tmps.size = n
  slots : slotsF (fun i => a.tmps.getD i undef) L
theorem Slots.frame {a : Act} {n : Nat} {L : List (Nat × Value)} (h : Slots a n L) : ∃ f : Nat → Value, slotsF f L ∧ a = ⟨⟨(List.range n).map f⟩, []⟩ := by
  obtain ⟨hd, hs, hl⟩ := h
  obtain ⟨t, d⟩ := a
  dsimp only at hd hs hl
  subst hd
  have e : t = ⟨(List.range n).map fun i => t.getD i undef⟩ := by
    obtain ⟨l⟩ := t
    congr 1
    apply List.ext_getElem
    · simpa using hs
    · intro i h1 h2
      simp [Array.getD_eq_getD_getElem?, h1]
  exact ⟨fun i => t.getD i undef, hl, by rw [← e]⟩
end Go.Proofs.YtdkknincamkhpaaDoor
