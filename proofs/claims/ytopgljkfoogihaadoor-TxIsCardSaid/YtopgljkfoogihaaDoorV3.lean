/- florinref08.Get: its state. -/
import Derived.Test.YtopgljkfoogihaaDoorV2
import Derived.Laws.Tables
namespace Go.Proofs.YtopgljkfoogihaaDoor
open Go.RowKit
/-- a row built with one part given -/
theorem wpList_build1F {P : Program} {ty : TypeId} {i : Nat} {x : Operand} {v : Value} {cells : Array Value} {ops : Array Oper} {rest : List Oper} {a : Act} {w : World} {Q : Exit → Act → World → Prop} {d tp pos af} (hx : a.eval x = v) (hb : P.built ty [(i, v)] = some cells)
    (k : wpList P ops Q rest (a.put d (.agg cells)) w) : wpList P ops Q (⟨d, .build ty #[(i, x)], tp, pos, af, none⟩ :: rest) a w := by
  have hr := run_build w ty #[(i, v)] cells hb
  refine wpList_execW rfl ?_ k
  subst hx
  simp only [execOp, Sem.run_bind, List.map_toArray, List.map_cons, List.map_nil]
  exact (congrArg (fun r : Result Value => r.andThen fun v w' => (pure (Next.value v) : Sem Next).run P w') hr).trans rfl
theorem built_In0 (v0 v1 v2 v3 v4 v5 v6 v7 v8 v9 v10 v11 v12 v13 v14 v15 v16 v17 v18 v19 v20 v21 v22 v23 v24 v25 v26 v27 v28 v29 v30 v31 : Value) : Tryd.prog.built 62 [(0, .agg #[v0, v1, v2, v3, v4, v5, v6, v7, v8, v9, v10, v11, v12, v13, v14, v15, v16, v17, v18, v19, v20, v21, v22, v23, v24, v25, v26, v27, v28, v29, v30, v31])] = some #[v0, v1, v2, v3, v4, v5, v6, v7, v8, v9, v10, v11, v12, v13, v14, v15, v16, v17, v18, v19, v20, v21, v22, v23, v24, v25, v26, v27, v28, v29, v30, v31, .int .u32 0, .slice none 0 0, .int .u32 0] := by kernel_rfl
theorem built_In (ph : List Value) (h : ph.length = 32) : Tryd.prog.built 62 [(0, .agg ph.toArray)] = some (ph ++ ([.int .u32 0, .slice none 0 0, .int .u32 0] : List Value)).toArray := by
  match ph, h with
  | [v0, v1, v2, v3, v4, v5, v6, v7, v8, v9, v10, v11, v12, v13, v14, v15, v16, v17, v18, v19, v20, v21, v22, v23, v24, v25, v26, v27, v28, v29, v30, v31], _ => exact built_In0 v0 v1 v2 v3 v4 v5 v6 v7 v8 v9 v10 v11 v12 v13 v14 v15 v16 v17 v18 v19 v20 v21 v22 v23 v24 v25 v26 v27 v28 v29 v30 v31
theorem Av.allocN (w : World) (l : List Value) (t : TypeId) : Av (w.alloc (.cells l.toArray t)) w.heap.size t l := heap_alloc_new _ _
theorem infoIR : (Tryd.prog.info? 62).map (fun i => (i.size, i.bytes)) = some (35, 72) := by kernel_rfl
theorem zeroIR : (Tryd.prog.info? 62).map (fun i => (i.zero.map (·.cells.size))) = some (some 35) := by kernel_rfl
theorem infoOR : (Tryd.prog.info? 63).map (fun i => (i.size, i.bytes)) = some (2, 32) := by kernel_rfl
theorem zeroOR : (Tryd.prog.info? 63).map (fun i => (i.zero.map (·.cells.size))) = some (some 2) := by kernel_rfl
/-- florinref08.Get's state: H: the result, then the reader; T: the transaction -/
structure GStR (A : Option Addr) (n c : Nat) (H T : Nat) (w wr : World) (a e : Nat) (ver : Int) (l : List (TIn × Sl)) (m : List (TOut × Sl)) (v1 v2 : Value) : Prop where
  r : Av wr H 26 [.int .u32 0, .slice none 0 0, .slice none 0 0, .int .u32 0]
  s : Av wr (H + 1) 79 (rdc8 A n c a e)
  hT : H + 2 ≤ T
  t : Av wr T 26 [.int .u32 ver, v1, v2, .int .u32 0]
  o1 : wr.ownsRow (T + 1) 62 35 v1 l.length (icl l)
  o2 : wr.ownsRow (T + 1) 63 2 v2 m.length (ocl m)
  i1 : ∀ x ∈ l, InAt wr x ∧ Apart (T + 1) v1 v2 x.2 x.1.scr
  i2 : ∀ x ∈ m, OutAt wr x ∧ Apart (T + 1) v1 v2 x.2 x.1.scr
  d : ∀ k, v1.ownBlock = some k → v2.ownBlock ≠ some k
  hb : T + 1 ≤ wr.heap.size
  hw : w.heap.size = H
  bel : Below H w wr
theorem GStR.base {A : Option Addr} {n c H T : Nat} {w wr : World} {a e : Nat} {ver : Int} {l : List (TIn × Sl)} {m : List (TOut × Sl)} {v1 v2 : Value} (h : GStR A n c H T w wr a e ver l m v1 v2) : Below w.heap.size w wr := by
  rw [h.hw]; exact h.bel
/-- the source has gone on, and new memory was made -/
theorem GStR.on {A : Option Addr} {n c H T : Nat} {w wr w' : World} {a e a' e' : Nat} {ver : Int} {l : List (TIn × Sl)} {m : List (TOut × Sl)} {v1 v2 : Value} (h : GStR A n c H T w wr a e ver l m v1 v2) (hs : Av w' (H + 1) 79 (rdc8 A n c a' e')) (hf : Fr (fun k => k = H + 1) wr w') : GStR A n c H T w w' a' e' ver l m v1 v2 := by
  have hT := h.hT
  have row1 : ∀ k, v1.ownBlock = some k → ¬ k = H + 1 := fun k hk e => by have := (World.ownsRow.lt h.o1 k hk).1; omega
  have row2 : ∀ k, v2.ownBlock = some k → ¬ k = H + 1 := fun k hk e => by have := (World.ownsRow.lt h.o2 k hk).1; omega
  have sc : ∀ (s : Sl) (scr : List UInt8), Apart (T + 1) v1 v2 s scr → Rd wr s.1 (scr.map bv) → Rd w' s.1 (scr.map bv) := by
    intro s scr ha hr
    by_cases h0 : scr = []
    · rw [h0]; exact Rd.nil _ _
    · exact hf.rd hr fun b hb e => by have := (ha h0 b hb).1; omega
  refine ⟨hf.av h.r (by omega), hs, h.hT, hf.av h.t (by omega), own_fr h.o1 hf row1, own_fr h.o2 hf row2, fun x hx => ?_, fun x hx => ?_, h.d, Nat.le_trans h.hb hf.size, h.hw, h.bel.trans (hf.below (fun k hk => by omega) (by have := h.hb; omega))⟩
  · obtain ⟨⟨x1, x2, x3⟩, x4⟩ := h.i1 x hx
    exact ⟨⟨x1, sc _ _ x4 x2, x3⟩, x4⟩
  · obtain ⟨⟨x1, x2, x3⟩, x4⟩ := h.i2 x hx
    exact ⟨⟨x1, sc _ _ x4 x2, x3⟩, x4⟩
theorem GStR.below {A : Option Addr} {n c H T : Nat} {w wr w' : World} {a e : Nat} {ver : Int} {l : List (TIn × Sl)} {m : List (TOut × Sl)} {v1 v2 : Value} (h : GStR A n c H T w wr a e ver l m v1 v2) (k : Below wr.heap.size wr w') : GStR A n c H T w w' a e ver l m v1 v2 :=
  h.on (h.s.below k) (Below.fr k)
theorem GStR.src {A : Option Addr} {n c H T : Nat} {w wr w' : World} {a e a' e' : Nat} {ver : Int} {l : List (TIn × Sl)} {m : List (TOut × Sl)} {v1 v2 : Value} (h : GStR A n c H T w wr a e ver l m v1 v2) (k : RdTo (H + 1) (rdc8 A n c a' e') wr w') : GStR A n c H T w w' a' e' ver l m v1 v2 := h.on k.1 k.2
/-- the version, the lock time have been stored -/
theorem GStR.setv {A : Option Addr} {n c H T : Nat} {w wr : World} {a e : Nat} {l : List (TIn × Sl)} {m : List (TOut × Sl)} {v1 v2 : Value} (h : GStR A n c H T w wr a e 0 l m v1 v2) (V : Int) : GStR A n c H T w (wr.setCell ⟨T, 0, none⟩ (.int .u32 V)) a e V l m v1 v2 := by
  have hT := h.hT
  have row1 : ∀ k, v1.ownBlock = some k → ¬ k = T := fun k hk e => by have := (World.ownsRow.lt h.o1 k hk).1; omega
  have row2 : ∀ k, v2.ownBlock = some k → ¬ k = T := fun k hk e => by have := (World.ownsRow.lt h.o2 k hk).1; omega
  have hf := Fr.setCell wr ⟨T, 0, none⟩ (.int .u32 V)
  have sc : ∀ (s : Sl) (scr : List UInt8), Apart (T + 1) v1 v2 s scr → Rd wr s.1 (scr.map bv) → Rd (wr.setCell ⟨T, 0, none⟩ (.int .u32 V)) s.1 (scr.map bv) := by
    intro s scr ha hr
    by_cases h0 : scr = []
    · rw [h0]; exact Rd.nil _ _
    · exact hf.rd hr fun b hb e => by have := (ha h0 b hb).1; simp only at e; omega
  refine ⟨hf.av h.r (by simp only; omega), hf.av h.s (by simp only; omega), h.hT, h.t.set 0 _, own_fr h.o1 hf row1, own_fr h.o2 hf row2, fun x hx => ?_, fun x hx => ?_, h.d, by simp; exact h.hb, h.hw, h.bel.setCell (by simp only; omega) _⟩
  · obtain ⟨⟨x1, x2, x3⟩, x4⟩ := h.i1 x hx
    exact ⟨⟨x1, sc _ _ x4 x2, x3⟩, x4⟩
  · obtain ⟨⟨x1, x2, x3⟩, x4⟩ := h.i2 x hx
    exact ⟨⟨x1, sc _ _ x4 x2, x3⟩, x4⟩
/-- an input has been appended -/
theorem GStR.push1 {A : Option Addr} {n c H T : Nat} {w wr w1 : World} {a e : Nat} {ver : Int} {l : List (TIn × Sl)} {m : List (TOut × Sl)} {v1 v2 v1' : Value} (h : GStR A n c H T w wr a e ver l m v1 v2) (x : TIn × Sl) (hx : InAt wr x) (ha : Apart (T + 1) v1 v2 x.2 x.1.scr)
    (ho : w1.ownsRow (T + 1) 62 35 v1' (l.length + 1) (icl (l ++ [x]))) (hg : wr.grownBy w1 v1.ownBlock) (hr : v1'.ownBlock = v1.ownBlock ∨ v1'.ownBlock = some wr.heap.size) :
    GStR A n c H T w (w1.setCell ⟨T, 1, none⟩ v1') a e ver (l ++ [x]) m v1' v2 := by
  have hT := h.hT
  have rowlt := fun k hk => World.ownsRow.lt h.o1 k hk
  have row2lt := fun k hk => World.ownsRow.lt h.o2 k hk
  have st : ∀ k, k < T + 1 → v1.ownBlock ≠ some k := fun k hk e => by have := (rowlt k e).1; omega
  have hbb := h.hb
  have keepA : ∀ g t cs, g < T + 1 → g ≠ T → Av wr g t cs → Av (w1.setCell ⟨T, 1, none⟩ v1') g t cs := fun g t cs hg4 hg3 hav =>
    (hav.same (hg.block g hav.lt (fun e => st g hg4 e.symm))).other _ _ (by simpa using hg3)
  have n1 : ∀ k, v1'.ownBlock = some k → T + 1 ≤ k := fun k hk => (World.ownsRow.lt ho k hk).1
  have apart' : ∀ (s : Sl) (scr : List UInt8), Apart (T + 1) v1 v2 s scr → Rd wr s.1 (scr.map bv) → Apart (T + 1) v1' v2 s scr := by
    intro s scr hp hrd h0 b hb
    obtain ⟨p1, p2, p3⟩ := hp h0 b hb
    refine ⟨p1, fun e => ?_, p3⟩
    rcases hr with e' | e'
    · exact p2 (e'.symm.trans e)
    · rw [e'] at e; injection e with e
      have := hrd.lt (by simpa using h0) b hb
      omega
  have sc : ∀ (s : Sl) (scr : List UInt8), Apart (T + 1) v1 v2 s scr → Rd wr s.1 (scr.map bv) → Rd (w1.setCell ⟨T, 1, none⟩ v1') s.1 (scr.map bv) := by
    intro s scr hp hrd
    by_cases h0 : scr = []
    · rw [h0]; exact Rd.nil _ _
    · have hf : Fr (fun k => some k = v1.ownBlock ∨ k = T) wr (w1.setCell ⟨T, 1, none⟩ v1') := ((Fr.of_grown hg).weaken fun k _ e => .inl e).trans ((Fr.setCell w1 ⟨T, 1, none⟩ v1').weaken fun k _ e => .inr e)
      refine hf.rd hrd fun b hb e => ?_
      obtain ⟨p1, p2, p3⟩ := hp h0 b hb
      rcases e with e | e
      · exact p2 e.symm
      · omega
  have in' : ∀ y : TIn × Sl, InAt wr y → Apart (T + 1) v1 v2 y.2 y.1.scr → InAt (w1.setCell ⟨T, 1, none⟩ v1') y ∧ Apart (T + 1) v1' v2 y.2 y.1.scr := fun y hy hp => ⟨⟨hy.1, sc _ _ hp hy.2.1, hy.2.2⟩, apart' _ _ hp hy.2.1⟩
  have out' : ∀ y : TOut × Sl, OutAt wr y → Apart (T + 1) v1 v2 y.2 y.1.scr → OutAt (w1.setCell ⟨T, 1, none⟩ v1') y ∧ Apart (T + 1) v1' v2 y.2 y.1.scr := fun y hy hp => ⟨⟨hy.1, sc _ _ hp hy.2.1, hy.2.2⟩, apart' _ _ hp hy.2.1⟩
  refine ⟨keepA _ _ _ (by omega) (by omega) h.r, keepA _ _ _ (by omega) (by omega) h.s, h.hT, ?_, ?_, ?_, ?_, ?_, ?_, ?_, h.hw, ?_⟩
  · have := (h.t.same (hg.block (T) h.t.lt (fun e => st _ (by omega) e.symm))).set 1 v1'
    exact this
  · refine own_fr (by rw [List.length_append]; exact ho) (Fr.setCell w1 ⟨T, 1, none⟩ v1') fun k hk e => ?_
    have := n1 k hk; simp only at e; omega
  · have f1 : w1.ownsRow (T + 1) 63 2 v2 m.length (ocl m) := own_fr h.o2 (Fr.of_grown hg) fun k hk e => h.d k e.symm hk
    refine own_fr f1 (Fr.setCell w1 ⟨T, 1, none⟩ v1') fun k hk e => ?_
    have := (row2lt k hk).1; simp only at e; omega
  · intro y hy
    rcases List.mem_append.1 hy with hy | hy
    · exact in' y (h.i1 y hy).1 (h.i1 y hy).2
    · rw [List.mem_singleton.1 hy]; exact in' x hx ha
  · intro y hy
    exact out' y (h.i2 y hy).1 (h.i2 y hy).2
  · intro k hk e
    rcases hr with e' | e'
    · exact h.d k (e'.symm.trans hk) e
    · rw [e'] at hk; injection hk with hk
      have := (row2lt k e).2
      omega
  · have := hg.size; simp; omega
  · refine (h.bel.trans ((Fr.of_grown hg).below (fun k hk => by have := (rowlt k hk.symm).1; omega) (by omega))).setCell (by simp only; omega) _
/-- an output has been appended -/
theorem GStR.push2 {A : Option Addr} {n c H T : Nat} {w wr w1 : World} {a e : Nat} {ver : Int} {l : List (TIn × Sl)} {m : List (TOut × Sl)} {v1 v2 v2' : Value} (h : GStR A n c H T w wr a e ver l m v1 v2) (x : TOut × Sl) (hx : OutAt wr x) (ha : Apart (T + 1) v1 v2 x.2 x.1.scr)
    (ho : w1.ownsRow (T + 1) 63 2 v2' (m.length + 1) (ocl (m ++ [x]))) (hg : wr.grownBy w1 v2.ownBlock) (hr : v2'.ownBlock = v2.ownBlock ∨ v2'.ownBlock = some wr.heap.size) :
    GStR A n c H T w (w1.setCell ⟨T, 2, none⟩ v2') a e ver l (m ++ [x]) v1 v2' := by
  have hT := h.hT
  have rowlt := fun k hk => World.ownsRow.lt h.o2 k hk
  have row1lt := fun k hk => World.ownsRow.lt h.o1 k hk
  have st : ∀ k, k < T + 1 → v2.ownBlock ≠ some k := fun k hk e => by have := (rowlt k e).1; omega
  have hbb := h.hb
  have keepA : ∀ g t cs, g < T + 1 → g ≠ T → Av wr g t cs → Av (w1.setCell ⟨T, 2, none⟩ v2') g t cs := fun g t cs hg4 hg3 hav =>
    (hav.same (hg.block g hav.lt (fun e => st g hg4 e.symm))).other _ _ (by simpa using hg3)
  have n1 : ∀ k, v2'.ownBlock = some k → T + 1 ≤ k := fun k hk => (World.ownsRow.lt ho k hk).1
  have apart' : ∀ (s : Sl) (scr : List UInt8), Apart (T + 1) v1 v2 s scr → Rd wr s.1 (scr.map bv) → Apart (T + 1) v1 v2' s scr := by
    intro s scr hp hrd h0 b hb
    obtain ⟨p1, p2, p3⟩ := hp h0 b hb
    refine ⟨p1, p2, fun e => ?_⟩
    rcases hr with e' | e'
    · exact p3 (e'.symm.trans e)
    · rw [e'] at e; injection e with e
      have := hrd.lt (by simpa using h0) b hb
      omega
  have sc : ∀ (s : Sl) (scr : List UInt8), Apart (T + 1) v1 v2 s scr → Rd wr s.1 (scr.map bv) → Rd (w1.setCell ⟨T, 2, none⟩ v2') s.1 (scr.map bv) := by
    intro s scr hp hrd
    by_cases h0 : scr = []
    · rw [h0]; exact Rd.nil _ _
    · have hf : Fr (fun k => some k = v2.ownBlock ∨ k = T) wr (w1.setCell ⟨T, 2, none⟩ v2') := ((Fr.of_grown hg).weaken fun k _ e => .inl e).trans ((Fr.setCell w1 ⟨T, 2, none⟩ v2').weaken fun k _ e => .inr e)
      refine hf.rd hrd fun b hb e => ?_
      obtain ⟨p1, p2, p3⟩ := hp h0 b hb
      rcases e with e | e
      · exact p3 e.symm
      · omega
  have in' : ∀ y : TIn × Sl, InAt wr y → Apart (T + 1) v1 v2 y.2 y.1.scr → InAt (w1.setCell ⟨T, 2, none⟩ v2') y ∧ Apart (T + 1) v1 v2' y.2 y.1.scr := fun y hy hp => ⟨⟨hy.1, sc _ _ hp hy.2.1, hy.2.2⟩, apart' _ _ hp hy.2.1⟩
  have out' : ∀ y : TOut × Sl, OutAt wr y → Apart (T + 1) v1 v2 y.2 y.1.scr → OutAt (w1.setCell ⟨T, 2, none⟩ v2') y ∧ Apart (T + 1) v1 v2' y.2 y.1.scr := fun y hy hp => ⟨⟨hy.1, sc _ _ hp hy.2.1, hy.2.2⟩, apart' _ _ hp hy.2.1⟩
  refine ⟨keepA _ _ _ (by omega) (by omega) h.r, keepA _ _ _ (by omega) (by omega) h.s, h.hT, ?_, ?_, ?_, ?_, ?_, ?_, ?_, h.hw, ?_⟩
  · have := (h.t.same (hg.block (T) h.t.lt (fun e => st _ (by omega) e.symm))).set 2 v2'
    exact this
  · have f1 : w1.ownsRow (T + 1) 62 35 v1 l.length (icl l) := own_fr h.o1 (Fr.of_grown hg) fun k hk e => h.d k hk e.symm
    refine own_fr f1 (Fr.setCell w1 ⟨T, 2, none⟩ v2') fun k hk e => ?_
    have := (row1lt k hk).1; simp only at e; omega
  · refine own_fr (by rw [List.length_append]; exact ho) (Fr.setCell w1 ⟨T, 2, none⟩ v2') fun k hk e => ?_
    have := n1 k hk; simp only at e; omega
  · intro y hy
    exact in' y (h.i1 y hy).1 (h.i1 y hy).2
  · intro y hy
    rcases List.mem_append.1 hy with hy | hy
    · exact out' y (h.i2 y hy).1 (h.i2 y hy).2
    · rw [List.mem_singleton.1 hy]; exact out' x hx ha
  · intro k hk e
    rcases hr with e' | e'
    · exact h.d k hk (e'.symm.trans e)
    · rw [e'] at e; injection e with e
      have := (row1lt k hk).2
      omega
  · have := hg.size; simp; omega
  · refine (h.bel.trans ((Fr.of_grown hg).below (fun k hk => by have := (rowlt k hk.symm).1; omega) (by omega))).setCell (by simp only; omega) _
end Go.Proofs.YtopgljkfoogihaaDoor
