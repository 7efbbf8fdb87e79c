/- tx.Get. -/
import Derived.Test.YtopgljkfoogihaaDoorTxG1
import Derived.Test.YtopgljkfoogihaaDoorTxS
import Derived.Test.YtopgljkfoogihaaDoorBld
import Derived.Laws.EntriesVeiled
namespace Go.Proofs.YtopgljkfoogihaaDoor
open Go.RowKit

def padH (x : List UInt8) : List UInt8 := x ++ List.replicate (32 - x.length) 0
/-- one input, one output -/
def gIn (bs : List UInt8) (a e : Nat) : TIn × Nat × Nat :=
  let p := sTake bs a e 32
  let i := sTake bs p.2.1 p.2.2 4
  let s := sScript bs i.2.1 i.2.2
  let q := sTake bs s.2.1 s.2.2 4
  (⟨padH p.1, Cm.le i.1, s.1, Cm.le q.1⟩, q.2)
def gOut (bs : List UInt8) (a e : Nat) : TOut × Nat × Nat :=
  let v := sTake bs a e 8
  let s := sScript bs v.2.1 v.2.2
  (⟨Cm.le v.1, s.1⟩, s.2)
/-- many -/
def gMany {α : Type} (f : Nat → Nat → α × Nat × Nat) : Nat → Nat → Nat → List α × Nat × Nat
  | 0, a, e => ([], a, e)
  | k + 1, a, e => if e ≠ 0 then ([], a, e) else ((f a e).1 :: (gMany f k (f a e).2.1 (f a e).2.2).1, (gMany f k (f a e).2.1 (f a e).2.2).2)
theorem gMany_stop {α : Type} (f : Nat → Nat → α × Nat × Nat) (k a e : Nat) (h : e ≠ 0) : gMany f k a e = ([], a, e) := by
  cases k with
  | zero => rfl
  | succ k => rw [gMany, if_pos h]
theorem gMany_go {α : Type} (f : Nat → Nat → α × Nat × Nat) (k a : Nat) : gMany f (k + 1) a 0 = ((f a 0).1 :: (gMany f k (f a 0).2.1 (f a 0).2.2).1, (gMany f k (f a 0).2.1 (f a 0).2.2).2) := by
  rw [gMany, if_neg (by simp)]
def txGet (bs : List UInt8) : TTx × Nat × Nat :=
  let v := sTake bs 0 0 4
  let n := sCount bs v.2.1 v.2.2 1000
  let ins := gMany (gIn bs) n.1 n.2.1 (if n.2.2 = 0 ∧ n.1 = 0 then 2 else n.2.2)
  let m := sCount bs ins.2.1 ins.2.2 1000
  let outs := gMany (gOut bs) m.1 m.2.1 m.2.2
  let l := sTake bs outs.2.1 outs.2.2 4
  if l.2.2 ≠ 0 then (⟨0, [], [], 0⟩, 0, l.2.2) else (⟨Cm.le v.1, ins.1, outs.1, Cm.le l.1⟩, l.2.1, 0)

theorem sTake_le (bs : List UInt8) (a e sz : Nat) (h : a ≤ bs.length) : (sTake bs a e sz).2.1 ≤ bs.length ∧ (sTake bs a e sz).1.length ≤ sz := by
  unfold sTake
  split
  · exact ⟨h, by simp⟩
  · split
    · exact ⟨h, by simp⟩
    · simp only [List.length_take]; omega
theorem get_le (l : List UInt8) : (Cm.get l).2.1 ≤ l.length := by
  unfold Cm.get
  cases l with
  | nil => simp
  | cons b r =>
    dsimp only
    split
    · simp
    · split
      · simp
      · split
        · simp
        · simp only [List.length_cons]; omega
theorem bounded_le (l : List UInt8) (most : Nat) : (Cm.bounded l most).2.1 ≤ l.length := by
  unfold Cm.bounded
  split
  · simp
  · split
    · simp
    · exact get_le l
theorem bytes_le (l : List UInt8) (most : Int) : (Cm.bytes l most).2.1 ≤ l.length := by
  have := bounded_le l most.toNat
  unfold Cm.bytes
  split
  · simp
  · split
    · simp
    · split
      · simp
      · simp only; omega
theorem sCount_le (bs : List UInt8) (a e most : Nat) (h : a ≤ bs.length) : (sCount bs a e most).2.1 ≤ bs.length ∧ (sCount bs a e most).1 ≤ most := by
  have h1 := bounded_le (bs.drop a) most
  have h2 := bounded_fst (bs.drop a) most
  rw [List.length_drop] at h1
  unfold sCount
  split
  · exact ⟨h, by simp⟩
  · exact ⟨by simp only; omega, h2⟩
theorem sScript_le (bs : List UInt8) (a e : Nat) (h : a ≤ bs.length) : (sScript bs a e).2.1 ≤ bs.length := by
  have h1 := bytes_le (bs.drop a) 10000
  rw [List.length_drop] at h1
  unfold sScript
  split
  · exact h
  · simp only; omega
theorem le_lt_of (x : List UInt8) (k : Nat) (h : x.length ≤ k) : Cm.le x < 256 ^ k := Nat.lt_of_lt_of_le (Cm.le_lt x) (Nat.pow_le_pow_right (by omega) h)
theorem padH_length (x : List UInt8) (h : x.length ≤ 32) : (padH x).length = 32 := by simp [padH]; omega

theorem get_app {α : Type} {l r : List α} {k : Nat} (h : l.length = k) (j : Nat) : (l ++ r)[k + j]? = r[j]? := by
  rw [List.getElem?_append_right (by omega), h, Nat.add_sub_cancel_left]
theorem set_app {α : Type} {l r : List α} {k : Nat} (h : l.length = k) (j : Nat) {x : α} : (l ++ r).set (k + j) x = l ++ r.set j x := by
  rw [List.set_append_right _ _ (by omega), h, Nat.add_sub_cancel_left]
theorem infoI : (Tryd.prog.info? 58).map (fun i => (i.size, i.bytes)) = some (35, 72) := by kernel_rfl
theorem zeroI : (Tryd.prog.info? 58).map (fun i => (i.zero.map (·.cells.size))) = some (some 35) := by kernel_rfl
theorem infoO : (Tryd.prog.info? 61).map (fun i => (i.size, i.bytes)) = some (2, 32) := by kernel_rfl
theorem zeroO : (Tryd.prog.info? 61).map (fun i => (i.zero.map (·.cells.size))) = some (some 2) := by kernel_rfl

/-- an element's script lies apart from two rows, at or beyond base -/
def Apart (base : Nat) (v1 v2 : Value) (s : Sl) (scr : List UInt8) : Prop := scr ≠ [] → ∀ a, s.1 = some a → base ≤ a.block ∧ v1.ownBlock ≠ some a.block ∧ v2.ownBlock ≠ some a.block
/-- Get's state: H: where its own memory begins: the result, the source, its pointer, the transaction -/
structure GSt (A : Option Addr) (n c : Nat) (H : Nat) (w wr : World) (a e : Nat) (ver : Int) (l : List (TIn × Sl)) (m : List (TOut × Sl)) (v1 v2 : Value) : Prop where
  r : Av wr H 36 [.int .u32 0, .slice none 0 0, .slice none 0 0, .int .u32 0]
  s : Av wr (H + 1) 72 (srcc A n c a e)
  p : Av wr (H + 2) 70 [.pointer (some ⟨H + 1, 0, none⟩)]
  t : Av wr (H + 3) 36 [.int .u32 ver, v1, v2, .int .u32 0]
  o1 : wr.ownsRow (H + 4) 58 35 v1 l.length (icl l)
  o2 : wr.ownsRow (H + 4) 61 2 v2 m.length (ocl m)
  i1 : ∀ x ∈ l, InAt wr x ∧ Apart (H + 4) v1 v2 x.2 x.1.scr
  i2 : ∀ x ∈ m, OutAt wr x ∧ Apart (H + 4) v1 v2 x.2 x.1.scr
  d : ∀ k, v1.ownBlock = some k → v2.ownBlock ≠ some k
  hb : H + 4 ≤ wr.heap.size
  hw : w.heap.size = H
  bel : Below H w wr
theorem GSt.base {A : Option Addr} {n c H : Nat} {w wr : World} {a e : Nat} {ver : Int} {l : List (TIn × Sl)} {m : List (TOut × Sl)} {v1 v2 : Value} (h : GSt A n c H w wr a e ver l m v1 v2) : Below w.heap.size w wr := by
  rw [h.hw]; exact h.bel
/-- the source has gone on, and new memory was made -/
theorem GSt.on {A : Option Addr} {n c H : Nat} {w wr w' : World} {a e a' e' : Nat} {ver : Int} {l : List (TIn × Sl)} {m : List (TOut × Sl)} {v1 v2 : Value} (h : GSt A n c H w wr a e ver l m v1 v2) (hs : Av w' (H + 1) 72 (srcc A n c a' e')) (hf : Fr (fun k => k = H + 1) wr w') : GSt A n c H w w' a' e' ver l m v1 v2 := by
  have row1 : ∀ k, v1.ownBlock = some k → ¬ k = H + 1 := fun k hk e => by have := (World.ownsRow.lt h.o1 k hk).1; omega
  have row2 : ∀ k, v2.ownBlock = some k → ¬ k = H + 1 := fun k hk e => by have := (World.ownsRow.lt h.o2 k hk).1; omega
  have sc : ∀ (s : Sl) (scr : List UInt8), Apart (H + 4) v1 v2 s scr → Rd wr s.1 (scr.map bv) → Rd w' s.1 (scr.map bv) := by
    intro s scr ha hr
    by_cases h0 : scr = []
    · rw [h0]; exact Rd.nil _ _
    · exact hf.rd hr fun b hb e => by have := (ha h0 b hb).1; omega
  refine ⟨hf.av h.r (by omega), hs, hf.av h.p (by omega), hf.av h.t (by omega), own_fr h.o1 hf row1, own_fr h.o2 hf row2, fun x hx => ?_, fun x hx => ?_, h.d, Nat.le_trans h.hb hf.size, h.hw, h.bel.trans (hf.below (fun k hk => by omega) (by have := h.hb; omega))⟩
  · obtain ⟨⟨x1, x2, x3⟩, x4⟩ := h.i1 x hx
    exact ⟨⟨x1, sc _ _ x4 x2, x3⟩, x4⟩
  · obtain ⟨⟨x1, x2, x3⟩, x4⟩ := h.i2 x hx
    exact ⟨⟨x1, sc _ _ x4 x2, x3⟩, x4⟩
theorem GSt.below {A : Option Addr} {n c H : Nat} {w wr w' : World} {a e : Nat} {ver : Int} {l : List (TIn × Sl)} {m : List (TOut × Sl)} {v1 v2 : Value} (h : GSt A n c H w wr a e ver l m v1 v2) (k : Below wr.heap.size wr w') : GSt A n c H w w' a e ver l m v1 v2 :=
  h.on (h.s.below k) (Below.fr k)
theorem GSt.src {A : Option Addr} {n c H : Nat} {w wr w' : World} {a e a' e' : Nat} {ver : Int} {l : List (TIn × Sl)} {m : List (TOut × Sl)} {v1 v2 : Value} (h : GSt A n c H w wr a e ver l m v1 v2) (k : SrcTo (H + 1) (srcc A n c a' e') wr w') : GSt A n c H w w' a' e' ver l m v1 v2 := h.on k.1 k.2
/-- the version, the lock time have been stored -/
theorem GSt.setv {A : Option Addr} {n c H : Nat} {w wr : World} {a e : Nat} {l : List (TIn × Sl)} {m : List (TOut × Sl)} {v1 v2 : Value} (h : GSt A n c H w wr a e 0 l m v1 v2) (V : Int) : GSt A n c H w (wr.setCell ⟨H + 3, 0, none⟩ (.int .u32 V)) a e V l m v1 v2 := by
  have row1 : ∀ k, v1.ownBlock = some k → ¬ k = H + 3 := fun k hk e => by have := (World.ownsRow.lt h.o1 k hk).1; omega
  have row2 : ∀ k, v2.ownBlock = some k → ¬ k = H + 3 := fun k hk e => by have := (World.ownsRow.lt h.o2 k hk).1; omega
  have hf := Fr.setCell wr ⟨H + 3, 0, none⟩ (.int .u32 V)
  have sc : ∀ (s : Sl) (scr : List UInt8), Apart (H + 4) v1 v2 s scr → Rd wr s.1 (scr.map bv) → Rd (wr.setCell ⟨H + 3, 0, none⟩ (.int .u32 V)) s.1 (scr.map bv) := by
    intro s scr ha hr
    by_cases h0 : scr = []
    · rw [h0]; exact Rd.nil _ _
    · exact hf.rd hr fun b hb e => by have := (ha h0 b hb).1; simp only at e; omega
  refine ⟨hf.av h.r (by simp only; omega), hf.av h.s (by simp only; omega), hf.av h.p (by simp only; omega), h.t.set 0 _, own_fr h.o1 hf row1, own_fr h.o2 hf row2, fun x hx => ?_, fun x hx => ?_, h.d, by simp; exact h.hb, h.hw, h.bel.setCell (by simp only; omega) _⟩
  · obtain ⟨⟨x1, x2, x3⟩, x4⟩ := h.i1 x hx
    exact ⟨⟨x1, sc _ _ x4 x2, x3⟩, x4⟩
  · obtain ⟨⟨x1, x2, x3⟩, x4⟩ := h.i2 x hx
    exact ⟨⟨x1, sc _ _ x4 x2, x3⟩, x4⟩
/-- an input has been appended -/
theorem GSt.push1 {A : Option Addr} {n c H : Nat} {w wr w1 : World} {a e : Nat} {ver : Int} {l : List (TIn × Sl)} {m : List (TOut × Sl)} {v1 v2 v1' : Value} (h : GSt A n c H w wr a e ver l m v1 v2) (x : TIn × Sl) (hx : InAt wr x) (ha : Apart (H + 4) v1 v2 x.2 x.1.scr)
    (ho : w1.ownsRow (H + 4) 58 35 v1' (l.length + 1) (icl (l ++ [x]))) (hg : wr.grownBy w1 v1.ownBlock) (hr : v1'.ownBlock = v1.ownBlock ∨ v1'.ownBlock = some wr.heap.size) :
    GSt A n c H w (w1.setCell ⟨H + 3, 1, none⟩ v1') a e ver (l ++ [x]) m v1' v2 := by
  have rowlt := fun k hk => World.ownsRow.lt h.o1 k hk
  have row2lt := fun k hk => World.ownsRow.lt h.o2 k hk
  have st : ∀ k, k < H + 4 → v1.ownBlock ≠ some k := fun k hk e => by have := (rowlt k e).1; omega
  have hbb := h.hb
  have keepA : ∀ g t cs, g < H + 4 → g ≠ H + 3 → Av wr g t cs → Av (w1.setCell ⟨H + 3, 1, none⟩ v1') g t cs := fun g t cs hg4 hg3 hav =>
    (hav.same (hg.block g hav.lt (fun e => st g hg4 e.symm))).other _ _ (by simpa using hg3)
  have n1 : ∀ k, v1'.ownBlock = some k → H + 4 ≤ k := fun k hk => (World.ownsRow.lt ho k hk).1
  have apart' : ∀ (s : Sl) (scr : List UInt8), Apart (H + 4) v1 v2 s scr → Rd wr s.1 (scr.map bv) → Apart (H + 4) v1' v2 s scr := by
    intro s scr hp hrd h0 b hb
    obtain ⟨p1, p2, p3⟩ := hp h0 b hb
    refine ⟨p1, fun e => ?_, p3⟩
    rcases hr with e' | e'
    · exact p2 (e'.symm.trans e)
    · rw [e'] at e; injection e with e
      have := hrd.lt (by simpa using h0) b hb
      omega
  have sc : ∀ (s : Sl) (scr : List UInt8), Apart (H + 4) v1 v2 s scr → Rd wr s.1 (scr.map bv) → Rd (w1.setCell ⟨H + 3, 1, none⟩ v1') s.1 (scr.map bv) := by
    intro s scr hp hrd
    by_cases h0 : scr = []
    · rw [h0]; exact Rd.nil _ _
    · have hf : Fr (fun k => some k = v1.ownBlock ∨ k = H + 3) wr (w1.setCell ⟨H + 3, 1, none⟩ v1') := ((Fr.of_grown hg).weaken fun k _ e => .inl e).trans ((Fr.setCell w1 ⟨H + 3, 1, none⟩ v1').weaken fun k _ e => .inr e)
      refine hf.rd hrd fun b hb e => ?_
      obtain ⟨p1, p2, p3⟩ := hp h0 b hb
      rcases e with e | e
      · exact p2 e.symm
      · omega
  have in' : ∀ y : TIn × Sl, InAt wr y → Apart (H + 4) v1 v2 y.2 y.1.scr → InAt (w1.setCell ⟨H + 3, 1, none⟩ v1') y ∧ Apart (H + 4) v1' v2 y.2 y.1.scr := fun y hy hp => ⟨⟨hy.1, sc _ _ hp hy.2.1, hy.2.2⟩, apart' _ _ hp hy.2.1⟩
  have out' : ∀ y : TOut × Sl, OutAt wr y → Apart (H + 4) v1 v2 y.2 y.1.scr → OutAt (w1.setCell ⟨H + 3, 1, none⟩ v1') y ∧ Apart (H + 4) v1' v2 y.2 y.1.scr := fun y hy hp => ⟨⟨hy.1, sc _ _ hp hy.2.1, hy.2.2⟩, apart' _ _ hp hy.2.1⟩
  refine ⟨keepA _ _ _ (by omega) (by omega) h.r, keepA _ _ _ (by omega) (by omega) h.s, keepA _ _ _ (by omega) (by omega) h.p, ?_, ?_, ?_, ?_, ?_, ?_, ?_, h.hw, ?_⟩
  · have := (h.t.same (hg.block (H + 3) h.t.lt (fun e => st _ (by omega) e.symm))).set 1 v1'
    exact this
  · refine own_fr (by rw [List.length_append]; exact ho) (Fr.setCell w1 ⟨H + 3, 1, none⟩ v1') fun k hk e => ?_
    have := n1 k hk; simp only at e; omega
  · have f1 : w1.ownsRow (H + 4) 61 2 v2 m.length (ocl m) := own_fr h.o2 (Fr.of_grown hg) fun k hk e => h.d k e.symm hk
    refine own_fr f1 (Fr.setCell w1 ⟨H + 3, 1, none⟩ v1') fun k hk e => ?_
    have := (row2lt k hk).1; simp only at e; omega
  · intro y hy
    rcases List.mem_append.1 hy with hy | hy
    · exact in' y (h.i1 y hy).1 (h.i1 y hy).2
    · rw [List.mem_singleton.1 hy]; exact in' x hx ha
  · intro y hy
    exact out' y (h.i2 y hy).1 (h.i2 y hy).2
  · intro k hk e
    rcases hr with e' | e'
    · exact h.d k (e'.symm.trans hk) e
    · rw [e'] at hk; injection hk with hk
      have := (row2lt k e).2
      omega
  · have := hg.size; simp; omega
  · refine (h.bel.trans ((Fr.of_grown hg).below (fun k hk => by have := (rowlt k hk.symm).1; omega) (by omega))).setCell (by simp only; omega) _
/-- an output has been appended -/
theorem GSt.push2 {A : Option Addr} {n c H : Nat} {w wr w1 : World} {a e : Nat} {ver : Int} {l : List (TIn × Sl)} {m : List (TOut × Sl)} {v1 v2 v2' : Value} (h : GSt A n c H w wr a e ver l m v1 v2) (x : TOut × Sl) (hx : OutAt wr x) (ha : Apart (H + 4) v1 v2 x.2 x.1.scr)
    (ho : w1.ownsRow (H + 4) 61 2 v2' (m.length + 1) (ocl (m ++ [x]))) (hg : wr.grownBy w1 v2.ownBlock) (hr : v2'.ownBlock = v2.ownBlock ∨ v2'.ownBlock = some wr.heap.size) :
    GSt A n c H w (w1.setCell ⟨H + 3, 2, none⟩ v2') a e ver l (m ++ [x]) v1 v2' := by
  have rowlt := fun k hk => World.ownsRow.lt h.o2 k hk
  have row1lt := fun k hk => World.ownsRow.lt h.o1 k hk
  have st : ∀ k, k < H + 4 → v2.ownBlock ≠ some k := fun k hk e => by have := (rowlt k e).1; omega
  have hbb := h.hb
  have keepA : ∀ g t cs, g < H + 4 → g ≠ H + 3 → Av wr g t cs → Av (w1.setCell ⟨H + 3, 2, none⟩ v2') g t cs := fun g t cs hg4 hg3 hav =>
    (hav.same (hg.block g hav.lt (fun e => st g hg4 e.symm))).other _ _ (by simpa using hg3)
  have n1 : ∀ k, v2'.ownBlock = some k → H + 4 ≤ k := fun k hk => (World.ownsRow.lt ho k hk).1
  have apart' : ∀ (s : Sl) (scr : List UInt8), Apart (H + 4) v1 v2 s scr → Rd wr s.1 (scr.map bv) → Apart (H + 4) v1 v2' s scr := by
    intro s scr hp hrd h0 b hb
    obtain ⟨p1, p2, p3⟩ := hp h0 b hb
    refine ⟨p1, p2, fun e => ?_⟩
    rcases hr with e' | e'
    · exact p3 (e'.symm.trans e)
    · rw [e'] at e; injection e with e
      have := hrd.lt (by simpa using h0) b hb
      omega
  have sc : ∀ (s : Sl) (scr : List UInt8), Apart (H + 4) v1 v2 s scr → Rd wr s.1 (scr.map bv) → Rd (w1.setCell ⟨H + 3, 2, none⟩ v2') s.1 (scr.map bv) := by
    intro s scr hp hrd
    by_cases h0 : scr = []
    · rw [h0]; exact Rd.nil _ _
    · have hf : Fr (fun k => some k = v2.ownBlock ∨ k = H + 3) wr (w1.setCell ⟨H + 3, 2, none⟩ v2') := ((Fr.of_grown hg).weaken fun k _ e => .inl e).trans ((Fr.setCell w1 ⟨H + 3, 2, none⟩ v2').weaken fun k _ e => .inr e)
      refine hf.rd hrd fun b hb e => ?_
      obtain ⟨p1, p2, p3⟩ := hp h0 b hb
      rcases e with e | e
      · exact p3 e.symm
      · omega
  have in' : ∀ y : TIn × Sl, InAt wr y → Apart (H + 4) v1 v2 y.2 y.1.scr → InAt (w1.setCell ⟨H + 3, 2, none⟩ v2') y ∧ Apart (H + 4) v1 v2' y.2 y.1.scr := fun y hy hp => ⟨⟨hy.1, sc _ _ hp hy.2.1, hy.2.2⟩, apart' _ _ hp hy.2.1⟩
  have out' : ∀ y : TOut × Sl, OutAt wr y → Apart (H + 4) v1 v2 y.2 y.1.scr → OutAt (w1.setCell ⟨H + 3, 2, none⟩ v2') y ∧ Apart (H + 4) v1 v2' y.2 y.1.scr := fun y hy hp => ⟨⟨hy.1, sc _ _ hp hy.2.1, hy.2.2⟩, apart' _ _ hp hy.2.1⟩
  refine ⟨keepA _ _ _ (by omega) (by omega) h.r, keepA _ _ _ (by omega) (by omega) h.s, keepA _ _ _ (by omega) (by omega) h.p, ?_, ?_, ?_, ?_, ?_, ?_, ?_, h.hw, ?_⟩
  · have := (h.t.same (hg.block (H + 3) h.t.lt (fun e => st _ (by omega) e.symm))).set 2 v2'
    exact this
  · have f1 : w1.ownsRow (H + 4) 58 35 v1 l.length (icl l) := own_fr h.o1 (Fr.of_grown hg) fun k hk e => h.d k hk e.symm
    refine own_fr f1 (Fr.setCell w1 ⟨H + 3, 2, none⟩ v2') fun k hk e => ?_
    have := (row1lt k hk).1; simp only at e; omega
  · refine own_fr (by rw [List.length_append]; exact ho) (Fr.setCell w1 ⟨H + 3, 2, none⟩ v2') fun k hk e => ?_
    have := n1 k hk; simp only at e; omega
  · intro y hy
    exact in' y (h.i1 y hy).1 (h.i1 y hy).2
  · intro y hy
    rcases List.mem_append.1 hy with hy | hy
    · exact out' y (h.i2 y hy).1 (h.i2 y hy).2
    · rw [List.mem_singleton.1 hy]; exact out' x hx ha
  · intro k hk e
    rcases hr with e' | e'
    · exact h.d k hk (e'.symm.trans e)
    · rw [e'] at e; injection e with e
      have := (row1lt k hk).2
      omega
  · have := hg.size; simp; omega
  · refine (h.bel.trans ((Fr.of_grown hg).below (fun k hk => by have := (rowlt k hk.symm).1; omega) (by omega))).setCell (by simp only; omega) _
end Go.Proofs.YtopgljkfoogihaaDoor
