/- Mem; Av; Word; ShTab: put together for the claim. -/
import Derived.Test.YtdkknincamkhpaaDoorChecked
import Derived.WalkKit
import Derived.WalkSpells
import Derived.WalkLawsBesides
import Derived.Lib.Hide
import Derived.Deep.MidRow
import Derived.Test.YtdkknincamkhpaaDoorProg
import Derived.Below
/- Words for memory: what a slice value reads as; it stays so while memory grows. -/
namespace Go.Proofs.YtdkknincamkhpaaDoor
open Go.RowKit

/-- the cell of a byte -/
abbrev bv (b : UInt8) : Value := .int .u8 (b.toNat : Int)

/-- From the address A on lie the cells xs. -/
def Rd (w : World) (A : Option Addr) (xs : List Value) : Prop :=
  xs = [] ∨ ∃ b off, A = some ⟨b, off, none⟩ ∧ ∀ j u, xs[j]? = some u → w.cell? ⟨b, off + j, none⟩ = some u

theorem Rd.nil (w : World) (A : Option Addr) : Rd w A [] := .inl rfl
theorem Rd.keep {w w' : World} {A : Option Addr} {xs : List Value} (h : Rd w A xs) (hk : ∀ b o v, w.cell? ⟨b, o, none⟩ = some v → w'.cell? ⟨b, o, none⟩ = some v) : Rd w' A xs := by
  rcases h with h | ⟨b, off, hA, hc⟩
  · exact .inl h
  · exact .inr ⟨b, off, hA, fun j u hu => hk _ _ _ (hc j u hu)⟩
theorem Rd.below {w w' : World} {A : Option Addr} {xs : List Value} (h : Rd w A xs) (hb : Below w.heap.size w w') : Rd w' A xs :=
  h.keep fun b o _ hv => (hb.cell (p := ⟨b, o, none⟩) (World.block_lt_of_cell? w _ hv)).trans hv
theorem Rd.drop {w : World} {b off : Nat} {xs : List Value} (h : Rd w (some ⟨b, off, none⟩) xs) (k : Nat) : Rd w (some ⟨b, off + k, none⟩) (xs.drop k) := by
  rcases h with h | ⟨b', off', hA, hc⟩
  · exact .inl (by simp [h])
  · cases hA
    refine .inr ⟨_, _, rfl, fun j u hu => ?_⟩
    rw [List.getElem?_drop] at hu
    rw [Nat.add_assoc]
    exact hc _ u hu
theorem Rd.take {w : World} {A : Option Addr} {xs : List Value} (h : Rd w A xs) (k : Nat) : Rd w A (xs.take k) := by
  rcases h with h | ⟨b', off', hA, hc⟩
  · exact .inl (by simp [h])
  · refine .inr ⟨_, _, hA, fun j u hu => ?_⟩
    rw [List.getElem?_take] at hu
    split at hu
    · exact hc _ u hu
    · cases hu
theorem Rd.cons {w : World} {A : Option Addr} {x : Value} {xs : List Value} (h : Rd w A (x :: xs)) :
    ∃ b off, A = some ⟨b, off, none⟩ ∧ ∀ j u, (x :: xs)[j]? = some u → w.cell? ⟨b, off + j, none⟩ = some u := by
  rcases h with h | h
  · cases h
  · exact h
theorem Rd.someA {w : World} {A : Option Addr} {xs : List Value} (h : Rd w A xs) (hx : xs ≠ []) : ∃ b off, A = some ⟨b, off, none⟩ := by
  rcases h with h | ⟨b, off, hA, _⟩
  · exact absurd h hx
  · exact ⟨b, off, hA⟩
theorem Rd.lt {w : World} {A : Option Addr} {xs : List Value} (h : Rd w A xs) (hx : xs ≠ []) (a : Addr) (ha : A = some a) : a.block < w.heap.size := by
  rcases h with e | ⟨b, off, e, hc⟩
  · exact absurd e hx
  · rw [e] at ha; cases ha
    obtain ⟨x, xs', rfl⟩ := List.exists_cons_of_ne_nil hx
    exact World.block_lt_of_cell? w _ (hc 0 x rfl)
end Go.Proofs.YtdkknincamkhpaaDoor
/- Blocks of the call's own: what they hold; loads and stores of whole values. -/
namespace Go.Proofs.YtdkknincamkhpaaDoor
open Go.RowKit

theorem below_setRow {B : Nat} {a w : World} (h : Below B a w) (g : Nat) (cs : Array Value) (hg : B ≤ g) : Below B a (w.setRow g cs) :=
  h.trans ⟨rfl, rfl, rfl, by simp, fun k hk => setRow_other _ _ _ _ (by omega)⟩
/-- Block g holds just the cells l. -/
def Av (w : World) (g : Nat) (t : TypeId) (l : List Value) : Prop := w.heap[g]? = some (.cells l.toArray t (0, 0))
theorem Av.cell {w : World} {g : Nat} {t : TypeId} {l : List Value} (h : Av w g t l) (i : Nat) (u : Value) (hu : l[i]? = some u) : w.cell? ⟨g, i, none⟩ = some u := by
  rw [cell_of_row w g i _ t _ h]; simpa using hu
theorem Av.lt {w : World} {g : Nat} {t : TypeId} {l : List Value} (h : Av w g t l) : g < w.heap.size := (Array.getElem?_eq_some_iff.mp h).1
theorem Av.below {w w' : World} {g : Nat} {t : TypeId} {l : List Value} (h : Av w g t l) (hb : Below w.heap.size w w') : Av w' g t l := by
  unfold Av; rw [hb.block g h.lt]; exact h
theorem Av.set {w : World} {g : Nat} {t : TypeId} {l : List Value} (h : Av w g t l) (i : Nat) (u : Value) : Av (w.setCell ⟨g, i, none⟩ u) g t (l.set i u) := by
  unfold Av
  rw [heap_setCell_same w g i _ t _ h]; simp
theorem Av.same {w w' : World} {g : Nat} {t : TypeId} {l : List Value} (h : Av w g t l) (hs : w'.heap[g]? = w.heap[g]?) : Av w' g t l := by
  unfold Av; rw [hs]; exact h
theorem Av.other {w : World} {g : Nat} {t : TypeId} {l : List Value} (h : Av w g t l) (a : Addr) (v : Value) (hne : g ≠ a.block) : Av (w.setCell a v) g t l :=
  h.same (heap_setCell_other w a g v hne)
theorem Av.drew {w : World} {g : Nat} {t : TypeId} {l : List Value} (h : Av w g t l) : Av w.drew g t l := h
/-- cells are read as one value -/
theorem wpList_loadAv {P : Program} {ops : Array Oper} {rest : List Oper} {o : Oper} {a : Act} {w : World} {Q : Exit → Act → World → Prop} {g : Nat} {t : TypeId} {l : List Value} (h : Av w g t l)
    (hgd : o.guard = none) (ty : TypeId) (x : Operand) (ho : o.op = .load ty x) (hx : a.eval x = .pointer (some ⟨g, 0, none⟩)) (d : TypeDesc) (n : Nat) (hn : l.length = n)
    (hu : P.underlying ty = some d) (hd : (match d with | .struct _ | .array _ _ => true | _ => false) = true) (hi : (P.info? ty).map (·.size) = some n)
    (k : wpList P ops Q rest (a.put o.dst (.agg l.toArray)) w) : wpList P ops Q (o :: rest) a w :=
  wpList_load_row hgd ty x ho g hx t l.toArray (0, 0) d h hu hd (by rw [List.size_toArray, hn]; exact hi) k
/-- cells are written as one value into a block of the call's own -/
theorem wpList_storeAv {P : Program} {ops : Array Oper} {rest : List Oper} {o : Oper} {a : Act} {w w0 : World} {B : Nat} {Q : Exit → Act → World → Prop} {g : Nat} {t : TypeId} {old : Array Value} (hb : Below B w0 w) (h : w.heap[g]? = some (.cells old t (0, 0))) (hB : B ≤ g)
    (hgd : o.guard = none) (ty : TypeId) (x y : Operand) (ho : o.op = .store ty x y) (hx : a.eval x = .pointer (some ⟨g, 0, none⟩)) (l : List Value) (hy : a.eval y = .agg l.toArray) (n : Nat) (hn : l.length = n)
    (hi : (P.info? ty).map (·.size) = some n) (hold : old.size = n) (h1 : l.all (·.oneCell') = true)
    (k : ∀ w2, Av w2 g t l → Below B w0 w2 → (∀ k, k ≠ g → w2.heap[k]? = w.heap[k]?) → w2.heap.size = w.heap.size → wpList P ops Q rest (a.put o.dst undef) w2) : wpList P ops Q (o :: rest) a w :=
  wpList_store_row hgd ty x y ho g l.toArray hx hy t old h (by rw [List.size_toArray, hn]; exact hi) (hold.trans (by rw [List.size_toArray, hn])) (by simpa using h1)
    (k _ (setRow_heap _ _ _ _ _ _ h) (below_setRow hb _ _ hB) (fun _ hk => setRow_other _ _ _ _ hk) (by simp))
theorem exec_loadAv {P : Program} {w : World} {o : Oper} {ρ : Operand → Value} {g : Nat} {t : TypeId} {l : List Value} (h : Av w g t l) (ty : TypeId) (x : Operand) (ho : o.op = .load ty x) (hx : ρ x = .pointer (some ⟨g, 0, none⟩)) (d : TypeDesc) (n : Nat) (hn : l.length = n)
    (hu : P.underlying ty = some d) (hd : (match d with | .struct _ | .array _ _ => true | _ => false) = true) (hi : (P.info? ty).map (·.size) = some n) :
    (execOp ρ o).run P w = .ok (.value (.agg l.toArray)) w := by
  unfold execOp
  simp only [ho, hx, Instr.loadAt, Instr.sureAddr, Sem.run_bind, Sem.run_pure, Result.andThen_ok, run_loadVar_row w g t ty _ _ d h hu hd (by rw [List.size_toArray, hn]; exact hi)]
theorem Av.rd {w : World} {g : Nat} {t : TypeId} {l : List Value} (h : Av w g t l) : Rd w (some ⟨g, 0, none⟩) l :=
  .inr ⟨g, 0, rfl, fun j u hu => by rw [Nat.zero_add]; exact h.cell j u hu⟩
theorem Av.alloc {w : World} {g : Nat} {t : TypeId} {l : List Value} (h : Av w g t l) (o : Obj) : Av (w.alloc o) g t l :=
  h.same (heap_alloc_old _ _ h.lt)
theorem Av.setCells {g : Nat} {t : TypeId} (vs : List Value) : ∀ (pre xs rest : List Value) (o : Nat) (w : World), Av w g t (pre ++ xs ++ rest) → pre.length = o → xs.length = vs.length →
    Av (w.setCells g o vs) g t (pre ++ vs ++ rest) := by
  induction vs with
  | nil =>
    intro pre xs rest o w h ho hx
    have : xs = [] := List.length_eq_zero_iff.mp hx
    subst this
    simpa [World.setCells] using h
  | cons v vs ih =>
    intro pre xs rest o w h ho hx
    match xs, hx with
    | x :: xs, hx =>
      have h2 : Av (w.setCell ⟨g, o, none⟩ v) g t ((pre ++ [v]) ++ xs ++ rest) := by
        have := h.set o v
        rw [show (pre ++ x :: xs ++ rest).set o v = (pre ++ [v]) ++ xs ++ rest by simp [← ho]] at this
        exact this
      have := ih (pre ++ [v]) xs rest (o + 1) _ h2 (by simp [ho]) (by simpa using hx)
      rw [World.setCells]
      simpa using this
theorem Av.rangeAt {w : World} {g : Nat} {t : TypeId} {pre cs rest : List Value} (h : Av w g t (pre ++ cs ++ rest)) (o : Nat) (ho : pre.length = o) : w.rangeAt g o cs := fun j v hv => by
  refine h.cell (o + j) v ?_
  have hj : j < cs.length := (List.getElem?_eq_some_iff.1 hv).1
  rw [List.append_assoc, List.getElem?_append_right (by omega), List.getElem?_append_left (by omega), ← hv]
  congr 1; omega
theorem Av.there {w : World} {g : Nat} {t : TypeId} {l : List Value} (h : Av w g t l) (o n : Nat) (hn : o + n ≤ l.length) : w.there g o n := fun j hj =>
  ⟨by rw [h.cell (o + j) _ (List.getElem?_eq_getElem (by omega))]; rfl, frozen_of_row _ _ _ _ _ h⟩
theorem below_setCells {B : Nat} {a : World} (vs : List Value) : ∀ (w : World) (g o : Nat), Below B a w → B ≤ g → Below B a (w.setCells g o vs) := by
  induction vs with
  | nil => intro w g o h hg; simpa [World.setCells] using h
  | cons v vs ih => intro w g o h hg; rw [World.setCells]; exact ih _ _ _ (h.setCell hg v) hg
theorem heap_setCells (vs : List Value) : ∀ (w : World) (g o k : Nat), k ≠ g → (w.setCells g o vs).heap[k]? = w.heap[k]? := by
  induction vs with
  | nil => intro w g o k h; simp [World.setCells]
  | cons v vs ih => intro w g o k h; rw [World.setCells, ih _ _ _ _ h, heap_setCell_other w _ k v h]
theorem exec_load_mid {P : Program} {w : World} {o : Oper} {ρ : Operand → Value} (ty : TypeId) (x : Operand) (ho : o.op = .load ty x) (b off : Nat) (hx : ρ x = .pointer (some ⟨b, off, none⟩)) (cs : List Value) (d : TypeDesc) (hc : w.rangeAt b off cs)
    (hu : P.underlying ty = some d) (hd : d.isRow = true) (hi : (P.info? ty).map (·.size) = some cs.length) : (execOp ρ o).run P w = .ok (.value (.agg cs.toArray)) w := by
  unfold execOp
  simp only [ho, hx, Instr.loadAt, Instr.sureAddr, Sem.run_bind, Sem.run_pure, Result.andThen_ok, run_loadVar_mid w b off ty cs d hc hu hd hi]

/-! ### a row of the call's own, whatever its elements -/
end Go.Proofs.YtdkknincamkhpaaDoor
/- Words of 32 bits as the walk spells them: 'wn x' for the number of x, hidden; the laws that turn the model's arithmetic into that of BitVec 32. -/
namespace Go.Proofs.YtdkknincamkhpaaDoor
open Go.RowKit

/-- a word -/
abbrev W32 := BitVec 32
/-- the number of a word, as the walk spells it -/
@[irreducible] def wn (x : W32) : Int := x.toNat
theorem wn_def (x : W32) : wn x = (x.toNat : Int) := by unfold wn; rfl
/-- the cell of a word -/
abbrev wc (x : W32) : Value := .int .u32 (wn x)
theorem wn_lit (n : Nat) (h : n < 4294967296) : wn (BitVec.ofNat 32 n) = (n : Int) := by
  rw [wn_def, BitVec.toNat_ofNat, Nat.mod_eq_of_lt h]
theorem ofInt_wn (x : W32) : BitVec.ofInt IntKind.u32.bits (wn x) = x := by
  rw [wn_def]; exact BitVec.eq_of_toNat_eq (by simp [IntKind.bits])
theorem wrap_toNat (x : W32) : IntKind.u32.wrap (x.toNat : Int) = wn x := by
  rw [wn_def, IntKind.wrap_u32]; have := x.isLt; omega
theorem bits_xor_wn (x y : W32) : bits .xor .u32 (wn x) (wn y) = wn (x ^^^ y) := by
  simp only [bits, ofInt_wn]; exact wrap_toNat _
theorem bits_and_wn (x y : W32) : bits .and .u32 (wn x) (wn y) = wn (x &&& y) := by
  simp only [bits, ofInt_wn]; exact wrap_toNat _
theorem bits_or_wn (x y : W32) : bits .or .u32 (wn x) (wn y) = wn (x ||| y) := by
  simp only [bits, ofInt_wn]; exact wrap_toNat _
theorem wrap_add_wn (x y : W32) : IntKind.u32.wrap (wn x + wn y) = wn (x + y) := by
  rw [wn_def, wn_def, wn_def, IntKind.wrap_u32, BitVec.toNat_add]; omega
theorem shr_wn (x : W32) (k : Nat) : wn x / 2 ^ k = wn (x >>> k) := by
  rw [wn_def, wn_def, BitVec.toNat_ushiftRight, Nat.shiftRight_eq_div_pow]; simp
theorem shl_wn (x : W32) (k : Nat) : IntKind.u32.wrap (wn x * 2 ^ k) = wn (x <<< k) := by
  rw [wn_def, wn_def, IntKind.wrap_u32, BitVec.toNat_shiftLeft, Nat.shiftLeft_eq]
  rw [show (x.toNat : Int) * 2 ^ k = ((x.toNat * 2 ^ k : Nat) : Int) from by simp]
  omega
/-- turned to the right -/
def rotr (x : W32) (k : Nat) : W32 := x <<< (32 - k) ||| x >>> k
theorem and31 (n : Int) (h : -32 < n) (h2 : n < 0) : bits .and .u64 (IntKind.u64.wrap n) 31 = n + 32 := by
  rw [show (31 : Int) = 2 ^ 5 - 1 by decide, bits_mask .u64 64 (by decide) (fun n h0 h1 => by rw [IntKind.wrap_u64]; omega) 5 (by decide) _ (by rw [IntKind.wrap_u64]; omega) (by rw [IntKind.wrap_u64]; omega)]
  rw [IntKind.wrap_u64]; omega
attribute [local go_sem high] bits_or_wn shl_wn shr_wn

theorem RotateLeft32 (x : W32) (k : Nat) (n : Int) (hn : n = -(k : Int)) (hk : 0 < k) (hk2 : k < 32) (w : World) :
    Calls Tryd.prog 82 #[.int .u32 (wn x), .int .i64 n] w fun e w' => e = .returned (.int .u32 (wn (rotr x k))) ∧ w' = w := by
  have e1 := and31 n (by omega) (by omega)
  have e2 : 0 ≤ n + 32 := by omega
  have e3 : 0 ≤ 32 - (n + 32) := by omega
  have e6 : IntKind.u64.wrap (32 - (n + 32)) = k := by rw [IntKind.wrap_u64]; omega
  have e4 : (n + 32).toNat = 32 - k := by omega
  have e5 : min ((k : Int)).toNat IntKind.u32.bits = k := by simp only [IntKind.bits]; omega
  have e7 : (0 : Int) ≤ k := by omega
  clear hn
  go_enter Tryd.func82, Tryd.ntmps82
  go_wp2
  go_ret
  exact ⟨rfl, rfl⟩
theorem turned (x : W32) (k : Nat) (m : Int) (hm : m = k) (hk : 0 < k) (hk2 : k < 32) (w : World) :
    Calls Tryd.prog 77 #[.int .u32 (wn x), .int .i64 m] w fun e w' => e = .returned (.int .u32 (wn (rotr x k))) ∧ w' = w := by
  have e1 : IntKind.i64.wrap (-m) = -m := by rw [IntKind.wrap_i64]; omega
  have h := RotateLeft32 x k (-m) (by omega) hk hk2
  clear hm
  go_enter Tryd.func77, Tryd.ntmps77
  go_wp2_with fail
  refine (h _).mono ?_
  rintro e1 w1 ⟨rfl, rfl⟩
  go_wp2
  go_ret
  exact ⟨rfl, rfl⟩
end Go.Proofs.YtdkknincamkhpaaDoor
/- The tables of SHA-256 as the program keeps them: what they hold, and what Constant and Initial answer. -/
namespace Go.Proofs.YtdkknincamkhpaaDoor
open Go.RowKit

/-- the constants -/
def kTab : List Nat := [
  0x428a2f98, 0x71374491, 0xb5c0fbcf, 0xe9b5dba5, 0x3956c25b, 0x59f111f1, 0x923f82a4, 0xab1c5ed5,
  0xd807aa98, 0x12835b01, 0x243185be, 0x550c7dc3, 0x72be5d74, 0x80deb1fe, 0x9bdc06a7, 0xc19bf174,
  0xe49b69c1, 0xefbe4786, 0x0fc19dc6, 0x240ca1cc, 0x2de92c6f, 0x4a7484aa, 0x5cb0a9dc, 0x76f988da,
  0x983e5152, 0xa831c66d, 0xb00327c8, 0xbf597fc7, 0xc6e00bf3, 0xd5a79147, 0x06ca6351, 0x14292967,
  0x27b70a85, 0x2e1b2138, 0x4d2c6dfc, 0x53380d13, 0x650a7354, 0x766a0abb, 0x81c2c92e, 0x92722c85,
  0xa2bfe8a1, 0xa81a664b, 0xc24b8b70, 0xc76c51a3, 0xd192e819, 0xd6990624, 0xf40e3585, 0x106aa070,
  0x19a4c116, 0x1e376c08, 0x2748774c, 0x34b0bcb5, 0x391c0cb3, 0x4ed8aa4a, 0x5b9cca4f, 0x682e6ff3,
  0x748f82ee, 0x78a5636f, 0x84c87814, 0x8cc70208, 0x90befffa, 0xa4506ceb, 0xbef9a3f7, 0xc67178f2]
/-- the initial words -/
def iTab : List Nat := [0x6a09e667, 0xbb67ae85, 0x3c6ef372, 0xa54ff53a, 0x510e527f, 0x9b05688c, 0x1f83d9ab, 0x5be0cd19]
def kAt (i : Nat) : W32 := BitVec.ofNat 32 (kTab.getD i 0)
def iAt (i : Nat) : W32 := BitVec.ofNat 32 (iTab.getD i 0)

/-- What the program's tables hold. -/
structure Tabs (w : World) : Prop where
  k : ∀ i, i < 64 → w.cell? ⟨1, i, none⟩ = some (wc (kAt i))
  i : ∀ i, i < 8 → w.cell? ⟨0, i, none⟩ = some (wc (iAt i))
theorem Tabs.below {w w' : World} (h : Tabs w) (hb : Below w.heap.size w w') : Tabs w' :=
  ⟨fun i hi => (hb.cell (p := ⟨1, i, none⟩) (World.block_lt_of_cell? w _ (h.k i hi))).trans (h.k i hi),
   fun i hi => (hb.cell (p := ⟨0, i, none⟩) (World.block_lt_of_cell? w _ (h.i i hi))).trans (h.i i hi)⟩

theorem Constant (i : Int) (h0 : 0 ≤ i) (h1 : i < 64) (w : World) (ht : Tabs w) :
    Calls Tryd.prog 78 #[.int .i64 i] w fun e w' => e = .returned (wc (kAt i.toNat)) ∧ w' = w := by
  have hc : w.cell? ⟨1, i.toNat, none⟩ = some (wc (kAt i.toNat)) := ht.k _ (by omega)
  have t1 : decide (i < 0) = false := by simp; omega
  have t2 : decide (63 < i) = false := by simp; omega
  go_enter Tryd.func78, Tryd.ntmps78
  go_wp2
  go_ret
  exact ⟨rfl, rfl⟩
theorem Initial (i : Int) (h0 : 0 ≤ i) (h1 : i < 8) (w : World) (ht : Tabs w) :
    Calls Tryd.prog 71 #[.int .i64 i] w fun e w' => e = .returned (wc (iAt i.toNat)) ∧ w' = w := by
  have hc : w.cell? ⟨0, i.toNat, none⟩ = some (wc (iAt i.toNat)) := ht.i _ (by omega)
  have t1 : decide (i < 0) = false := by simp; omega
  have t2 : decide (7 < i) = false := by simp; omega
  go_enter Tryd.func71, Tryd.ntmps71
  go_wp2
  go_ret
  exact ⟨rfl, rfl⟩
end Go.Proofs.YtdkknincamkhpaaDoor
