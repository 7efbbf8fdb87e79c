import Derived.Test.YtobjgebojhjhnaaDoorChecked
import Derived.WalkKit
import Derived.WalkSpells
import Derived.WalkLawsBesides
import Derived.Lib.Hide
import Derived.Maps.AppendAt
import Derived.Test.YtobjgebojhjhnaaDoorProg
import Derived.Below
import Derived.Lib.SliceRun
import Derived.Test.YtobjgebojhjhnaaDoorRel
import Derived.StillTail
namespace Go.Proofs.YtobjgebojhjhnaaDoor
open Go.RowKit
abbrev bv (b : UInt8) : Value := .int .u8 (b.toNat : Int)
def Rd (w : World) (A : Option Addr) (xs : List Value) : Prop :=
 xs = [] ∨ ∃ b off, A = some ⟨b, off, none⟩ ∧ ∀ j u, xs[j]? = some u → w.cell? ⟨b, off + j, none⟩ = some u
theorem Rd.nil (w : World) (A : Option Addr) : Rd w A [] := .inl rfl
theorem Rd.keep {w w' : World} {A : Option Addr} {xs : List Value} (h : Rd w A xs) (hk : ∀ b o v, w.cell? ⟨b, o, none⟩ = some v → w'.cell? ⟨b, o, none⟩ = some v) : Rd w' A xs := by
 rcases h with h | ⟨b, off, hA, hc⟩
 ·exact .inl h
 ·exact .inr ⟨b, off, hA, fun j u hu => hk _ _ _ (hc j u hu)⟩
theorem Rd.below {w w' : World} {A : Option Addr} {xs : List Value} (h : Rd w A xs) (hb : Below w.heap.size w w') : Rd w' A xs :=
 h.keep fun b o _ hv => (hb.cell (p := ⟨b, o, none⟩) (World.block_lt_of_cell? w _ hv)).trans hv
theorem Rd.drop {w : World} {b off : Nat} {xs : List Value} (h : Rd w (some ⟨b, off, none⟩) xs) (k : Nat) : Rd w (some ⟨b, off + k, none⟩) (xs.drop k) := by
 rcases h with h | ⟨b', off', hA, hc⟩
 ·exact .inl (by simp [h])
 ·cases hA
  refine .inr ⟨_, _, rfl, fun j u hu => ?_⟩
  rw [List.getElem?_drop] at hu
  rw [Nat.add_assoc]
  exact hc _ u hu
theorem Rd.take {w : World} {A : Option Addr} {xs : List Value} (h : Rd w A xs) (k : Nat) : Rd w A (xs.take k) := by
 rcases h with h | ⟨b', off', hA, hc⟩
 ·exact .inl (by simp [h])
 ·refine .inr ⟨_, _, hA, fun j u hu => ?_⟩
  rw [List.getElem?_take] at hu
  split at hu
  ·exact hc _ u hu
  ·cases hu
theorem Rd.cons {w : World} {A : Option Addr} {x : Value} {xs : List Value} (h : Rd w A (x :: xs)) :
  ∃ b off, A = some ⟨b, off, none⟩ ∧ ∀ j u, (x :: xs)[j]? = some u → w.cell? ⟨b, off + j, none⟩ = some u := by
 rcases h with h | h
 ·cases h
 ·exact h
theorem Rd.someA {w : World} {A : Option Addr} {xs : List Value} (h : Rd w A xs) (hx : xs ≠ []) : ∃ b off, A = some ⟨b, off, none⟩ := by
 rcases h with h | ⟨b, off, hA, _⟩
 ·exact absurd h hx
 ·exact ⟨b, off, hA⟩
theorem Rd.lt {w : World} {A : Option Addr} {xs : List Value} (h : Rd w A xs) (hx : xs ≠ []) (a : Addr) (ha : A = some a) : a.block < w.heap.size := by
 rcases h with e | ⟨b, off, e, hc⟩
 ·exact absurd e hx
 ·rw [e] at ha; cases ha
  obtain ⟨x, xs', rfl⟩ := List.exists_cons_of_ne_nil hx
  exact World.block_lt_of_cell? w _ (hc 0 x rfl)
end Go.Proofs.YtobjgebojhjhnaaDoor
namespace Go.Proofs.YtobjgebojhjhnaaDoor
open Go.RowKit
theorem addr_add (b off j : Nat) : (⟨b, off, none⟩ : Addr).add j = ⟨b, off + j, none⟩ := by
 unfold Addr.add
 split
 ·rename_i h; subst h; rfl
 ·rfl
section
variable {P : Program} (w : World)
theorem run_append_rd (base : Nat) (t ty e : TypeId) (i : TypeInfo) (z : Value) (size bytes : Nat) (ht : P.underlying t = some (.slice e)) (hi : P.info? e = some i) (hz : i.zero = some z)
  (hsize : i.size = size) (hby : i.bytes = bytes) (hzs : z.cells.size = size) (hsz : 0 < size)
  (v : Value) (n : Nat) (xs : List Value) (hown : w.ownsRow base e size v n xs)
  (A : Option Addr) (m c : Nat) (news : List Value) (hl : news.length = m * size) (hr : Rd w A news) (h1 : ∀ u ∈ news, u.oneCell' = true)
  (hm : n + m ≤ maxLen) (hbytes : (n + m) * bytes ≤ 140737488355328) (hbase : base ≤ w.heap.size) :
  ∃ v' w', (Builtin.append_ #[t, t] ty #[v, .slice A m c]).run P w = .ok v' w' ∧ w'.ownsRow base e size v' (n + m) (xs ++ news) ∧ w.grownBy w' v.ownBlock ∧
   (v'.ownBlock = v.ownBlock ∨ v'.ownBlock = some w.heap.size) := by
 rcases A with _ | ad
 ·rcases hr with hr | ⟨_, _, hr, _⟩
  ·subst hr
   have hm0 : m = 0 := by
    rcases Nat.eq_zero_or_pos m with h | h
    ·exact h
    ·have := Nat.mul_pos h hsz
     simp at hl
     omega
   subst hm0
   refine ⟨v, w, ?_, by simpa using hown, World.grownBy.refl w _, .inl rfl⟩
   rcases hown.2 with ⟨rfl, rfl⟩ | ⟨g, cap, cur, rfl, _, _, hnc, _⟩
   ·simp [Builtin.append_, run_underlying ht, sizeOf, typeInfo, hi, Builtin.lenOf, Builtin.firstCells]
   ·simp [Builtin.append_, run_underlying ht, sizeOf, typeInfo, hi, Builtin.lenOf, Builtin.firstCells, hnc, storeCells]
  ·cases hr
 ·have hcells : ∀ j u, news[j]? = some u → w.cell? (ad.add j) = some u := by
   intro j u hu
   rcases hr with hr | ⟨b, off, hA, hc⟩
   ·subst hr; simp at hu
   ·cases hA
    rw [addr_add]
    exact hc j u hu
  obtain ⟨v', w', hrun, h2, h3, _, h5⟩ := run_append_own_at (P := P) w base t ty e i z size bytes ht hi hz hsize hby hzs hsz v n xs hown ad m c news hl hcells h1 hm hbytes hbase
  exact ⟨v', w', hrun, h2, h3, h5⟩
theorem wp_append_rd {o : Oper} {a : Act} {K : Act → World → Prop} {Q : Exit → Act → World → Prop} (s x : Operand) (t : TypeId)
  (ho : o.op = .call { callee := .builtin .append, args := #[s, x], argTypes := #[t, t] })
  (base : Nat) (e : TypeId) (i : TypeInfo) (z : Value) (size bytes : Nat) (ht : P.underlying t = some (.slice e)) (hi : P.info? e = some i) (hz : i.zero = some z)
  (hsize : i.size = size) (hby : i.bytes = bytes) (hzs : z.cells.size = size) (hsz : 0 < size)
  (v : Value) (n : Nat) (xs : List Value) (hs : a.eval s = v) (hown : w.ownsRow base e size v n xs)
  (A : Option Addr) (m c : Nat) (news : List Value) (hx : a.eval x = .slice A m c) (hl : news.length = m * size) (hr : Rd w A news) (h1 : ∀ u ∈ news, u.oneCell' = true)
  (hm : n + m ≤ maxLen) (hbytes : (n + m) * bytes ≤ 140737488355328) (hbase : base ≤ w.heap.size)
  (h : ∀ v' w', w'.ownsRow base e size v' (n + m) (xs ++ news) → w.grownBy w' v.ownBlock → (v'.ownBlock = v.ownBlock ∨ v'.ownBlock = some w.heap.size) → K (a.put o.dst v') w') : o.wp P a w K Q := by
 obtain ⟨v', w', hrun, h2, h3, h4⟩ := run_append_rd (P := P) w base t o.type e i z size bytes ht hi hz hsize hby hzs hsz v n xs hown A m c news hl hr h1 hm hbytes hbase
 unfold Oper.wp execOp
 simp only [ho, resolve, invoke, builtin, Sem.run_bind, Sem.run_pure, Result.andThen_ok, List.map_toArray, List.map_cons, List.map_nil, hs, hx, hrun]
 exact h v' w' h2 h3 h4
theorem wpList_append_rd {ops : Array Oper} {rest : List Oper} {o : Oper} {a : Act} {Q : Exit → Act → World → Prop} (hgd : o.guard = none) (s x : Operand) (t : TypeId)
  (ho : o.op = .call { callee := .builtin .append, args := #[s, x], argTypes := #[t, t] })
  (base : Nat) (e : TypeId) (i : TypeInfo) (z : Value) (size bytes : Nat) (ht : P.underlying t = some (.slice e)) (hi : P.info? e = some i) (hz : i.zero = some z)
  (hsize : i.size = size) (hby : i.bytes = bytes) (hzs : z.cells.size = size) (hsz : 0 < size)
  (v : Value) (n : Nat) (xs : List Value) (hs : a.eval s = v) (hown : w.ownsRow base e size v n xs)
  (A : Option Addr) (m c : Nat) (news : List Value) (hx : a.eval x = .slice A m c) (hl : news.length = m * size) (hr : Rd w A news) (h1 : ∀ u ∈ news, u.oneCell' = true)
  (hm : n + m ≤ maxLen) (hbytes : (n + m) * bytes ≤ 140737488355328) (hbase : base ≤ w.heap.size)
  (h : ∀ v' w', w'.ownsRow base e size v' (n + m) (xs ++ news) → w.grownBy w' v.ownBlock → (v'.ownBlock = v.ownBlock ∨ v'.ownBlock = some w.heap.size) → wpList P ops Q rest (a.put o.dst v') w') : wpList P ops Q (o :: rest) a w :=
 wpList_plain hgd fun _ hK => wp_append_rd w s x t ho base e i z size bytes ht hi hz hsize hby hzs hsz v n xs hs hown A m c news hx hl hr h1 hm hbytes hbase fun v' w' h2 h3 h4 => hK _ _ (h v' w' h2 h3 h4)
end
theorem info_u8 : (Tryd.prog.info? 5).map (fun i => (i.zero, i.size, i.bytes)) = some (some (.int .u8 0), 1, 1) := by kernel_rfl
def OwnB (w : World) (base : Nat) (v : Value) (xs : List UInt8) : Prop := w.ownsRow base 5 1 v xs.length (xs.map bv)
theorem bv_one (xs : List UInt8) : ∀ u ∈ xs.map bv, u.oneCell' = true := by
 intro u hu
 simp only [List.mem_map] at hu
 obtain ⟨b, _, rfl⟩ := hu
 rfl
theorem Rd.one (w : World) (x : Value) (t : TypeId) : Rd (w.alloc (.cells #[x] t)) (some ⟨w.heap.size, 0, none⟩) [x] := by
 refine .inr ⟨_, _, rfl, fun j u hu => ?_⟩
 have := cell_one_new w x t j u hu
 rwa [addr_add] at this
theorem OwnB.rd {w : World} {base : Nat} {A : Option Addr} {n c : Nat} {xs : List UInt8} (h : OwnB w base (.slice A n c) xs) : Rd w A (xs.map bv) := by
 unfold OwnB at h
 rcases h.2 with ⟨e, e0⟩ | ⟨g, cap, cur, e, hb, hg, _⟩
 ·have : xs = [] := List.eq_nil_of_length_eq_zero e0
  subst this
  exact .inl rfl
 ·injection e with e1 e2 e3
  subst e1
  refine .inr ⟨_, _, rfl, fun j u hu => ?_⟩
  have := h.cells (g := g) rfl j u hu
  rwa [addr_add] at this
theorem OwnB.form {w : World} {base : Nat} {v : Value} {xs : List UInt8} (h : OwnB w base v xs) : ∃ A c, v = .slice A xs.length c ∧ xs.length ≤ c ∧ c ≤ maxLen := by
 unfold OwnB at h
 rcases h.2 with ⟨e, e0⟩ | ⟨g, cap, cur, e, hb, hg, hc, hm, _⟩
 ·exact ⟨none, 0, by rw [e, e0], by omega, by simp [maxLen]⟩
 ·exact ⟨_, cap, e, hc, hm⟩
theorem OwnB.formN {w : World} {base : Nat} {v : Value} {xs : List UInt8} (h : OwnB w base v xs) (n : Nat) (hn : xs.length = n) : ∃ A c, v = .slice A n c ∧ n ≤ c ∧ c ≤ maxLen := by
 subst hn
 exact h.form
theorem OwnB.nil (w : World) (base : Nat) : OwnB w base (.slice none 0 0) [] := World.ownsRow_nil w base _ _
theorem OwnB.made (w : World) (base : Nat) (hb : base ≤ w.heap.size) (cur : Array Value) (cap : Nat) (hm : cap ≤ maxLen) (hs : cur.size = cap) :
  OwnB (w.alloc (.cells cur 5)) base (.slice (some ⟨w.heap.size, 0, none⟩) 0 cap) [] :=
 World.ownsRow_made w cur cap hb hm (by omega)
theorem OwnB.below {w w' : World} {base : Nat} {v : Value} {xs : List UInt8} (h : OwnB w base v xs) (hb : Below w.heap.size w w') : OwnB w' base v xs := by
 unfold OwnB at h ⊢
 exact h.kept (row := none) ⟨hb.os, hb.tape, hb.output, hb.size, fun k hk _ => hb.block k hk⟩ (by cases v.ownBlock <;> simp)
theorem OwnB.alloc {w : World} {base : Nat} {v : Value} {xs : List UInt8} (h : OwnB w base v xs) (o : Obj) : OwnB (w.alloc o) base v xs := World.ownsRow.alloc h o
theorem OwnB.lt {w : World} {base : Nat} {v : Value} {xs : List UInt8} (h : OwnB w base v xs) : ∀ k, v.ownBlock = some k → base ≤ k ∧ k < w.heap.size := World.ownsRow.lt h
theorem below_app {w0 w w' : World} {base : Nat} {v : Value} {xs : List UInt8} (hb : Below base w0 w) (h : OwnB w base v xs) (hg : w.grownBy w' v.ownBlock) (hbase : base ≤ w.heap.size) : Below base w0 w' :=
 hb.grown hg hbase fun k hk => (h.lt k hk).1
theorem wpList_appB {w0 w : World} {base : Nat} {v : Value} {xs : List UInt8} (hown : OwnB w base v xs) (hb : Below base w0 w) (hbase : base ≤ w.heap.size)
  {A : Option Addr} {bs : List UInt8} (m c : Nat) (hr : Rd w A (bs.map bv)) (hl : bs.length = m) (hm : xs.length + m ≤ 140737488355328)
  {ops : Array Oper} {rest : List Oper} {o : Oper} {a : Act} {Q : Exit → Act → World → Prop} (hgd : o.guard = none) (s x : Operand)
  (ho : o.op = .call { callee := .builtin .append, args := #[s, x], argTypes := #[33, 33] })
  (hs : a.eval s = v) (hx : a.eval x = .slice A m c)
  (h : ∀ v' w', OwnB w' base v' (xs ++ bs) → Below base w0 w' → w.heap.size ≤ w'.heap.size → w.grownBy w' v.ownBlock → wpList Tryd.prog ops Q rest (a.put o.dst v') w') : wpList Tryd.prog ops Q (o :: rest) a w := by
 obtain ⟨i0, hi, hz0, hz1, hz2⟩ := info_parts info_u8
 refine wpList_append_rd w hgd s x 33 ho base 5 i0 (.int .u8 0) 1 1 Tryd.underlying33 hi hz0 hz1 hz2 rfl (by decide) v xs.length (xs.map bv) hs hown
  A m c (bs.map bv) hx (by simp [hl]) hr (bv_one bs) (by simp only [maxLen]; omega) (by omega) hbase ?_
 intro v' w' h1 h2 h3
 refine h v' w' ?_ (below_app hb hown h2 hbase) h2.size h2
 unfold OwnB
 rw [List.length_append, List.map_append, hl]
 exact h1
theorem wpList_appB1 {w0 w : World} {base : Nat} {v : Value} {xs : List UInt8} (hown : OwnB w base v xs) (hb : Below base w0 w) (hbase : base ≤ w.heap.size)
  (b : UInt8) {y : Int} (hy : y = b.toNat) (hm : xs.length + 1 ≤ 140737488355328)
  {ops : Array Oper} {rest : List Oper} {o : Oper} {a : Act} {Q : Exit → Act → World → Prop} (hgd : o.guard = none) (s x : Operand)
  (ho : o.op = .call { callee := .builtin .append, args := #[s, x], argTypes := #[33, 33] })
  (hs : a.eval s = v) (hx : a.eval x = .slice (some ⟨w.heap.size, 0, none⟩) 1 1)
  (h : ∀ v' w', OwnB w' base v' (xs ++ [b]) → Below base w0 w' → w.heap.size ≤ w'.heap.size → wpList Tryd.prog ops Q rest (a.put o.dst v') w') : wpList Tryd.prog ops Q (o :: rest) a (w.alloc (.cells #[.int .u8 y] 5)) := by
 subst hy
 refine wpList_appB (hown.alloc _) (hb.alloc hbase _) (by simp; omega) (bs := [b]) 1 1 (Rd.one _ _ _) rfl hm hgd s x ho hs hx ?_
 intro v' w' h1 h2 h3 _
 exact h v' w' h1 h2 (by simp at h3; omega)
end Go.Proofs.YtobjgebojhjhnaaDoor
namespace Go.Proofs.YtobjgebojhjhnaaDoor
open Go.RowKit
abbrev W32 := BitVec 32
@[irreducible] def wn (x : W32) : Int := x.toNat
theorem wn_def (x : W32) : wn x = (x.toNat : Int) := by unfold wn; rfl
abbrev wc (x : W32) : Value := .int .u32 (wn x)
theorem wn_lit (n : Nat) (h : n < 4294967296) : wn (BitVec.ofNat 32 n) = (n : Int) := by
 rw [wn_def, BitVec.toNat_ofNat, Nat.mod_eq_of_lt h]
theorem ofInt_wn (x : W32) : BitVec.ofInt IntKind.u32.bits (wn x) = x := by
 rw [wn_def]; exact BitVec.eq_of_toNat_eq (by simp [IntKind.bits])
theorem wrap_toNat (x : W32) : IntKind.u32.wrap (x.toNat : Int) = wn x := by
 rw [wn_def, IntKind.wrap_u32]; have := x.isLt; omega
theorem bits_xor_wn (x y : W32) : bits .xor .u32 (wn x) (wn y) = wn (x ^^^ y) := by
 simp only [bits, ofInt_wn]; exact wrap_toNat _
theorem bits_and_wn (x y : W32) : bits .and .u32 (wn x) (wn y) = wn (x &&& y) := by
 simp only [bits, ofInt_wn]; exact wrap_toNat _
theorem bits_or_wn (x y : W32) : bits .or .u32 (wn x) (wn y) = wn (x ||| y) := by
 simp only [bits, ofInt_wn]; exact wrap_toNat _
theorem wrap_add_wn (x y : W32) : IntKind.u32.wrap (wn x + wn y) = wn (x + y) := by
 rw [wn_def, wn_def, wn_def, IntKind.wrap_u32, BitVec.toNat_add]; omega
theorem shr_wn (x : W32) (k : Nat) : wn x / 2 ^ k = wn (x >>> k) := by
 rw [wn_def, wn_def, BitVec.toNat_ushiftRight, Nat.shiftRight_eq_div_pow]; simp
theorem shl_wn (x : W32) (k : Nat) : IntKind.u32.wrap (wn x * 2 ^ k) = wn (x <<< k) := by
 rw [wn_def, wn_def, IntKind.wrap_u32, BitVec.toNat_shiftLeft, Nat.shiftLeft_eq]
 rw [show (x.toNat : Int) * 2 ^ k = ((x.toNat * 2 ^ k : Nat) : Int) from by simp]
 omega
def rotr (x : W32) (k : Nat) : W32 := x <<< (32 - k) ||| x >>> k
theorem and31 (n : Int) (h : -32 < n) (h2 : n < 0) : bits .and .u64 (IntKind.u64.wrap n) 31 = n + 32 := by
 rw [show (31 : Int) = 2 ^ 5 - 1 by decide, bits_mask .u64 64 (by decide) (fun n h0 h1 => by rw [IntKind.wrap_u64]; omega) 5 (by decide) _ (by rw [IntKind.wrap_u64]; omega) (by rw [IntKind.wrap_u64]; omega)]
 rw [IntKind.wrap_u64]; omega
attribute [local go_sem high] bits_or_wn shl_wn shr_wn
theorem RotateLeft32 (x : W32) (k : Nat) (n : Int) (hn : n = -(k : Int)) (hk : 0 < k) (hk2 : k < 32) (w : World) :
  Calls Tryd.prog 107 #[.int .u32 (wn x), .int .i64 n] w fun e w' => e = .returned (.int .u32 (wn (rotr x k))) ∧ w' = w := by
 have e1 := and31 n (by omega) (by omega)
 have e2 : 0 ≤ n + 32 := by omega
 have e3 : 0 ≤ 32 - (n + 32) := by omega
 have e6 : IntKind.u64.wrap (32 - (n + 32)) = k := by rw [IntKind.wrap_u64]; omega
 have e4 : (n + 32).toNat = 32 - k := by omega
 have e5 : min ((k : Int)).toNat IntKind.u32.bits = k := by simp only [IntKind.bits]; omega
 have e7 : (0 : Int) ≤ k := by omega
 clear hn
 go_enter Tryd.func107, Tryd.ntmps107
 go_wp2
 go_ret
 exact ⟨rfl, rfl⟩
theorem turned (x : W32) (k : Nat) (m : Int) (hm : m = k) (hk : 0 < k) (hk2 : k < 32) (w : World) :
  Calls Tryd.prog 105 #[.int .u32 (wn x), .int .i64 m] w fun e w' => e = .returned (.int .u32 (wn (rotr x k))) ∧ w' = w := by
 have e1 : IntKind.i64.wrap (-m) = -m := by rw [IntKind.wrap_i64]; omega
 have h := RotateLeft32 x k (-m) (by omega) hk hk2
 clear hm
 go_enter Tryd.func105, Tryd.ntmps105
 go_wp2_with fail
 refine (h _).mono ?_
 rintro e1 w1 ⟨rfl, rfl⟩
 go_wp2
 go_ret
 exact ⟨rfl, rfl⟩
end Go.Proofs.YtobjgebojhjhnaaDoor
namespace Go.Proofs.YtobjgebojhjhnaaDoor
open Go.RowKit
def kTab : List Nat := [
 0x428a2f98, 0x71374491, 0xb5c0fbcf, 0xe9b5dba5, 0x3956c25b, 0x59f111f1, 0x923f82a4, 0xab1c5ed5,
 0xd807aa98, 0x12835b01, 0x243185be, 0x550c7dc3, 0x72be5d74, 0x80deb1fe, 0x9bdc06a7, 0xc19bf174,
 0xe49b69c1, 0xefbe4786, 0x0fc19dc6, 0x240ca1cc, 0x2de92c6f, 0x4a7484aa, 0x5cb0a9dc, 0x76f988da,
 0x983e5152, 0xa831c66d, 0xb00327c8, 0xbf597fc7, 0xc6e00bf3, 0xd5a79147, 0x06ca6351, 0x14292967,
 0x27b70a85, 0x2e1b2138, 0x4d2c6dfc, 0x53380d13, 0x650a7354, 0x766a0abb, 0x81c2c92e, 0x92722c85,
 0xa2bfe8a1, 0xa81a664b, 0xc24b8b70, 0xc76c51a3, 0xd192e819, 0xd6990624, 0xf40e3585, 0x106aa070,
 0x19a4c116, 0x1e376c08, 0x2748774c, 0x34b0bcb5, 0x391c0cb3, 0x4ed8aa4a, 0x5b9cca4f, 0x682e6ff3,
 0x748f82ee, 0x78a5636f, 0x84c87814, 0x8cc70208, 0x90befffa, 0xa4506ceb, 0xbef9a3f7, 0xc67178f2]
def iTab : List Nat := [0x6a09e667, 0xbb67ae85, 0x3c6ef372, 0xa54ff53a, 0x510e527f, 0x9b05688c, 0x1f83d9ab, 0x5be0cd19]
def kAt (i : Nat) : W32 := BitVec.ofNat 32 (kTab.getD i 0)
def iAt (i : Nat) : W32 := BitVec.ofNat 32 (iTab.getD i 0)
structure Tabs (w : World) : Prop where
 k : ∀ i, i < 64 → w.cell? ⟨1, i, none⟩ = some (wc (kAt i))
 i : ∀ i, i < 8 → w.cell? ⟨0, i, none⟩ = some (wc (iAt i))
theorem Tabs.below {w w' : World} (h : Tabs w) (hb : Below w.heap.size w w') : Tabs w' :=
  ⟨fun i hi => (hb.cell (p := ⟨1, i, none⟩) (World.block_lt_of_cell? w _ (h.k i hi))).trans (h.k i hi),
   fun i hi => (hb.cell (p := ⟨0, i, none⟩) (World.block_lt_of_cell? w _ (h.i i hi))).trans (h.i i hi)⟩
theorem Constant (i : Int) (h0 : 0 ≤ i) (h1 : i < 64) (w : World) (ht : Tabs w) :
  Calls Tryd.prog 106 #[.int .i64 i] w fun e w' => e = .returned (wc (kAt i.toNat)) ∧ w' = w := by
 have hc : w.cell? ⟨1, i.toNat, none⟩ = some (wc (kAt i.toNat)) := ht.k _ (by omega)
 have t1 : decide (i < 0) = false := by simp; omega
 have t2 : decide (63 < i) = false := by simp; omega
 go_enter Tryd.func106, Tryd.ntmps106
 go_wp2
 go_ret
 exact ⟨rfl, rfl⟩
theorem Initial (i : Int) (h0 : 0 ≤ i) (h1 : i < 8) (w : World) (ht : Tabs w) :
  Calls Tryd.prog 101 #[.int .i64 i] w fun e w' => e = .returned (wc (iAt i.toNat)) ∧ w' = w := by
 have hc : w.cell? ⟨0, i.toNat, none⟩ = some (wc (iAt i.toNat)) := ht.i _ (by omega)
 have t1 : decide (i < 0) = false := by simp; omega
 have t2 : decide (7 < i) = false := by simp; omega
 go_enter Tryd.func101, Tryd.ntmps101
 go_wp2
 go_ret
 exact ⟨rfl, rfl⟩
end Go.Proofs.YtobjgebojhjhnaaDoor
namespace Go.Proofs.YtobjgebojhjhnaaDoor
open Go.RowKit
def subA (A : Option Addr) (c lo s : Nat) : Option Addr := if c = lo then A else A.map (·.add (lo * s))
theorem Rd.sub {w : World} {A : Option Addr} {xs : List Value} (h : Rd w A xs) (c lo s : Nat) (hc : xs.length ≤ c * s) : Rd w (subA A c lo s) (xs.drop (lo * s)) := by
 unfold subA
 split
 ·rename_i e
  subst e
  rw [List.drop_of_length_le hc]
  exact Rd.nil w A
 ·rcases h with h | ⟨b, off, rfl, hcell⟩
  ·subst h
   rw [List.drop_nil]
   exact Rd.nil w _
  ·have : (Option.map (fun x : Addr => x.add (lo * s)) (some ⟨b, off, none⟩)) = some ⟨b, off + lo * s, none⟩ := by
    rw [Option.map_some, addr_add]
   rw [this]
   exact Rd.drop (.inr ⟨b, off, rfl, hcell⟩) _
section
variable {P : Program} (w : World) (t e : TypeId) (A : Option Addr) (n c s : Nat)
theorem run_slice_lh_sub (ht : P.underlying t = some (.slice e)) (hs : (P.info? e).map (·.size) = some s) (kl kh : IntKind) (l h : Int) (h0 : 0 ≤ l) (h1 : l ≤ h) (h2 : h ≤ c) :
  (Instr.slice t (.slice A n c) (some (.int kl l)) (some (.int kh h)) none).run P w = .ok (.slice (subA A c l.toNat s) (h.toNat - l.toNat) (c - l.toNat)) w := by
 obtain ⟨i, hi, rfl⟩ := Option.map_eq_some_iff.1 hs
 have hel : P.elem t = e := by simp [Program.elem, ht]
 rw [run_slice_lh (P := P) w t A n c (by rw [hel]; exact ht) kl kh l h h0 h1 h2, hel]
 simp [sizeOf, typeInfo, hi, sliced, subA]
theorem run_slice_l_sub (ht : P.underlying t = some (.slice e)) (hs : (P.info? e).map (·.size) = some s) (kl : IntKind) (l : Int) (h0 : 0 ≤ l) (h1 : l ≤ n) :
  (Instr.slice t (.slice A n c) (some (.int kl l)) none none).run P w = .ok (.slice (subA A c l.toNat s) (n - l.toNat) (c - l.toNat)) w := by
 obtain ⟨i, hi, rfl⟩ := Option.map_eq_some_iff.1 hs
 have hel : P.elem t = e := by simp [Program.elem, ht]
 rw [run_slice_l (P := P) w t A n c (by rw [hel]; exact ht) kl l h0 h1, hel]
 simp [sizeOf, typeInfo, hi, sliced, subA]
theorem run_slice_h_sub (ht : P.underlying t = some (.slice e)) (hs : (P.info? e).map (·.size) = some s) (kh : IntKind) (h : Int) (h0 : 0 ≤ h) (h2 : h ≤ c) :
  (Instr.slice t (.slice A n c) none (some (.int kh h)) none).run P w = .ok (.slice A h.toNat c) w := by
 obtain ⟨i, hi, rfl⟩ := Option.map_eq_some_iff.1 hs
 have hel : P.elem t = e := by simp [Program.elem, ht]
 rw [run_slice_h (P := P) w t A n c (by rw [hel]; exact ht) kh h h0 h2, hel]
 have hA : Option.map (fun x : Addr => x.add 0) A = A := by cases A <;> simp [Addr.add]
 simp [sizeOf, typeInfo, hi, sliced, hA]
end
theorem size_u8 : (Tryd.prog.info? 5).map (·.size) = some 1 := by kernel_rfl
section
variable (w : World) (A : Option Addr) (n c : Nat)
theorem slB_lh (kl kh : IntKind) (l h : Int) (h0 : 0 ≤ l) (h1 : l ≤ h) (h2 : h ≤ c) :
  (Instr.slice 33 (.slice A n c) (some (.int kl l)) (some (.int kh h)) none).run Tryd.prog w = .ok (.slice (subA A c l.toNat 1) (h.toNat - l.toNat) (c - l.toNat)) w :=
 run_slice_lh_sub w _ _ A n c 1 Tryd.underlying33 size_u8 kl kh l h h0 h1 h2
theorem slB_l (kl : IntKind) (l : Int) (h0 : 0 ≤ l) (h1 : l ≤ n) :
  (Instr.slice 33 (.slice A n c) (some (.int kl l)) none none).run Tryd.prog w = .ok (.slice (subA A c l.toNat 1) (n - l.toNat) (c - l.toNat)) w :=
 run_slice_l_sub w _ _ A n c 1 Tryd.underlying33 size_u8 kl l h0 h1
theorem slB_h (kh : IntKind) (h : Int) (h0 : 0 ≤ h) (h2 : h ≤ c) :
  (Instr.slice 33 (.slice A n c) none (some (.int kh h)) none).run Tryd.prog w = .ok (.slice A h.toNat c) w :=
 run_slice_h_sub w _ _ A n c 1 Tryd.underlying33 size_u8 kh h h0 h2
theorem nilB_eq (n' c' : Nat) : (binOp .eql 33 (.slice A n c) (.slice none n' c')).run Tryd.prog w = .ok (.bool A.isNone) w :=
 Lib.run_eql_slice_nil w _ _ A n c n' c' Tryd.underlying33
end
theorem strOf_bytes (bs : List UInt8) : strOfNums (bs.map fun b => (b.toNat : Int)) = ⟨bs.toArray⟩ := by
 unfold strOfNums
 congr 1
 simp only [List.map_map]
 congr 1
 conv => rhs; rw [← List.map_id bs]
 refine List.map_congr_left fun b _ => ?_
 simp
theorem conv_str {w : World} {A : Option Addr} {bs : List UInt8} {n : Nat} (hr : Rd w A (bs.map bv)) (hn : bs.length = n) (c : Nat) :
  (convert 33 9 (.slice A n c)).run Tryd.prog w = .ok (.string ⟨bs.toArray⟩) w := by
 rw [run_convert_bytes_string w _ _ _ A n c Tryd.underlying33 Tryd.underlying5 Tryd.underlying9]
 cases A with
 | none =>
  have hb : bs = [] := by
   rcases hr with h | ⟨_, _, h, _⟩
   ·simpa using h
   ·cases h
  subst hb
  simp [Conv.bytesToString]
  rfl
 | some a =>
  have hl : (loadCells a n).run Tryd.prog w = .ok ((bs.map fun b => (b.toNat : Int)).map (Value.int .u8)).toArray w := by
   have h := run_loadCells_list (P := Tryd.prog) w a (bs.map bv) (fun j u hu => by
    rcases hr with h | ⟨b, off, hA, hc⟩
    ·rw [h] at hu; simp at hu
    ·cases hA
     rw [addr_add]
     exact hc j u hu)
   rw [List.length_map, hn] at h
   rw [h, List.map_map]
   rfl
  rw [run_bytesToString w a n c _ hl, foldl_push_bytes]
  have e := strOf_bytes bs
  unfold strOfNums at e
  rw [ByteArray.mk.injEq] at e
  rw [e]
  simp [ByteArray.empty, ByteArray.emptyWithCapacity]
  rfl
end Go.Proofs.YtobjgebojhjhnaaDoor
namespace Go.Proofs.YtobjgebojhjhnaaDoor
open Go.RowKit
def Ext (w w' : World) : Prop := Below w.heap.size w w'
theorem Ext.refl (w : World) : Ext w w := Below.refl _ _
theorem Ext.trans (a b c : World) (h : Ext a b) (k : Ext b c) : Ext a c := Below.trans h (k.mono h.size)
theorem Ext.drew {a b : World} (h : Ext a.drew b) : Ext a b := ⟨h.os, h.tape, h.output, h.size, h.block⟩
theorem Ext.below {a b : World} (h : Ext a b) : Below a.heap.size a b := h
def evL (l : List Value) : Operand → Value
 | .tmp t => l.getD t undef
 | .const v => v
 | .global g => .pointer (some ⟨g, 0, none⟩)
 | .func f => .func (.func f) #[] #[]
theorem eval_evL (l : List Value) (d : List Deferred) (x : Operand) : Act.eval ⟨l.toArray, d⟩ x = evL l x := by
 cases x with
 | tmp t => simp [Act.eval, evL]
 | _ => rfl
def okG (ops : Array Oper) (o : Oper) (l : List Value) : Option Bool :=
 match o.guard with
 | none => some true
 | some (j, b) => match dstAt ops j with
  | some t => match l[t]? with
   | some (.bool v) => some (v == b)
   | _ => none
  | none => none
theorem wanted_okG {ops : Array Oper} {o : Oper} {l : List Value} {r : Bool} (h : okG ops o l = some r) : Region.wanted o (yielded ops l.toArray) = r := by
 unfold okG at h
 unfold Region.wanted
 cases hg : o.guard with
 | none => rw [hg] at h; simpa using h
 | some g =>
  obtain ⟨j, b⟩ := g
  rw [hg] at h
  dsimp only at h ⊢
  unfold dstAt at h
  unfold yielded
  cases hd : (ops[j]?).bind (·.dst) with
  | none => rw [hd] at h; cases h
  | some t =>
   rw [hd] at h
   dsimp only at h ⊢
   simp only [Option.bind_some, List.getElem?_toArray]
   cases hl : l[t]? with
   | none => rw [hl] at h; cases h
   | some v =>
    rw [hl] at h
    cases v <;> first | (cases h; done) | skip
    simp only [Option.some.injEq] at h
    subst h
    simp
theorem put_lit (l : List Value) (d : List Deferred) (t : Nat) (v : Value) : Act.put ⟨l.toArray, d⟩ (some t) v = ⟨(l.set t v).toArray, d⟩ := by
 simp [Act.put]
section
variable {P : Program} {ops : Array Oper} {R : World → World → Prop} {Q : Exit → Act → World → Prop} {w0 : World} {L : List (Nat × VP)} {i : Nat} {o : Oper} {rest : List Oper} {l l' : List Value} {d : List Deferred}
theorem fill_none {D : Nat → Bool} {w : World} {K : Act → Prop} : ∀ {L : List (Nat × VP)} {a : Act}, (L.all fun p => !D p.1) = true → K a → fillL ops D w K L a
 | [], _, _, h => h
 | (j, phi) :: r, a, hD, h => by
  simp only [List.all_cons, Bool.and_eq_true, Bool.not_eq_true'] at hD
  unfold fillL
  rw [if_neg (by simp [hD.1])]
  exact fill_none hD.2 h
theorem relC (hL : L.lookup i = none) (hD : (L.all fun p => !lookOn ops o p.1) = true) (hw : okG ops o l = some true) {t : Nat} (ht : o.dst = some t) {c : Value}
  (h : ∀ w, R w0 w → relRes P R w (fun v _ => v = c) ((execOp (Act.eval ⟨l.toArray, d⟩) o).run P w)) (hl : l.set t c = l') (k : relWalk P ops R Q w0 L (i + 1) rest ⟨l'.toArray, d⟩) : relWalk P ops R Q w0 L i (o :: rest) ⟨l.toArray, d⟩ := by
 subst hl
 unfold relWalk
 rw [hL]
 refine ⟨c, fun w hR => fill_none hD ?_, ?_⟩
 ·unfold relOp
  rw [if_pos (wanted_okG hw)]
  exact h w hR
 ·rw [ht, put_lit]
  exact k
theorem relSkip (hL : L.lookup i = none) (hD : (L.all fun p => !lookOn ops o p.1) = true) (hw : okG ops o l = some false) {t : Nat} (ht : o.dst = some t)
  (hl : l.set t undef = l') (k : relWalk P ops R Q w0 L (i + 1) rest ⟨l'.toArray, d⟩) : relWalk P ops R Q w0 L i (o :: rest) ⟨l.toArray, d⟩ := by
 subst hl
 unfold relWalk
 rw [hL]
 refine ⟨undef, fun w hR => fill_none hD ?_, ?_⟩
 ·unfold relOp
  rw [wanted_okG hw]
  exact rfl
 ·rw [ht, put_lit]
  exact k
theorem relPure (hR : ∀ w, R w w) (hL : L.lookup i = none) (hD : (L.all fun p => !lookOn ops o p.1) = true) (hw : okG ops o l = some true) {t : Nat} (ht : o.dst = some t) {c : Value}
  (h : ∀ w, R w0 w → (execOp (Act.eval ⟨l.toArray, d⟩) o).run P w = .ok (.value c) w) (hl : l.set t c = l') (k : relWalk P ops R Q w0 L (i + 1) rest ⟨l'.toArray, d⟩) : relWalk P ops R Q w0 L i (o :: rest) ⟨l.toArray, d⟩ :=
 relC hL hD hw ht (fun w hw' => by rw [h w hw']; exact ⟨hR w, rfl⟩) hl k
theorem relMove (hR : ∀ w, R w w) (hL : L.lookup i = none) (hD : (L.all fun p => !lookOn ops o p.1) = true) (hw : okG ops o l = some true) {t : Nat} (ht : o.dst = some t) (x : Operand) (ho : o.op = .move x ∨ o.op = .assign x) {c : Value} (hc : evL l x = c)
  (hl : l.set t c = l') (k : relWalk P ops R Q w0 L (i + 1) rest ⟨l'.toArray, d⟩) : relWalk P ops R Q w0 L i (o :: rest) ⟨l.toArray, d⟩ := by
 refine relPure hR hL hD hw ht (fun w _ => ?_) hl k
 subst hc
 rw [← eval_evL l d]
 rcases ho with ho | ho <;> (unfold execOp; rw [ho]; rfl)
theorem relPick (hR : ∀ w, R w w) (hL : L.lookup i = none) (hD : (L.all fun p => !lookOn ops o p.1) = true) (hw : okG ops o l = some true) {t : Nat} (ht : o.dst = some t) (z x y : Operand) (ho : o.op = .pick z x y) {b : Bool} (hb : evL l z = .bool b) {c : Value} (hc : (if b then evL l x else evL l y) = c)
  (hl : l.set t c = l') (k : relWalk P ops R Q w0 L (i + 1) rest ⟨l'.toArray, d⟩) : relWalk P ops R Q w0 L i (o :: rest) ⟨l.toArray, d⟩ := by
 refine relPure hR hL hD hw ht (fun w _ => ?_) hl k
 subst hc
 rw [← eval_evL l d] at hb
 rw [← eval_evL l d, ← eval_evL l d]
 have e : execOp (Act.eval ⟨l.toArray, d⟩) o = (do let b ← asBool (Act.eval ⟨l.toArray, d⟩ z); pure (.value (if b then Act.eval ⟨l.toArray, d⟩ x else Act.eval ⟨l.toArray, d⟩ y))) := by
  unfold execOp
  rw [ho]
 rw [e, hb]
 rfl
theorem relBin (hR : ∀ w, R w w) (hL : L.lookup i = none) (hD : (L.all fun p => !lookOn ops o p.1) = true) (hw : okG ops o l = some true) {t : Nat} (ht : o.dst = some t) (op : BinOp) (ty ty' : TypeId) (x y : Operand) (ho : o.op = .binOp op ty x y ty')
  {X Y : Value} (hx : evL l x = X) (hy : evL l y = Y) {c : Value} (h : ∀ w, ((do eqGuard op ty x y X Y; binOp op ty X Y : Sem Value)).run P w = .ok c w)
  (hl : l.set t c = l') (k : relWalk P ops R Q w0 L (i + 1) rest ⟨l'.toArray, d⟩) : relWalk P ops R Q w0 L i (o :: rest) ⟨l.toArray, d⟩ := by
 refine relPure hR hL hD hw ht (fun w _ => ?_) hl k
 have e : execOp (Act.eval ⟨l.toArray, d⟩) o = (do pure (.value (← (do eqGuard op ty x y (Act.eval ⟨l.toArray, d⟩ x) (Act.eval ⟨l.toArray, d⟩ y); binOp op ty (Act.eval ⟨l.toArray, d⟩ x) (Act.eval ⟨l.toArray, d⟩ y))))) := by
  unfold execOp
  rw [ho]
 rw [e, eval_evL, eval_evL, hx, hy, Sem.run_bind, h w]
 rfl
theorem relCall (phi : VP) (hL : L.lookup i = some phi) (hD : (L.all fun p => !lookOn ops o p.1) = true) (hw : okG ops o l = some true) (f : FuncId) (args : Array Value)
  (he : ∀ w, (execOp (Act.eval ⟨l.toArray, d⟩) o).run P w = .ok (.enter f args) w)
  (h : ∀ w, R w0 w → Calls P f args w fun e w' => ∃ v, e = .returned v ∧ R w w' ∧ phi v w') (k : relWalk P ops R Q w0 L (i + 1) rest ⟨l.toArray, d⟩) : relWalk P ops R Q w0 L i (o :: rest) ⟨l.toArray, d⟩ := by
 unfold relWalk
 rw [hL]
 refine ⟨fun w hR => fill_none hD ?_, k⟩
 unfold relOp
 rw [if_pos (wanted_okG hw), he w]
 exact h w hR
theorem relCall1 (hL : L.lookup i = none) (hD : (L.all fun p => !lookOn ops o p.1) = true) (hw : okG ops o l = some true) {t : Nat} (ht : o.dst = some t) {c : Value} (f : FuncId) (args : Array Value)
  (he : ∀ w, (execOp (Act.eval ⟨l.toArray, d⟩) o).run P w = .ok (.enter f args) w)
  (h : ∀ w, R w0 w → Calls P f args w fun e w' => e = .returned c ∧ R w w') (hl : l.set t c = l') (k : relWalk P ops R Q w0 L (i + 1) rest ⟨l'.toArray, d⟩) : relWalk P ops R Q w0 L i (o :: rest) ⟨l.toArray, d⟩ :=
 relC hL hD hw ht (fun w hw' => by
  rw [he w]
  exact (h w hw').mono fun e w' ⟨h1, h2⟩ => ⟨c, h1, h2, rfl⟩) hl k
theorem fill_end {D : Nat → Bool} {w : World} {K : Act → Prop} {a : Act} (h : K a) : fillL ops D w K [] a := h
theorem fill_skip {D : Nat → Bool} {w : World} {K : Act → Prop} {a : Act} {j : Nat} {phi : VP} {r : List (Nat × VP)} (hD : D j = false) (h : fillL ops D w K r a) : fillL ops D w K ((j, phi) :: r) a := by
 unfold fillL
 rw [hD]
 exact h
theorem fill_take {D : Nat → Bool} {w : World} {K : Act → Prop} {j : Nat} {phi : VP} {r : List (Nat × VP)} {t : Nat} (ht : dstAt ops j = some t) (hD : D j = true)
  (h : ∀ v, phi v w → fillL ops D w K r ⟨(l.set t v).toArray, d⟩) : fillL ops D w K ((j, phi) :: r) ⟨l.toArray, d⟩ := by
 unfold fillL
 rw [hD]
 intro v hv
 rw [ht, put_lit]
 exact h v hv
theorem relOp_yes {w : World} {ok : VP} (hw : okG ops o l = some true) (h : relRes P R w ok ((execOp (Act.eval ⟨l.toArray, d⟩) o).run P w)) : relOp P ops R o ⟨l.toArray, d⟩ w ok := by
 unfold relOp
 rw [if_pos (wanted_okG hw)]
 exact h
theorem relOn (hL : L.lookup i = none) {t : Nat} (ht : o.dst = some t) {c : Value}
  (h : ∀ w, R w0 w → fillL ops (lookOn ops o) w (fun a' => relOp P ops R o a' w (fun v _ => v = c)) L ⟨l.toArray, d⟩) (hl : l.set t c = l')
  (k : relWalk P ops R Q w0 L (i + 1) rest ⟨l'.toArray, d⟩) : relWalk P ops R Q w0 L i (o :: rest) ⟨l.toArray, d⟩ := by
 subst hl
 unfold relWalk
 rw [hL]
 refine ⟨c, h, ?_⟩
 rw [ht, put_lit]
 exact k
theorem relWord (phi : VP) (hL : L.lookup i = some phi)
  (h : ∀ w, R w0 w → fillL ops (lookOn ops o) w (fun a' => relOp P ops R o a' w phi) L ⟨l.toArray, d⟩)
  (k : relWalk P ops R Q w0 L (i + 1) rest ⟨l.toArray, d⟩) : relWalk P ops R Q w0 L i (o :: rest) ⟨l.toArray, d⟩ := by
 unfold relWalk
 rw [hL]
 exact ⟨h, k⟩
theorem relEnd {a : Act} (h : ∀ w, R w0 w → fillL ops (fun _ => true) w (fun a' => Q .normal a' w) L a) : relWalk P ops R Q w0 L i [] a := h
end
def OneW (cs : List Value) : VP := fun v w => ∃ A, v = .slice A 1 1 ∧ Rd w A cs
theorem OneW.mono {cs : List Value} {v : Value} {w w' : World} (h : Ext w w') : OneW cs v w → OneW cs v w' := by
 rintro ⟨A, rfl, hr⟩
 exact ⟨A, rfl, hr.below h⟩
theorem Zs {α : Type} : (∀ (a b : α) (l : List α) (n : Nat), (a :: l).set (n + 1) b = a :: l.set n b) ∧ ∀ (a b : α) (l : List α), (a :: l).set 0 b = b :: l := ⟨fun _ _ _ _ => rfl, fun _ _ _ => rfl⟩
section
variable {P : Program} {ops : Array Oper} {R : World → World → Prop} {Q : Exit → Act → World → Prop} {w0 : World} {L : List (Nat × VP)} {i : Nat} {o : Oper} {rest : List Oper} {l l' : List Value} {d : List Deferred} {t : Nat} {c : Value}
theorem ZM {x : Operand} (k : relWalk P ops Ext Q w0 L (i + 1) rest ⟨l'.toArray, d⟩) (hL : L.lookup i = none := by exact rfl) (hD : (L.all fun p => !lookOn ops o p.1) = true := by exact rfl) (hw : okG ops o l = some true := by exact rfl) (ht : o.dst = some t := by exact rfl) (ho : o.op = .move x ∨ o.op = .assign x := by first | exact .inl rfl | exact .inr rfl) (hc : evL l x = c := by conv => lhs; whnf) (hl : l.set t c = l' := by simp only [Zs]; rfl) : relWalk P ops Ext Q w0 L i (o :: rest) ⟨l.toArray, d⟩ :=
 relMove Ext.refl hL hD hw ht x ho hc hl k
theorem ZP (h : ∀ w, Ext w0 w → (execOp (Act.eval ⟨l.toArray, d⟩) o).run P w = .ok (.value c) w) (k : relWalk P ops Ext Q w0 L (i + 1) rest ⟨l'.toArray, d⟩) (hL : L.lookup i = none := by exact rfl) (hD : (L.all fun p => !lookOn ops o p.1) = true := by exact rfl) (hw : okG ops o l = some true := by exact rfl) (ht : o.dst = some t := by exact rfl) (hl : l.set t c = l' := by simp only [Zs]; rfl) : relWalk P ops Ext Q w0 L i (o :: rest) ⟨l.toArray, d⟩ :=
 relPure Ext.refl hL hD hw ht h hl k
theorem ZS (k : relWalk P ops R Q w0 L (i + 1) rest ⟨l'.toArray, d⟩) (hL : L.lookup i = none := by exact rfl) (hD : (L.all fun p => !lookOn ops o p.1) = true := by exact rfl) (hw : okG ops o l = some false := by exact rfl) (ht : o.dst = some t := by exact rfl) (hl : l.set t undef = l' := by simp only [Zs]; rfl) : relWalk P ops R Q w0 L i (o :: rest) ⟨l.toArray, d⟩ :=
 relSkip hL hD hw ht hl k
theorem ZK {z x y : Operand} {b : Bool} (k : relWalk P ops Ext Q w0 L (i + 1) rest ⟨l'.toArray, d⟩) (hL : L.lookup i = none := by exact rfl) (hD : (L.all fun p => !lookOn ops o p.1) = true := by exact rfl) (hw : okG ops o l = some true := by exact rfl) (ht : o.dst = some t := by exact rfl) (ho : o.op = .pick z x y := by exact rfl) (hb : evL l z = .bool b := by exact rfl) (hc : (if b then evL l x else evL l y) = c := by conv => lhs; whnf) (hl : l.set t c = l' := by simp only [Zs]; rfl) : relWalk P ops Ext Q w0 L i (o :: rest) ⟨l.toArray, d⟩ :=
 relPick Ext.refl hL hD hw ht z x y ho hb hc hl k
theorem ZC (f : FuncId) (args : Array Value) (h : ∀ w, R w0 w → Calls P f args w fun e w' => e = .returned c ∧ R w w') (k : relWalk P ops R Q w0 L (i + 1) rest ⟨l'.toArray, d⟩) (hL : L.lookup i = none := by exact rfl) (hD : (L.all fun p => !lookOn ops o p.1) = true := by exact rfl) (hw : okG ops o l = some true := by exact rfl) (ht : o.dst = some t := by exact rfl) (he : ∀ w, (execOp (Act.eval ⟨l.toArray, d⟩) o).run P w = .ok (.enter f args) w := by intro w; go_simp) (hl : l.set t c = l' := by simp only [Zs]; rfl) : relWalk P ops R Q w0 L i (o :: rest) ⟨l.toArray, d⟩ :=
 relCall1 hL hD hw ht f args he h hl k
end
end Go.Proofs.YtobjgebojhjhnaaDoor
namespace Go.Proofs.YtobjgebojhjhnaaDoor
open Go.RowKit
section
variable {P : Program} {ops : Array Oper} {R : World → World → Prop} {Q : Exit → Act → World → Prop} {w0 : World} {L : List (Nat × VP)}
theorem relWalk_specT (a0 : Act) : ∀ (rest : List Oper) (i : Nat) (a : Act), (∀ k, k < rest.length → rest[k]? = ops[i + k]?) → relWalk P ops R Q w0 L i rest a → ∀ c0 : Nat → Value, a = cf ops L c0 a0 i →
  ∃ c : Nat → Value, (∀ j, j < i → c j = c0 j) ∧ (∀ j o, i ≤ j → j < i + rest.length → ops[j]? = some o → ∀ w, R w0 w → fillL ops (lookOn ops o) w (fun a' => relOp P ops R o a' w (match L.lookup j with | none => fun v _ => v = c j | some phi => phi)) L (cf ops L c a0 j)) ∧
   (∀ w, R w0 w → fillL ops (fun _ => true) w (fun a' => Q .normal a' w) L (cf ops L c a0 (i + rest.length))) := by
 have congr : ∀ (c d : Nat → Value) (i : Nat), (∀ j, j < i → c j = d j) → cf ops L c a0 i = cf ops L d a0 i := by
  intro c d i
  induction i with
  | zero => intro _; rfl
  | succ i ih =>
   intro h
   simp only [cf]
   rw [ih fun j hj => h j (by omega), h i (by omega)]
 intro rest
 induction rest with
 | nil =>
  intro i a hr h c0 ha
  subst ha
  exact ⟨c0, fun _ _ => rfl, fun j o hj hj2 ho => by simp at hj2; omega, fun w hw => h w hw⟩
 | cons o rest ih =>
  intro i a hr h c0 ha
  have ho : ops[i]? = some o := (hr 0 (by simp)).symm
  have hr' : ∀ k, k < rest.length → rest[k]? = ops[i + 1 + k]? := fun k hk => by
   have := hr (k + 1) (by simpa using hk)
   rw [List.getElem?_cons_succ] at this
   rw [this]
   congr 1
   omega
  have hd : dstAt ops i = o.dst := by simp [dstAt, ho]
  unfold relWalk at h
  cases hl : L.lookup i with
  | none =>
   rw [hl] at h
   obtain ⟨v, h1, h2⟩ := h
   have e1 : cf ops L (fun j => if j = i then v else c0 j) a0 i = cf ops L c0 a0 i := congr _ _ _ fun j hj => if_neg (by omega)
   obtain ⟨c, hc, hob, hfin⟩ := ih (i + 1) _ hr' h2 (fun j => if j = i then v else c0 j) (by
    simp only [cf, hl, if_pos, hd]
    rw [e1, ← ha])
   have hcv : c i = v := (hc i (by omega)).trans (if_pos rfl)
   refine ⟨c, fun j hj => (hc j (by omega)).trans (if_neg (by omega)), fun j o' hj hj2 ho' => ?_, by rw [List.length_cons, show i + (rest.length + 1) = i + 1 + rest.length by omega]; exact hfin⟩
   by_cases hji : j = i
   ·subst hji
    rw [ho] at ho'
    injection ho' with ho'
    subst ho'
    intro w hw
    rw [hl, hcv, congr c c0 j (fun k hk => (hc k (by omega)).trans (if_neg (by omega))), ← ha]
    exact h1 w hw
   ·exact hob j o' (by omega) (by rw [List.length_cons] at hj2; omega) ho'
  | some phi =>
   rw [hl] at h
   obtain ⟨h1, h2⟩ := h
   obtain ⟨c, hc, hob, hfin⟩ := ih (i + 1) _ hr' h2 c0 (by simp only [cf, hl]; exact ha)
   refine ⟨c, fun j hj => hc j (by omega), fun j o' hj hj2 ho' => ?_, by rw [List.length_cons, show i + (rest.length + 1) = i + 1 + rest.length by omega]; exact hfin⟩
   by_cases hji : j = i
   ·subst hji
    rw [ho] at ho'
    injection ho' with ho'
    subst ho'
    intro w hw
    rw [hl, congr c c0 j (fun k hk => hc k (by omega)), ← ha]
    exact h1 w hw
   ·exact hob j o' (by omega) (by rw [List.length_cons] at hj2; omega) ho'
theorem fillA_congr {D E : Nat → Bool} {V : Nat → Value} : ∀ (L : List (Nat × VP)) (a : Act), (∀ p ∈ L, D p.1 = E p.1) → fillA ops D V L a = fillA ops E V L a
 | [], _, _ => rfl
 | (j, phi) :: r, a, h => by
  unfold fillA
  rw [h (j, phi) (List.mem_cons_self ..)]
  split
  ·exact fillA_congr r _ fun p hp => h p (List.mem_cons_of_mem _ hp)
  ·exact fillA_congr r _ fun p hp => h p (List.mem_cons_of_mem _ hp)
def headAll (n m : Nat) : Array Bool := Array.replicate n true ++ Array.replicate m false
def tailB (ops : Array Oper) (n : Nat) : Bool :=
 decide (n < ops.size) && Region.sinkB .any ops n && Region.chainB .any ops n && Region.seqB .any ops (ops.size - n) n (headAll n (ops.size - n))
theorem headAll_eq {n : Nat} {listed : Array Bool} (hsz : listed.size = ops.size) (hn : n < ops.size) (hh : ∀ i, i < n → listed.getD i false = true) (ht : ∀ t, n ≤ t → t < ops.size → listed.getD t true = false) : listed = headAll n (ops.size - n) := by
 refine Array.ext (by simp [headAll, hsz]; omega) fun i h1 h2 => ?_
 by_cases hi : i < n
 ·have := hh i hi
  rw [Array.getD_eq_getD_getElem?, Array.getElem?_eq_getElem h1] at this
  rw [show listed[i] = true from this]
  simp [headAll, hi]
 ·have := ht i (by omega) (by omega)
  rw [Array.getD_eq_getD_getElem?, Array.getElem?_eq_getElem h1] at this
  rw [show listed[i] = false from this]
  simp [headAll, Array.getElem_append, hi]
theorem relT_any {c : Nat → Value} {a0 : Act} {n g : Nat} {l : List Oper} (hl : l.toArray = ops) (hg : g = ops.size - n) (hT : tailB ops n = true) (hB : relB ops (L.map (·.1)) = true) (hkn : ∀ p ∈ L, p.1 < n) (hrange : ∀ j t, dstAt ops j = some t → t < a0.tmps.size)
  (htr : ∀ a b d, R a b → R b d → R a d) (hmono : ∀ p ∈ L, ∀ v w w', R w w' → p.2 v w → p.2 v w')
  (hob : ∀ j o, j < n → ops[j]? = some o → ∀ w, R w0 w → fillL ops (lookOn ops o) w (fun a' => relOp P ops R o a' w (match L.lookup j with | none => fun v _ => v = c j | some phi => phi)) L (cf ops L c a0 j))
  (hsk : ∀ w, R w w)
  (hfin : ∀ w, R w0 w → fillL ops (fun _ => true) w (fun a' => wpList P ops Q (l.drop n) a' w) L (cf ops L c a0 n)) :
  ∀ (fuel : Nat) (listed : Array Bool) (a : Act) (w : World) (U : List Nat), U.length = fuel → (∀ i, i ∈ U ↔ i < n ∧ listed.getD i false = false) → (∀ t, n ≤ t → t < ops.size → listed.getD t true = false) → RelInv ops R w0 L c a0 listed a w → U.Nodup → wpAny P .any ops Q (fuel + g) listed a w := by
 subst hl hg
 simp only [tailB, Bool.and_eq_true, decide_eq_true_eq] at hT
 obtain ⟨⟨⟨hn, hs⟩, hc⟩, hq⟩ := hT
 obtain ⟨hB1, hnd, hks⟩ := relB_spec hB
 have huniq : ∀ j t, dstAt l.toArray j = some t → ∀ k, k ≠ j → dstAt l.toArray k ≠ some t := by
  intro j t hj k hk
  cases ho : l.toArray[j]? with
  | none => simp only [dstAt, ho] at hj; cases hj
  | some o => exact (hB1 j o ho).2.2.1 k t (by simpa only [dstAt, ho, Option.bind_some] using hj) hk
 have hlt : ∀ j t, dstAt l.toArray j = some t → j < l.toArray.size := by
  intro j t hj
  rcases Nat.lt_or_ge j l.toArray.size with h | h
  ·exact h
  ·simp only [dstAt, Array.getElem?_eq_none h] at hj; cases hj
 have theTail : ∀ (listed : Array Bool) (a : Act) (w : World), RelInv l.toArray R w0 L c a0 listed a w → (∀ t, n ≤ t → t < l.toArray.size → listed.getD t true = false) → (∀ i, i < n → listed.getD i false = true) → wpAny P .any l.toArray Q (l.toArray.size - n) listed a w := by
  intro listed a w hI htl hall
  have h1 := fillL_at (fun j => a.tmps.getD ((dstAt l.toArray j).getD 0) undef) L _ (hfin w hI.ext) (fun p hp _ => rel_vals hnd hrange hks hI p hp (hall _ (hkn p hp)))
  have e : fillA l.toArray (fun _ => true) (fun j => a.tmps.getD ((dstAt l.toArray j).getD 0) undef) L (cf l.toArray L c a0 n) = a := by
   have hd : (fillA l.toArray (fun _ => true) (fun j => a.tmps.getD ((dstAt l.toArray j).getD 0) undef) L (cf l.toArray L c a0 n)).defers = a.defers := by
    rw [fillA_defers, cf_defers, hI.defers]
   have ht : (fillA l.toArray (fun _ => true) (fun j => a.tmps.getD ((dstAt l.toArray j).getD 0) undef) L (cf l.toArray L c a0 n)).tmps = a.tmps := by
    rw [fillA_congr (E := fun j => decide (j < n)) L _ fun p hp => by simp [hkn p hp]]
    refine Array.ext_getElem? fun t => rel_agree hnd hrange huniq hI (fun j => decide (j < n)) n t fun j hj => ?_
    by_cases hjn : j < n
    ·exact .inl ⟨hall j hjn, hjn, by simp [hjn]⟩
    ·exact .inr ⟨getD_false_of_true (htl j (by omega) (hlt j t hj)), by omega, by simp [hjn]⟩
   cases hx : fillA l.toArray (fun _ => true) (fun j => a.tmps.getD ((dstAt l.toArray j).getD 0) undef) L (cf l.toArray L c a0 n)
   rw [hx] at hd ht
   cases a
   simp_all
  rw [e] at h1
  have hhead := headAll_eq hI.lsize hn hall htl
  have := wpAny_of_seq (md := .any) (Q' := Q) (l.drop n) n listed a w (fun j => by simp [List.getElem?_drop]) (by
   rw [hhead, show (l.drop n).length = l.toArray.size - n by simp]; exact hq) h1
  rwa [show (l.drop n).length = l.toArray.size - n by simp] at this
 have noReady : ∀ (listed : Array Bool), listed.size = l.toArray.size → Region.ready .any l.toArray listed = [] → ∀ i, i < l.toArray.size → listed.getD i false = true := by
  intro listed hsz hr i
  induction i using Nat.strongRecOn with
  | ind i ih =>
   intro hi
   cases hl : listed.getD i false with
   | true => rfl
   | false =>
    have : i ∈ Region.ready .any l.toArray listed := by
     rw [mem_ready]
     refine ⟨?_, l.toArray[i], Array.getElem?_eq_getElem hi, fun e he hb => ?_⟩
     ·rw [Array.getD_eq_getD_getElem?] at hl ⊢
      rw [Array.getElem?_eq_getElem (by omega)] at hl ⊢
      exact hl
     ·have := (hB1 i _ (Array.getElem?_eq_getElem hi)).2.1 e he hb
      exact ih e.on this (by omega)
    rw [hr] at this
    cases this
 intro fuel
 induction fuel with
 | zero =>
  intro listed a w U hU hin htl hI _
  have hall : ∀ i, i < n → listed.getD i false = true := by
   intro i hi
   cases hl : listed.getD i false with
   | true => rfl
   | false =>
    have := (hin i).2 ⟨hi, hl⟩
    rw [List.eq_nil_of_length_eq_zero hU] at this
    cases this
  rw [Nat.zero_add]
  exact theTail listed a w hI htl hall
 | succ fuel ih =>
  intro listed a w U hU hin htl hI hnd2
  rw [show fuel + 1 + (l.toArray.size - n) = (fuel + (l.toArray.size - n)) + 1 by omega]
  have hne : ∃ i, i < n ∧ listed.getD i true = false := by
   cases U with
   | nil => simp at hU
   | cons u U =>
    have := (hin u).1 (List.mem_cons_self ..)
    refine ⟨u, this.1, ?_⟩
    have h2 := this.2
    rw [Array.getD_eq_getD_getElem?, Array.getElem?_eq_getElem (by rw [hI.lsize]; omega)] at h2 ⊢
    exact h2
  obtain ⟨u, hu1, hu2⟩ := hne
  have inv : HeadInv .any l.toArray n listed := ⟨hI.lsize, fun j oj hj hlj e he hb => hI.shut j oj hj hlj e he hb, htl⟩
  refine ⟨fun hr => ?_, fun i hi => ?_⟩
  ·have := noReady listed hI.lsize hr u (by omega)
   rw [getD_false_of_true hu2] at this
   cases this
  have hin' : i < n := by
   rcases Nat.lt_or_ge i n with h | h
   ·exact h
   ·exact absurd hi (tail_waits hs hc hn inv _ u rfl hu1 hu2 i h)
  rw [mem_ready] at hi
  obtain ⟨h0, o, ho, hall⟩ := hi
  have hiu := getD_false_of_true h0
  have hilt := (Array.getElem?_eq_some_iff.1 ho).1
  obtain ⟨hsel, hearly, _, hlooks⟩ := hB1 i o ho
  have hdst : dstAt l.toArray i = o.dst := by simp only [dstAt, ho, Option.bind_some]
  have hop : relOp P l.toArray R o a w (match L.lookup i with | none => fun v _ => v = c i | some phi => phi) := by
   refine relOp_same hsel (fun t ht => ?_) (fillL_at (fun j => a.tmps.getD ((dstAt l.toArray j).getD 0) undef) L _ (hob i o hin' ho w hI.ext) (fun p hp hD => rel_vals hnd hrange hks hI p hp ?_))
   ·refine rel_agree hnd hrange huniq hI (lookOn l.toArray o) i t fun j hj => ?_
    have hjlt := hlt j t hj
    have hoj := Array.getElem?_eq_getElem hjlt
    rcases hlooks t ht j _ hoj (by simpa only [dstAt, hoj, Option.bind_some] using hj) with ⟨h1, h2⟩ | h1 | ⟨h1, h2⟩
    ·obtain ⟨e, he, hb, hon⟩ := depOn_mem h2
     have := hall e he hb
     rw [hon] at this
     exact .inl ⟨this, h1, by unfold lookOn; rw [h2, hj]; simpa using ht⟩
    ·subst h1
     refine .inr ⟨hiu, Nat.le_refl _, ?_⟩
     unfold lookOn
     cases hD : depOn o j with
     | false => rfl
     | true =>
      obtain ⟨e, he, hb, hon⟩ := depOn_mem hD
      have := hearly e he hb
      omega
    ·refine .inr ⟨?_, by omega, ?_⟩
     ·cases hl : listed.getD j false with
      | false => rfl
      | true =>
       obtain ⟨e, he, hb, hon⟩ := depOn_mem h2
       have := hI.shut j _ hoj hl e he hb
       rw [hon, hiu] at this
       cases this
     ·unfold lookOn
      cases hD : depOn o j with
      | false => rfl
      | true =>
       obtain ⟨e, he, hb, hon⟩ := depOn_mem hD
       have := hearly e he hb
       omega
   ·have hD' : depOn o p.1 = true := by
     unfold lookOn at hD
     simp only [Bool.and_eq_true] at hD
     exact hD.1
    obtain ⟨e, he, hb, hon⟩ := depOn_mem hD'
    have := hall e he hb
    rwa [hon] at this
  have next : ∀ v w', R w w' → (match L.lookup i with | none => fun v _ => v = c i | some phi => phi : VP) v w' → wpAny P .any l.toArray Q (fuel + (l.toArray.size - n)) (listed.setIfInBounds i true) (a.put o.dst v) w' := by
   intro v w' hR hok
   have hset : ∀ j, (listed.setIfInBounds i true).getD j false = true → listed.getD j false = true ∨ j = i := by
    intro j hj
    by_cases hji : i = j
    ·exact .inr hji.symm
    ·rw [getD_set_ne false hji] at hj
     exact .inl hj
   refine ih _ _ _ (U.erase i) ?_ ?_ (fun t ht ht' => (getD_set_ne true (show i ≠ t by omega)).trans (htl t ht ht')) ⟨by simp [hI.lsize], by rw [put_tmps_size, hI.size], by rw [put_defers, hI.defers], htr _ _ _ hI.ext hR, ?_, ?_, ?_, ?_⟩ ?_
   ·have := List.length_erase_of_mem ((hin i).2 ⟨hin', hiu⟩)
    omega
   ·intro k
    rw [hnd2.mem_erase_iff, hin k]
    constructor
    ·rintro ⟨h1, h2, h3⟩
     exact ⟨h2, by rw [getD_set_ne false (Ne.symm h1)]; exact h3⟩
    ·rintro ⟨h1, h2⟩
     have hki : i ≠ k := by
      rintro rfl
      rw [Array.getD_eq_getD_getElem?, Array.getElem?_setIfInBounds_self_of_lt (by rw [hI.lsize]; exact hilt)] at h2
      cases h2
     rw [getD_set_ne false hki] at h2
     exact ⟨Ne.symm hki, h1, h2⟩
   ·intro k ok hok' hkl e he hb
    rcases hset k hkl with h | h
    ·exact getD_set_true (hI.shut k ok hok' h e he hb)
    ·subst h
     rw [ho] at hok'
     injection hok' with hok'
     subst hok'
     exact getD_set_true (hall e he hb)
   ·intro j t hj ht hjl hlk
    by_cases hji : j = i
    ·subst hji
     rw [hdst] at hj
     rw [hlk] at hok
     rw [hj, put_get_same _ _ _ (by rw [hI.size]; exact ht)]
     exact congrArg some hok
    ·rw [put_get_ne _ _ _ _ (fun e => huniq j t hj i (Ne.symm hji) (hdst.trans e))]
     exact hI.one j t hj ht ((hset j hjl).resolve_right hji) hlk
   ·intro j t phi hj ht hjl hlk
    by_cases hji : j = i
    ·subst hji
     rw [hdst] at hj
     rw [hlk] at hok
     rw [hj, put_get_same _ _ _ (by rw [hI.size]; exact ht)]
     exact ⟨v, rfl, hok⟩
    ·rw [put_get_ne _ _ _ _ (fun e => huniq j t hj i (Ne.symm hji) (hdst.trans e))]
     obtain ⟨u, hu, hphi⟩ := hI.word j t phi hj ht ((hset j hjl).resolve_right hji) hlk
     exact ⟨u, hu, hmono (j, phi) (lookup_mem hlk) u w w' hR hphi⟩
   ·intro t ht
    have hi1 : (listed.setIfInBounds i true).getD i false = true := by
     rw [Array.getD_eq_getD_getElem?, Array.getElem?_setIfInBounds_self_of_lt (by rw [hI.lsize]; exact hilt)]
     rfl
    rw [put_get_ne _ _ _ _ (fun e => ht i hi1 (hdst.trans e))]
    exact hI.old t fun j hj => ht j (getD_set_true hj)
   ·exact hnd2.erase i
  unfold relOp at hop
  unfold wpOp
  rw [ho]
  dsimp only
  by_cases hw : Region.wanted o (yielded l.toArray a.tmps) = true
  ·rw [if_pos hw] at hop ⊢
   refine .inl ?_
   unfold Oper.wp
   generalize (execOp a.eval o).run P w = r at hop ⊢
   cases r with
   | halt x w' => exact hop.elim
   | ok nx w' =>
    cases nx with
    | value v => exact next v w' hop.1 hop.2
    | skip => exact next undef w' hop.1 hop.2
    | enter f args =>
     refine Calls.mono hop ?_
     rintro e w'' ⟨v, rfl, h1, h2⟩
     exact next v w'' h1 h2
    | _ => exact hop.elim
  ·rw [if_neg hw] at hop ⊢
   exact next undef w (hsk w) hop
theorem relT_wpAny {a : Act} {w : World} {l : List Oper} (n : Nat) (L : List (Nat × VP)) (R : World → World → Prop) (hT : tailB l.toArray n = true) (hB : relB l.toArray (L.map (·.1)) = true)
  (hkn : L.all (fun p => decide (p.1 < n)) = true)
  (hrange : l.all (fun o => match o.dst with | some d => decide (d < a.tmps.size) | none => true) = true)
  (hrefl : ∀ w, R w w) (htr : ∀ a b d, R a b → R b d → R a d) (hmono : ∀ p ∈ L, ∀ v w w', R w w' → p.2 v w → p.2 v w')
  (h : relWalk P l.toArray R (fun _ a' w' => wpList P l.toArray Q (l.drop n) a' w') w.drew L 0 (l.take n) a) : wpAny P .any l.toArray Q l.toArray.size (Array.replicate l.toArray.size false) a w.drew := by
 have hT' := hT
 simp only [tailB, Bool.and_eq_true, decide_eq_true_eq] at hT'
 have hn : n < l.toArray.size := hT'.1.1.1
 have htk : (l.take n).length = n := by simp; simp at hn; omega
 obtain ⟨c, _, hob, hfin⟩ := relWalk_specT a (l.take n) 0 a (fun k hk => by rw [htk] at hk; simp [hk]) h (fun _ => undef) rfl
 rw [Nat.zero_add, htk] at hfin
 have hnone : ∀ j, ¬ (Array.replicate l.toArray.size false).getD j false = true := by
  intro j
  rw [Array.getD_eq_getD_getElem?, Array.getElem?_replicate]
  split <;> simp
 have := relT_any (g := l.toArray.size - n) (Q := Q) (c := c) (a0 := a) rfl rfl hT hB (fun p hp => by have := List.all_eq_true.1 hkn p hp; simpa using this) (fun j t hj => ?_) htr hmono (fun j o hj ho => hob j o (Nat.zero_le _) (by rw [htk]; omega) ho) hrefl hfin n _ a _ (List.range n) (by simp) (fun i => ?_) (fun t _ h2 => ?_) ⟨by simp, rfl, rfl, hrefl _, fun i o _ hl => absurd hl (hnone i), fun j t _ _ hl => absurd hl (hnone j), fun j t phi _ _ hl => absurd hl (hnone j), fun t _ => rfl⟩ List.nodup_range
 ·rw [show n + (l.toArray.size - n) = l.toArray.size by omega] at this
  exact this
 ·rw [List.all_eq_true] at hrange
  cases ho : l[j]? with
  | none => simp [dstAt, ho] at hj
  | some o =>
   have := hrange o (List.mem_of_getElem? ho)
   have hd : o.dst = some t := by simpa [dstAt, ho] using hj
   rw [hd] at this
   simpa using this
 ·rw [List.mem_range]
  exact ⟨fun h => ⟨h, by have := hnone i; simpa using this⟩, fun h => h.1⟩
 ·rw [Array.getD_eq_getD_getElem?, Array.getElem?_replicate, if_pos h2]
  rfl
theorem wp_region_relT {id : Nat} {a : Act} {w : World} {l : List Oper} (n : Nat) (L : List (Nat × VP)) (R : World → World → Prop) (hm : P.follows .mixedOrders = true) (hT : tailB l.toArray n = true) (hB : relB l.toArray (L.map (·.1)) = true)
  (hkn : L.all (fun p => decide (p.1 < n)) = true)
  (hrange : l.all (fun o => match o.dst with | some d => decide (d < a.tmps.size) | none => true) = true)
  (hrefl : ∀ w, R w w) (htr : ∀ a b d, R a b → R b d → R a d) (hmono : ∀ p ∈ L, ∀ v w w', R w w' → p.2 v w → p.2 v w')
  (h : relWalk P l.toArray R (fun _ a' w' => wpList P l.toArray Q (l.drop n) a' w') w.drew L 0 (l.take n) a) : (Code.region id l.toArray true).wp P Q a w :=
 wp_region_any hm (relT_wpAny n L R hT hB hkn hrange hrefl htr hmono h)
end
end Go.Proofs.YtobjgebojhjhnaaDoor
