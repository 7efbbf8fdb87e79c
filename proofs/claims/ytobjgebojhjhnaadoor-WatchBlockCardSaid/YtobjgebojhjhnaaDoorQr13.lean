import Derived.Test.YtobjgebojhjhnaaDoorQr12
import Derived.Test.YtobjgebojhjhnaaDoorQr5
import Derived.Maps.OwnSet
import Derived.DeepKeys4
namespace Go.Proofs.YtobjgebojhjhnaaDoor
open Go.RowKit
open Go.Maps (Keyed)
def ndc (n : Nd) : List Value := n.id.map bv ++ (hdc n.head ++ ([.int .i64 n.par, .int .i64 (n.hgt : Int)] ++ uc n.wrk))
structure NdOk (n : Nd) : Prop where
 id : n.id.length = 32
 head : n.head.ok
 wrk : n.wrk < 115792089237316195423570985008687907853269984665640564039457584007913129639936
theorem ndc_length {n : Nd} (h : NdOk n) : (ndc n).length = 106 := by simp [ndc, h.id, hdc_length h.head, uc, uq4]
theorem ndc_one (n : Nd) : ∀ u ∈ ndc n, u.oneCell' = true := by
 intro u hu
 simp only [ndc, List.mem_append, List.mem_map, List.mem_cons, List.not_mem_nil, or_false, uc, uq4] at hu
 rcases hu with ⟨_, _, rfl⟩ | h | (rfl | rfl) | rfl | rfl | rfl | rfl
 ·rfl
 ·exact hdc_one _ u h
 all_goals rfl
def NdsOk (ns : List Nd) : Prop := ∀ n ∈ ns, NdOk n
theorem TOk.nds {ns : List Nd} (h : TOk ns) : NdsOk ns := by
 intro n hn
 obtain ⟨k, hk, rfl⟩ := List.getElem_of_mem hn
 obtain ⟨a, b, c⟩ := h.head k _ (List.getElem?_eq_getElem hk)
 exact ⟨by rw [b]; exact hdId_length _, a, c⟩
def ndl (ns : List Nd) : List Value := ns.flatMap ndc
theorem ndl_len {ns : List Nd} (h : NdsOk ns) : (ndl ns).length = ns.length * 106 := flat_length ndc 106 ns fun e he => ndc_length (h e he)
theorem mapM_of {α β : Type} {f : α → Option β} : ∀ l : List α, (∀ i ∈ l, ∃ y, f i = some y) → ∃ ys, l.mapM f = some ys
 | [], _ => ⟨[], rfl⟩
 | a :: l, h => by
  obtain ⟨y, hy⟩ := h a (List.mem_cons_self ..)
  obtain ⟨ys, hys⟩ := mapM_of l fun i hi => h i (List.mem_cons_of_mem _ hi)
  exact ⟨y :: ys, by simp [List.mapM_cons, hy, hys]⟩
theorem hash_cells : Tryd.prog.cellsOf 30 = 32 ∧ Tryd.prog.cellsOf 5 = 1 := ⟨by kernel_rfl, by kernel_rfl⟩
theorem types_succ : Tryd.prog.types.size = (Tryd.prog.types.size - 2) + 1 + 1 := by kernel_rfl
theorem hash_row : 30 < Tryd.prog.types.size := of_decide_eq_true (by kernel_rfl)
theorem key_hash (x : List UInt8) (hx : x.length = 32) : ∃ l, keyOf Tryd.prog 30 (.agg (hcs x)) = some l := by
 have h1 : Tryd.prog.keyType 30 = true := by kernel_rfl
 obtain ⟨c1, c2⟩ := hash_cells
 have h2 : (Value.agg (hcs x)).formed Tryd.prog 30 = true := by
  simp [Value.formed, Tryd.underlying30, c1, hx]
 have h3 : ∃ ls, Tryd.prog.keyLits (Tryd.prog.types.size + 1) 30 (Value.agg (hcs x)).cells.toList = some ls := by
  rw [types_succ]
  unfold Program.keyLits
  simp only [Tryd.underlying30, Value.cells, c1, c2]
  rw [if_pos (by simp [hx])]
  obtain ⟨ys, hys⟩ := mapM_of (f := fun i => Tryd.prog.keyLits (Tryd.prog.types.size - 2 + 2) 5 (((x.map bv).drop (i * 1)).take 1)) (List.range 32) (by
   intro i hi
   have hi' : i < 32 := List.mem_range.1 hi
   have e : ((x.map bv).drop (i * 1)).take 1 = [bv (x[i]'(by omega))] := by
    rw [Nat.mul_one, List.drop_eq_getElem_cons (by simp [hx]; exact hi')]
    simp
   rw [e]
   have := (x[i]'(by omega)).toNat_lt
   refine ⟨[Lit.int .u8 (x[i]'(by omega)).toNat], ?_⟩
   unfold Program.keyLits
   simp only [Tryd.underlying5, bv, true_and]
   rw [if_pos (by simp [Lit.wf, IntKind.min, IntKind.max, IntKind.signed, IntKind.bits]; omega)])
  exact ⟨ys.flatten, by rw [hys]; rfl⟩
 obtain ⟨ls, hls⟩ := h3
 refine ⟨.string (keyBytes ls), ?_⟩
 unfold keyOf
 rw [Tryd.underlying30]
 simp only
 rw [if_pos (by rw [h1, h2]; rfl), hls]
 rfl
theorem laid_all : laidOutB Tryd.prog = true := by
 kernel_rfl
theorem hash_keyed : Keyed Tryd.prog 30 := by
 exact Keyed.of_law (deep_law_laid laid_all (m := 2) (by omega) hash_row (by kernel_rfl) (by kernel_rfl))
theorem bv_map_inj : ∀ {x y : List UInt8}, x.map bv = y.map bv → x = y := by
 intro x
 induction x with
 | nil => intro y h; cases y <;> simp_all
 | cons a x ih =>
  intro y h
  cases y with
  | nil => simp at h
  | cons b y =>
   simp only [List.map_cons, List.cons.injEq] at h
   rw [ih h.2]
   congr 1
   have := h.1
   simp only [bv, Value.int.injEq, true_and] at this
   exact UInt8.toNat_inj.1 (by omega)
def TMap (w : World) (M : Option Nat) (ns : List Nd) : Prop :=
 match M with
 | none => ns = []
 | some b => ∃ (n : Nat) (D : DataW Unit), w.ownsMap Tryd.prog 30 (plainElem Tryd.prog 3) b n D ∧ n ≤ ns.length ∧
  ∀ x l, x.length = 32 → keyOf Tryd.prog 30 (.agg (hcs x)) = some l → Maps.has D l = (tFind ns x).isSome ∧ D.atKey l (.lit (.int .i64 0)) = .lit (.int .i64 ((tFind ns x).getD 0 : Nat))
theorem TMap.block {w w' : World} {M : Option Nat} {ns : List Nd} (h : TMap w M ns) (hb : ∀ b, M = some b → w'.heap[b]? = w.heap[b]?) : TMap w' M ns := by
 cases M with
 | none => exact h
 | some b =>
  obtain ⟨n, D, ⟨es, clock, e, r⟩, q⟩ := h
  exact ⟨n, D, ⟨es, clock, (hb b rfl).trans e, r⟩, q⟩
theorem TMap.lt {w : World} {b : Nat} {ns : List Nd} (h : TMap w (some b) ns) : b < w.heap.size := by
 obtain ⟨n, D, o, _⟩ := h
 exact o.lt
theorem TMap.below {w w' : World} {M : Option Nat} {ns : List Nd} (h : TMap w M ns) (hb : Below w.heap.size w w') : TMap w' M ns :=
 h.block fun b e => by subst e; exact hb.block b h.lt
theorem zero_int (w : World) : (zeroValue 3).run Tryd.prog w = .ok (.int .i64 0) w := by kernel_rfl
theorem TMap.look {w : World} {M : Option Nat} {ns : List Nd} (h : TMap w M ns) (x : List UInt8) (hx : x.length = 32) :
  (Instr.lookup 119 (.map M) (.agg (hcs x)) true).run Tryd.prog w = .ok (.tuple #[.int .i64 ((tFind ns x).getD 0 : Nat), .bool (tFind ns x).isSome]) w := by
 obtain ⟨l, hl⟩ := key_hash x hx
 cases M with
 | none =>
  have hn : ns = [] := h
  subst hn
  exact Maps.look_nil true hash_keyed Tryd.underlying119 (zero_int w) hl
 | some b =>
  obtain ⟨n, D, o, _, q⟩ := h
  obtain ⟨q1, q2⟩ := q x l hx hl
  obtain ⟨v, ps, hrun, hv⟩ := o.look_ok hash_keyed Tryd.underlying119 (zero_int w) (zd := .lit (.int .i64 0)) (plainElem_int Tryd.underlying3 (by decide)) hl
  obtain ⟨c, rfl, hc, _⟩ := plainElem_int_inv Tryd.underlying3 hv
  rw [q2] at hc
  simp only [Prod.mk.injEq, DataW.lit.injEq, Lit.int.injEq, true_and] at hc
  rw [hrun, q1, ← hc.1]
theorem TMap.made (w : World) : TMap (w.alloc (.map #[] 0)) (some w.heap.size) [] := by
 refine ⟨0, .map [], World.ownsMap_made _ _ _ _, Nat.le_refl _, fun x l hx hl => ⟨rfl, rfl⟩⟩
set_option maxRecDepth 10000 in
theorem TMap.put {w : World} {b : Nat} {ns : List Nd} (h : TMap w (some b) ns) (hn : ns.length ≤ 1048576) {nd : Nd} (hid : nd.id.length = 32) (hf : tFind ns nd.id = none) :
  ∃ w', (Instr.mapUpdate 119 (.map (some b)) (.agg (hcs nd.id)) (.int .i64 (ns.length : Int))).run Tryd.prog w = .ok () w' ∧ TMap w' (some b) (ns ++ [nd]) ∧ w.grownBy w' (some b) := by
 obtain ⟨l, hl⟩ := key_hash nd.id hid
 obtain ⟨n, D, o, hle, q⟩ := h
 obtain ⟨w', hrun, o', hg⟩ := o.update hash_keyed Tryd.underlying119 (by simp only [maxLen]; omega) hl (plainElem_int (q := .i64) (a := (ns.length : Int)) Tryd.underlying3 (by simp [Lit.wf, IntKind.min, IntKind.max, IntKind.signed, IntKind.bits]; omega))
 refine ⟨w', hrun, ⟨n + 1, _, o', by simp; omega, fun x k hx hk => ?_⟩, hg⟩
 have hfs : tFind (ns ++ [nd]) x = (tFind ns x).or (if nd.id == x then some ns.length else none) := by
  unfold tFind
  rw [List.findIdx?_append]
  simp [List.findIdx?_cons]
 by_cases e : x = nd.id
 ·subst e
  rw [hl] at hk
  injection hk with hk
  subst hk
  have hm := o.isMap
  rw [hfs, hf, Maps.has_put_same hm (hash_keyed.key hl), Maps.atKey_put_same hm (hash_keyed.key hl)]
  simp
 ·have hne : k ≠ l := fun e2 => e (by
   subst e2
   have := hash_keyed.inj hk hl
   injection this with this
   have h1 : x.map bv = nd.id.map bv := by simpa [hcs] using congrArg Array.toList this
   exact bv_map_inj h1)
  rw [hfs, Maps.has_put_other hne, Maps.atKey_put_other hne]
  have : (nd.id == x) = false := by simpa using Ne.symm e
  rw [this]
  simpa using q x k hx hk
structure TRv (w : World) (R most : Nat) (A : Option Addr) (n c : Nat) (M : Option Nat) (ns : List Nd) : Prop where
 av : Av w R 121 [.int .i64 (most : Int), .slice A n c, .map M]
 len : ns.length = n
 small : n ≤ 1048576
 rd : Rd w A (ndl ns)
 map : TMap w M ns
 nds : NdsOk ns
theorem TRv.below {w w' : World} {R most : Nat} {A : Option Addr} {n c : Nat} {M : Option Nat} {ns : List Nd} (h : TRv w R most A n c M ns) (b : Below w.heap.size w w') : TRv w' R most A n c M ns :=
 ⟨h.av.below b, h.len, h.small, h.rd.below b, h.map.below b, h.nds⟩
def TRef (w : World) (v : Value) (ns : List Nd) : Prop := (v = .pointer none ∧ ns = []) ∨ ∃ R most A n c M, v = .pointer (some ⟨R, 0, none⟩) ∧ TRv w R most A n c M ns
theorem TRef.below {w w' : World} {v : Value} {ns : List Nd} (h : TRef w v ns) (b : Below w.heap.size w w') : TRef w' v ns := by
 rcases h with h | ⟨R, most, A, n, c, M, e, h⟩
 ·exact .inl h
 ·exact .inr ⟨R, most, A, n, c, M, e, h.below b⟩
theorem TRv.adr {w : World} {R most : Nat} {A : Option Addr} {n c : Nat} {M : Option Nat} {ns : List Nd} (h : TRv w R most A n c M ns) (hn : 0 < n) : ∃ b off, A = some ⟨b, off, none⟩ := by
 refine h.rd.someA fun e => ?_
 have := ndl_len h.nds
 rw [e, List.length_nil, h.len] at this
 omega
theorem TRv.nth {w : World} {R most : Nat} {b off : Nat} {n c : Nat} {M : Option Nat} {ns : List Nd} (h : TRv w R most (some ⟨b, off, none⟩) n c M ns) (k : Nat) (nd : Nd) (hk : ns[k]? = some nd) : w.rangeAt b (off + k * 106) (ndc nd) ∧ NdOk nd :=
 ⟨Rd.piece ndc 106 ns (fun e he => ndc_length (h.nds e he)) h.rd k nd hk, h.nds nd (List.mem_of_getElem? hk)⟩
theorem exec_lookup {P : Program} {t : TypeId} {m k r : Value} {c : Bool} {w : World} (h : (Instr.lookup t m k c).run P w = .ok r w) {o : Oper} {ρ : Operand → Value} {x y : Operand} (ho : o.op = .lookup t x y c) (hx : ρ x = m) (hy : ρ y = k) : (execOp ρ o).run P w = .ok (.value r) w := by
 unfold execOp
 simp [ho, hx, hy, h, Result.andThen]
set_option maxRecDepth 100000 in
set_option maxHeartbeats 1000000 in
theorem TLen (v : Value) (ns : List Nd) (w : World) (h : TRef w v ns) : Calls Tryd.prog 58 #[v] w fun e w' => e = .returned (.int .i64 (ns.length : Int)) ∧ w = w' := by
 rcases h with ⟨rfl, rfl⟩ | ⟨R, most, A, n, c, M, rfl, T⟩
 ·go_enter Tryd.func58, Tryd.ntmps58
  go_wp2
  go_ret
  exact ⟨rfl, rfl⟩
 ·have c1 := T.av.cell 1 _ rfl
  have hl := T.len
  rw [hl]
  clear T hl
  go_enter Tryd.func58, Tryd.ntmps58
  go_wp2
  go_ret
  exact ⟨rfl, rfl⟩
set_option maxRecDepth 100000 in
set_option maxHeartbeats 1000000 in
theorem TFind (v : Value) (ns : List Nd) (x : List UInt8) (hx : x.length = 32) (w : World) (h : TRef w v ns) : Calls Tryd.prog 16 #[v, .agg (hcs x)] w fun e w' => e = .returned (.tuple #[.int .i64 ((tFind ns x).getD 0 : Nat), .bool (tFind ns x).isSome]) ∧ Below w.heap.size w w' := by
 obtain ⟨W, hW⟩ : ∃ W, W = w.alloc (.cells (hcs x) 30) := ⟨_, rfl⟩
 obtain ⟨H, hH⟩ : ∃ H, H = w.heap.size := ⟨_, rfl⟩
 have bW : Below w.heap.size w W := by rw [hW]; exact (Below.refl _ _).alloc (Nat.le_refl _) _
 have aX : Av W H 30 (x.map bv) := by rw [hW, hH]; exact heap_alloc_new _ _
 replace hW := Lib.hid hW
 replace hH := Lib.hid hH
 obtain ⟨K, hK⟩ : ∃ K, K = (tFind ns x).getD 0 := ⟨_, rfl⟩
 obtain ⟨E, hE⟩ : ∃ E, E = (tFind ns x).isSome := ⟨_, rfl⟩
 rw [← hK, ← hE]
 rcases h with ⟨rfl, rfl⟩ | ⟨R, most, A, n, c, M, rfl, T⟩
 ·have k0 : K = 0 := hK
  have e0 : E = false := hE
  subst k0 e0
  clear hK hE
  go_enter Tryd.func16, Tryd.ntmps16
  go_upto_region 1 with fail
  rw [← hW.out, ← hH.out]
  go_wp2
  go_ret2
  exact ⟨rfl, bW⟩
 ·replace hK := Lib.hid hK
  replace hE := Lib.hid hE
  go_enter Tryd.func16, Tryd.ntmps16
  go_upto_region 1 with fail
  rw [← hW.out, ← hH.out]
  go_upto_region 3 with fail
  refine wp_region_rel [] Ext (by kernel_rfl) (by kernel_rfl) (by kernel_rfl) Ext.refl Ext.trans (by intro p hp; cases hp) ?_
  refine ZM ?_
  refine ZP (c := .pointer (some ⟨R, 0, none⟩)) (fun w _ => by go_simp; first | done | rfl) ?_
  refine ZP (c := .pointer (some ⟨R, 2, none⟩)) (fun w _ => by go_simp; first | done | rfl) ?_
  refine ZP (c := .map M) (fun w hw => by have := (T.av.below (bW.trans (hw.drew.mono bW.size))).cell 2 _ rfl; go_simp; first | done | rfl) ?_
  refine ZP (c := .agg (hcs x)) (fun w hw => exec_loadAv (l := x.map bv) (aX.below hw.drew) _ _ rfl rfl _ 32 (by rw [List.length_map]; exact hx) Tryd.underlying30 rfl (by kernel_rfl)) ?_
  refine ZP (c := .tuple #[.int .i64 ((K : Nat) : Int), .bool E]) (fun w hw => exec_lookup (by have := (T.map.below (bW.trans (hw.drew.mono bW.size))).look x hx; rwa [← hK.out, ← hE.out] at this) rfl rfl rfl) ?_
  refine ZM ?_
  refine ZP (c := .int .i64 ((K : Nat) : Int)) (fun w _ => by go_simp; first | done | rfl) ?_
  refine ZP (c := .bool E) (fun w _ => by go_simp; first | done | rfl) ?_
  refine ZM ?_
  refine ZM ?_
  refine relEnd fun w5 hw5 => fill_end ?_
  have b5 := bW.trans (hw5.drew.mono bW.size)
  go_wp2
  go_ret2
  exact ⟨rfl, b5⟩
end Go.Proofs.YtobjgebojhjhnaaDoor
namespace Go.Proofs.YtobjgebojhjhnaaDoor
open Go.RowKit
def zeroNd : Nd := ⟨List.replicate 32 0, ⟨0, List.replicate 32 0, List.replicate 32 0, 0, 0, 0⟩, 0, 0, 0⟩
def zcN : Array Value := (ndc zeroNd).toArray
theorem zcN_ne : zcN ≠ #[] := by
 intro h
 have := congrArg Array.size h
 revert this
 decide
theorem zvN (w : World) : (zeroValue 141).run Tryd.prog w = .ok (.agg zcN) w := by
 obtain ⟨i0, hi, hz⟩ := Option.map_eq_some_iff.1 (show (Tryd.prog.info? 141).map (·.zero) = some (some (.agg zcN)) by kernel_rfl)
 simp [zeroValue, typeInfo, hi, hz]
theorem zcN_c : Tryd.zeroCells141 = zcN := by kernel_rfl
attribute [local go_sem high] zvN zcN_c
attribute [local simp] zcN_ne
theorem bldN (a : Act) (w' : World) (d tp pos af) : (execOp a.eval ⟨d, .build 141 #[], tp, pos, af, none⟩).run Tryd.prog w' = .ok (.value (.agg zcN)) w' := by
 kernel_rfl
theorem zcN_len : (ndc zeroNd).length = 106 := by rfl
theorem zcN_one : (ndc zeroNd).all (·.oneCell') = true := by rfl
theorem wpList_buildE {P : Program} {ty : TypeId} {parts : Array (Nat × Operand)} {ops : Array Oper} {rest : List Oper} {a : Act} {w : World} {Q : Exit → Act → World → Prop} {d tp pos af} (v : Value) (h : (execOp a.eval ⟨d, .build ty parts, tp, pos, af, none⟩).run P w = .ok (.value v) w) (k : wpList P ops Q rest (a.put d v) w) : wpList P ops Q (⟨d, .build ty parts, tp, pos, af, none⟩ :: rest) a w :=
 wpList_execW rfl h k
def nodeV (ns : List Nd) (i : Int) : Value := match (if 0 ≤ i then ns[i.toNat]? else none) with
 | some n => .tuple #[.agg (ndc n).toArray, .bool true]
 | none => .tuple #[.agg zcN, .bool false]
theorem nodeV_in {ns : List Nd} {i : Nat} {n : Nd} (h : ns[i]? = some n) : nodeV ns (i : Int) = .tuple #[.agg (ndc n).toArray, .bool true] := by
 unfold nodeV
 rw [if_pos (by omega), Int.toNat_natCast, h]
theorem nodeV_out {ns : List Nd} {i : Int} (h : ¬ (0 ≤ i ∧ i < ns.length)) : nodeV ns i = .tuple #[.agg zcN, .bool false] := by
 unfold nodeV
 by_cases h0 : 0 ≤ i
 ·rw [if_pos h0, List.getElem?_eq_none (by omega)]
 ·rw [if_neg h0]
set_option maxRecDepth 100000 in
set_option maxHeartbeats 1000000 in
theorem TNode (v : Value) (ns : List Nd) (i : Int) (hi : -9223372036854775808 ≤ i ∧ i ≤ 9223372036854775807) (w : World) (h : TRef w v ns) : Calls Tryd.prog 52 #[v, .int .i64 i] w fun e w' => e = .returned (nodeV ns i) ∧ Below w.heap.size w w' := by
 obtain ⟨W, hW⟩ : ∃ W, W = w.alloc (.cells zcN 141) := ⟨_, rfl⟩
 obtain ⟨H, hH⟩ : ∃ H, H = w.heap.size := ⟨_, rfl⟩
 have bW : Below w.heap.size w W := by rw [hW]; exact (Below.refl _ _).alloc (Nat.le_refl _) _
 have aR : Av W H 141 (ndc zeroNd) := by rw [hW, hH]; exact heap_alloc_new _ _
 have hHw : w.heap.size ≤ H := by rw [hH]; exact Nat.le_refl _
 have HL := TLen v ns W (h.below bW)
 replace hW := Lib.hid hW
 replace hH := Lib.hid hH
 obtain ⟨Z, hZ⟩ : ∃ Z, Z = nodeV ns i := ⟨_, rfl⟩
 rw [← hZ]
 obtain ⟨n, hn⟩ : ∃ n, n = ns.length := ⟨_, rfl⟩
 rw [← hn] at HL
 replace HL := Lib.hid HL
 by_cases hin : 0 ≤ i ∧ i < ns.length
 ·rcases h with ⟨rfl, rfl⟩ | ⟨R, most, A, m, c, M, rfl, T⟩
  ·simp at hin; omega
  ·obtain ⟨k, rfl⟩ : ∃ k : Nat, i = (k : Int) := ⟨i.toNat, by omega⟩
   obtain ⟨nd, hnd⟩ : ∃ nd, ns[k]? = some nd := ⟨_, List.getElem?_eq_getElem (by omega)⟩
   rw [nodeV_in hnd] at hZ
   subst hZ
   have hlm := T.len
   obtain ⟨b, off, rfl⟩ := T.adr (by omega)
   have T2 := T.below bW
   have c1 := T2.av.cell 1 _ rfl
   obtain ⟨rg, nok⟩ := T2.nth k nd hnd
   have l106 := Lib.hid (ndc_length nok)
   have one5 := Lib.hid (List.all_eq_true.2 (ndc_one nd))
   have t0 : decide ((k : Int) < 0) = false := by simp
   have t1 : decide ((n : Int) ≤ (k : Int)) = false := by simp; omega
   have t2 : decide (n ≤ k) = false := by simp; omega
   have m1 : (k : Int) < (m : Int) := by omega
   have m0 : (0 : Int) ≤ (k : Int) := by omega
   replace rg := Lib.hid rg
   replace hnd := Lib.hid hnd
   clear T T2 hi hin hlm nok hn
   go_enter Tryd.func52, Tryd.ntmps52
   go_upto_region 1 with fail
   rw [← hW.out, ← hH.out]
   go_upto_region 3 with (go_at_call 58; refine (HL.out).mono ?_; rintro e w2 ⟨rfl, rfl⟩)
   go_wp2_with (first
    | ((with_reducible refine wpList_loadMF 141 (ndc nd) rg.out ?_ _ Tryd.underlying141 ?_ ?_ ?_); rfl; rfl; (rw [l106.out]; kernel_rfl))
    | ((with_reducible refine wpList_storeFA 141 bW aR hHw (ndc nd) ?_ ?_ 106 ?_ ?_ ?_ ?_ ?_); rfl; rfl; exact l106.out; kernel_rfl; exact zcN_len; exact one5.out; intro w5 a5 b5 k5 z5; clear k5; replace z5 := Lib.hid z5))
   refine bodyPost_ret (v := .tuple #[.agg (ndc nd).toArray, .bool true]) ((results_cellU (C := ndc nd) (by rfl) (by rfl) a5 _ Tryd.underlying141 rfl 106 l106.out (by kernel_rfl)).trans (by rfl)) (by rfl) ⟨rfl, b5⟩
 ·rw [nodeV_out hin] at hZ
  subst hZ
  have one5 := Lib.hid zcN_one
  have hz : zcN = (ndc zeroNd).toArray := rfl
  replace hz := Lib.hid hz
  by_cases h0 : i < 0
  ·have t0 : decide (i < 0) = true := by simpa using h0
   clear hi hin hn h
   go_enter Tryd.func52, Tryd.ntmps52
   go_upto_region 1 with fail
   rw [← hW.out, ← hH.out]
   go_wp2_with (first
    | (with_reducible refine wpList_buildE (.agg zcN) (bldN _ _ _ _ _ _) ?_)
    | ((with_reducible refine wpList_storeFA 141 bW aR hHw (ndc zeroNd) ?_ ?_ 106 ?_ ?_ ?_ ?_ ?_); rfl; rfl; exact zcN_len; kernel_rfl; exact zcN_len; exact one5.out; intro w5 a5 b5 k5 z5; clear k5; replace z5 := Lib.hid z5))
   refine bodyPost_ret (v := .tuple #[.agg zcN, .bool false]) ((results_cellU (C := ndc zeroNd) (by rfl) (by rfl) a5 _ Tryd.underlying141 rfl 106 zcN_len (by kernel_rfl)).trans (by rfl)) (by rfl) ⟨rfl, b5⟩
  ·have t0 : decide (i < 0) = false := by simpa using h0
   have t1 : decide ((n : Int) ≤ i) = true := by simp; omega
   clear hi hin hn h
   go_enter Tryd.func52, Tryd.ntmps52
   go_upto_region 1 with fail
   rw [← hW.out, ← hH.out]
   go_upto_region 2 with (go_at_call 58; refine (HL.out).mono ?_; rintro e w2 ⟨rfl, rfl⟩)
   go_wp2_with (first
    | (with_reducible refine wpList_buildE (.agg zcN) (bldN _ _ _ _ _ _) ?_)
    | ((with_reducible refine wpList_storeFA 141 bW aR hHw (ndc zeroNd) ?_ ?_ 106 ?_ ?_ ?_ ?_ ?_); rfl; rfl; exact zcN_len; kernel_rfl; exact zcN_len; exact one5.out; intro w5 a5 b5 k5 z5; clear k5; replace z5 := Lib.hid z5))
   refine bodyPost_ret (v := .tuple #[.agg zcN, .bool false]) ((results_cellU (C := ndc zeroNd) (by rfl) (by rfl) a5 _ Tryd.underlying141 rfl 106 zcN_len (by kernel_rfl)).trans (by rfl)) (by rfl) ⟨rfl, b5⟩
theorem ndc_at {n : Nd} (h : NdOk n) : (ndc n)[100]? = some (.int .i64 n.par) ∧ (ndc n)[101]? = some (.int .i64 (n.hgt : Int)) := by
 have h1 := h.id
 have h2 := hdc_length h.head
 constructor <;>
 ·unfold ndc
  rw [List.getElem?_append_right (by simp [h1]), List.getElem?_append_right (by simp [h1, h2])]
  simp [h1, h2]
theorem rg_work {w : World} {b o : Nat} {n : Nd} (h : NdOk n) (r : w.rangeAt b o (ndc n)) : w.rangeAt b (o + 102) (uc n.wrk) := fun j u hu => by
 have h1 := h.id
 have h2 := hdc_length h.head
 have := r (102 + j) u (by
  unfold ndc
  rw [List.getElem?_append_right (by simp [h1]; omega), List.getElem?_append_right (by simp [h1, h2]; omega), List.getElem?_append_right (by simp [h1, h2]; omega)]
  simp only [List.length_map, h1, h2, List.length_cons, List.length_nil]
  rw [show 102 + j - 32 - 68 - (0 + 1 + 1) = j by omega]
  exact hu)
 rw [Nat.add_assoc]
 exact this
theorem rg_cell {w : World} {b o i : Nat} {cs : List Value} {u : Value} (r : w.rangeAt b o cs) (h : cs[i]? = some u) : w.cell? ⟨b, o + i, none⟩ = some u := r i u h
def aboveV (ns : List Nd) (i h : Int) : Value := if 0 ≤ i ∧ i < ns.length ∧ 0 ≤ h ∧ h ≤ tHgt ns i.toNat then .tuple #[.int .i64 (tAnc ns i.toNat (tHgt ns i.toNat - h.toNat) : Nat), .bool true] else .tuple #[.int .i64 0, .bool false]
theorem tHgt_at {ns : List Nd} {i : Nat} {n : Nd} (h : ns[i]? = some n) : tHgt ns i = n.hgt := (tAt h).2.1
theorem TOk.par {ns : List Nd} (ok : TOk ns) {i : Nat} {n : Nd} (h : ns[i]? = some n) (h0 : i ≠ 0) : n.par = (tPar ns i : Int) := by
 obtain ⟨p, m, e1, _⟩ := ok.step i n h h0
 rw [(tAt h).1, e1]
 rfl
set_option maxRecDepth 100000 in
set_option maxHeartbeats 4000000 in
theorem TAbove (v : Value) (ns : List Nd) (ok : TOk ns) (i h : Int) (hi : -9223372036854775808 ≤ i ∧ i ≤ 9223372036854775807) (w : World) (ht : TRef w v ns) : Calls Tryd.prog 91 #[v, .int .i64 i, .int .i64 h] w fun e w' => e = .returned (aboveV ns i h) ∧ Below w.heap.size w w' := by
 have HN := TNode v ns i hi w ht
 obtain ⟨Z, hZ⟩ : ∃ Z, Z = aboveV ns i h := ⟨_, rfl⟩
 rw [← hZ]
 by_cases hin : 0 ≤ i ∧ i < ns.length
 ·obtain ⟨k, rfl⟩ : ∃ k : Nat, i = (k : Int) := ⟨i.toNat, by omega⟩
  have hkl : k < ns.length := by omega
  obtain ⟨nd, hnd⟩ : ∃ nd, ns[k]? = some nd := ⟨_, List.getElem?_eq_getElem hkl⟩
  rw [nodeV_in hnd] at HN
  have hth := tHgt_at hnd
  rcases ht with ⟨rfl, rfl⟩ | ⟨R, most, A, n, c, M, rfl, T⟩
  ·simp at hkl
  ·have hlen := T.len
   have hn0 : 0 < n := by omega
   obtain ⟨b, off, rfl⟩ := T.adr hn0
   have nok := T.nds nd (List.mem_of_getElem? hnd)
   have l106 := Lib.hid (ndc_length nok)
   have one2 := Lib.hid (List.all_eq_true.2 (ndc_one nd))
   obtain ⟨_, q101⟩ := ndc_at nok
   have hhs : nd.hgt < 1048576 := by
    have := ok.hgt_le hkl
    have := T.small
    omega
   obtain ⟨G, hG⟩ : ∃ G, G = nd.hgt := ⟨_, rfl⟩
   rw [← hG] at hth q101 hhs
   replace HN := Lib.hid HN
   replace hG := Lib.hid hG
   replace q101 := Lib.hid q101
   replace hnd := Lib.hid hnd
   replace hlen := Lib.hid hlen
   clear nok
   by_cases hh : 0 ≤ h ∧ h ≤ (G : Int)
   ·obtain ⟨q, rfl⟩ : ∃ q : Nat, h = (q : Int) := ⟨h.toNat, by omega⟩
    have hZ2 : Z = .tuple #[.int .i64 (tAnc ns k (G - q) : Nat), .bool true] := by
     rw [hZ, aboveV]
     simp only [Int.toNat_natCast, hth]
     rw [if_pos (by omega)]
    have t0 : decide ((q : Int) < 0) = false := by simp
    have t1 : decide ((G : Int) < (q : Int)) = false := by simp; omega
    have t1' : decide (G < q) = false := by simp; omega
    have hqG : q ≤ G := by omega
    replace hth := Lib.hid hth
    replace hZ2 := Lib.hid hZ2
    clear hin hi hh hZ
    go_enter Tryd.func91, Tryd.ntmps91
    go_upto_region 2 with (first
   | (go_at_call 52; refine (HN.out).mono ?_; rintro e w1 ⟨rfl, b1⟩)
   | ((with_reducible refine wpList_storeF 141 ((Below.refl w1.heap.size w1).alloc (Nat.le_refl _) _) (heap_alloc_new _ _) (Nat.le_refl _) (ndc nd) ?_ ?_ 106 ?_ ?_ ?_ ?_ ?_); rfl; rfl; exact l106.out; kernel_rfl; exact zcN_len; exact one2.out; intro w2 a2 b2 k2 z2; clear k2; replace z2 := Lib.hid z2))
    have b3 := b1.trans (b2.mono b1.size)
    have c101 := a2.cell 101 _ q101.out
    clear a2 b1 b2
    go_upto_region 4 with fail
    clear c101
    go_loopw [1] (fun iv wr => ∃ d : Nat, d ≤ G - q ∧ iv = .int .i64 (tAnc ns k d : Nat) ∧ Below w.heap.size w wr) (fun iv _ => (intOf iv).toNat)
    case atStart => exact ⟨0, by omega, rfl, b3⟩
    case round =>
     obtain ⟨d, hd, rfl, bw⟩ := hrel
     have hle : d ≤ tHgt ns k := by rw [hth.out]; omega
     obtain ⟨p1, p2, p3⟩ := ok.anc hkl d hle
     rw [hth.out] at p2
     obtain ⟨j, hj⟩ : ∃ j, j = tAnc ns k d := ⟨_, rfl⟩
     rw [← hj] at p1 p2 p3 ⊢
     obtain ⟨x, hx⟩ : ∃ x, ns[j]? = some x := ⟨_, List.getElem?_eq_getElem p1⟩
     obtain ⟨r1, r2⟩ := (T.below bw).nth j x hx
     obtain ⟨c100, c101⟩ := ndc_at r2
     have c100 := rg_cell r1 c100
     have c101 := rg_cell r1 c101
     have c1 := (T.below bw).av.cell 1 _ rfl
     have hxh : x.hgt = G - d := by rw [← tHgt_at hx]; exact p2
     have m0 : (0 : Int) ≤ (j : Int) := by omega
     have m1 : (j : Int) < (n : Int) := by have := hlen.out; omega
     obtain ⟨X, hX⟩ : ∃ X, X = x.hgt := ⟨_, rfl⟩
     rw [← hX] at hxh c101
     replace hX := Lib.hid hX
     clear r1 r2
     by_cases hgt : d < G - q
     ·have u1 : decide ((q : Int) < (X : Int)) = true := by simp; omega
      have u1' : decide (q < X) = true := by simp; omega
      have hj0 : j ≠ 0 := by
       intro e
       have := (ok.hgt_0 p1).2 e
       omega
      have hpar := ok.par hx hj0
      have hlt : tPar ns j < j := by
       rcases ok.up p1 with ⟨_, e⟩ | ⟨_, e, _⟩
       ·exact absurd e hj0
       ·exact e
      have hnx : tAnc ns k (d + 1) = tPar ns j := by rw [tAnc, ← hj]
      obtain ⟨Y, hY⟩ : ∃ Y, Y = tPar ns j := ⟨_, rfl⟩
      rw [← hY] at hpar hlt hnx
      rw [hpar] at c100
      replace hpar := Lib.hid hpar
      replace hY := Lib.hid hY
      replace hnx := Lib.hid hnx
      replace hj := Lib.hid hj
      replace hx := Lib.hid hx
      replace p2 := Lib.hid p2
      replace hxh := Lib.hid hxh
      clear hle p3
      go_wp2
      refine ⟨⟨d + 1, by omega, by rw [hnx.out], bw⟩, ?_⟩
      simp [intOf]; omega
     ·obtain rfl : d = G - q := by omega
      have u1 : decide ((q : Int) < (X : Int)) = false := by simp; omega
      have u1' : decide (q < X) = false := by simp; omega
      replace hj := Lib.hid hj
      replace hx := Lib.hid hx
      replace p2 := Lib.hid p2
      replace hxh := Lib.hid hxh
      clear hle p3 hgt
      go_wp2
      go_ret2
      refine ⟨?_, bw⟩
      rw [hZ2.out, ← hj.out]
      rfl
   ·have hZ2 : Z = .tuple #[.int .i64 0, .bool false] := by
     rw [hZ, aboveV]
     simp only [Int.toNat_natCast, hth]
     rw [if_neg (by omega)]
    subst hZ2
    by_cases h0 : h < 0
    ·have t0 : decide (h < 0) = true := by simpa using h0
     clear hin hi hh hZ hth
     go_enter Tryd.func91, Tryd.ntmps91
     go_upto_region 2 with (first
   | (go_at_call 52; refine (HN.out).mono ?_; rintro e w1 ⟨rfl, b1⟩)
   | ((with_reducible refine wpList_storeF 141 ((Below.refl w1.heap.size w1).alloc (Nat.le_refl _) _) (heap_alloc_new _ _) (Nat.le_refl _) (ndc nd) ?_ ?_ 106 ?_ ?_ ?_ ?_ ?_); rfl; rfl; exact l106.out; kernel_rfl; exact zcN_len; exact one2.out; intro w2 a2 b2 k2 z2; clear k2; replace z2 := Lib.hid z2))
     have b3 := b1.trans (b2.mono b1.size)
     go_wp2
     go_ret2
     exact ⟨rfl, b3⟩
    ·have t0 : decide (h < 0) = false := by simpa using h0
     have t1 : decide ((G : Int) < h) = true := by simp; omega
     clear hin hi hh hZ hth
     go_enter Tryd.func91, Tryd.ntmps91
     go_upto_region 2 with (first
   | (go_at_call 52; refine (HN.out).mono ?_; rintro e w1 ⟨rfl, b1⟩)
   | ((with_reducible refine wpList_storeF 141 ((Below.refl w1.heap.size w1).alloc (Nat.le_refl _) _) (heap_alloc_new _ _) (Nat.le_refl _) (ndc nd) ?_ ?_ 106 ?_ ?_ ?_ ?_ ?_); rfl; rfl; exact l106.out; kernel_rfl; exact zcN_len; exact one2.out; intro w2 a2 b2 k2 z2; clear k2; replace z2 := Lib.hid z2))
     have b3 := b1.trans (b2.mono b1.size)
     have c101 := a2.cell 101 _ q101.out
     go_wp2
     go_ret2
     exact ⟨rfl, b3⟩
 ·rw [nodeV_out hin] at HN
  have hZ2 : Z = .tuple #[.int .i64 0, .bool false] := by rw [hZ, aboveV, if_neg (fun q => hin ⟨q.1, q.2.1⟩)]
  subst hZ2
  have one2 := Lib.hid zcN_one
  replace HN := Lib.hid HN
  clear hin hi hZ
  go_enter Tryd.func91, Tryd.ntmps91
  go_upto_region 2 with (first
   | (go_at_call 52; refine (HN.out).mono ?_; rintro e w1 ⟨rfl, b1⟩)
   | ((with_reducible refine wpList_storeF 141 ((Below.refl w1.heap.size w1).alloc (Nat.le_refl _) _) (heap_alloc_new _ _) (Nat.le_refl _) (ndc zeroNd) ?_ ?_ 106 ?_ ?_ ?_ ?_ ?_); rfl; rfl; exact zcN_len; kernel_rfl; exact zcN_len; exact one2.out; intro w2 a2 b2 k2 z2; clear k2; replace z2 := Lib.hid z2))
  have b3 := b1.trans (b2.mono b1.size)
  go_wp2
  go_ret2
  exact ⟨rfl, b3⟩
end Go.Proofs.YtobjgebojhjhnaaDoor
namespace Go.Proofs.YtobjgebojhjhnaaDoor
open Go.RowKit
attribute [local go_sem] zvN
attribute [local simp] zcN_ne
def iv (k : Nat) : Value := .int .i64 (k : Int)
theorem size_intT : (Tryd.prog.info? 3).map (·.size) = some 1 := by kernel_rfl
def IntsV (w : World) (v : Value) (l : List Nat) : Prop := ∃ A n c, v = .slice A n c ∧ l.length = n ∧ Rd w A (l.map iv)
theorem IntsV.below {w w' : World} {v : Value} {l : List Nat} (h : IntsV w v l) (b : Below w.heap.size w w') : IntsV w' v l := by
 obtain ⟨A, n, c, e, hl, r⟩ := h
 exact ⟨A, n, c, e, hl, r.below b⟩
def lineL (ns : List Nd) (i : Int) : List Nat := if 0 ≤ i ∧ i < ns.length then mLine ns i.toNat else []
def lineC (ns : List Nd) (i q : Nat) : List Value := List.replicate (tHgt ns i + 1 - q) (.int .i64 0) ++ ((mLine ns i).drop (tHgt ns i + 1 - q)).map iv
end Go.Proofs.YtobjgebojhjhnaaDoor
