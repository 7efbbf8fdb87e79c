/- Trees of headers as they lie in memory; tree.Len, Find. -/
import Derived.Test.YtijnkieakenipaaDoorTm
import Derived.Test.YtijnkieakenipaaDoorUw
import Derived.Test.YtijnkieakenipaaDoorPc
import Derived.Maps.OwnSet
import Derived.DeepKeys4
namespace Go.Proofs.YtijnkieakenipaaDoor
open Go.RowKit
open Go.Maps (Keyed)
/-- the cells of a node -/
def ndc (n : Nd) : List Value := n.id.map bv ++ (hdc n.head ++ ([.int .i64 n.par, .int .i64 (n.hgt : Int)] ++ uc n.wrk))
structure NdOk (n : Nd) : Prop where
  id : n.id.length = 32
  head : n.head.ok
  wrk : n.wrk < 115792089237316195423570985008687907853269984665640564039457584007913129639936
theorem ndc_length {n : Nd} (h : NdOk n) : (ndc n).length = 106 := by simp [ndc, h.id, hdc_length h.head, uc, uq4]
theorem ndc_one (n : Nd) : ∀ u ∈ ndc n, u.oneCell' = true := by
  intro u hu
  simp only [ndc, List.mem_append, List.mem_map, List.mem_cons, List.not_mem_nil, or_false, uc, uq4] at hu
  rcases hu with ⟨_, _, rfl⟩ | h | (rfl | rfl) | rfl | rfl | rfl | rfl
  · rfl
  · exact hdc_one _ u h
  all_goals rfl
def NdsOk (ns : List Nd) : Prop := ∀ n ∈ ns, NdOk n
theorem TOk.nds {ns : List Nd} (h : TOk ns) : NdsOk ns := by
  intro n hn
  obtain ⟨k, hk, rfl⟩ := List.getElem_of_mem hn
  obtain ⟨a, b, c⟩ := h.head k _ (List.getElem?_eq_getElem hk)
  exact ⟨by rw [b]; exact hdId_length _, a, c⟩
def ndl (ns : List Nd) : List Value := ns.flatMap ndc
theorem ndl_len {ns : List Nd} (h : NdsOk ns) : (ndl ns).length = ns.length * 106 := flat_length ndc 106 ns fun e he => ndc_length (h e he)
/-! ### the map of ids -/
theorem mapM_of {α β : Type} {f : α → Option β} : ∀ l : List α, (∀ i ∈ l, ∃ y, f i = some y) → ∃ ys, l.mapM f = some ys
  | [], _ => ⟨[], rfl⟩
  | a :: l, h => by
    obtain ⟨y, hy⟩ := h a (List.mem_cons_self ..)
    obtain ⟨ys, hys⟩ := mapM_of l fun i hi => h i (List.mem_cons_of_mem _ hi)
    exact ⟨y :: ys, by simp [List.mapM_cons, hy, hys]⟩
theorem hash_cells : Tryd.prog.cellsOf 25 = 32 ∧ Tryd.prog.cellsOf 5 = 1 := ⟨by kernel_rfl, by kernel_rfl⟩
theorem types_succ : Tryd.prog.types.size = (Tryd.prog.types.size - 2) + 1 + 1 := by kernel_rfl
theorem hash_row : 25 < Tryd.prog.types.size := of_decide_eq_true (by kernel_rfl)
theorem key_hash (x : List UInt8) (hx : x.length = 32) : ∃ l, keyOf Tryd.prog 25 (.agg (hcs x)) = some l := by
  have h1 : Tryd.prog.keyType 25 = true := by kernel_rfl
  obtain ⟨c1, c2⟩ := hash_cells
  have h2 : (Value.agg (hcs x)).formed Tryd.prog 25 = true := by
    simp [Value.formed, Tryd.underlying25, c1, hx]
  have h3 : ∃ ls, Tryd.prog.keyLits (Tryd.prog.types.size + 1) 25 (Value.agg (hcs x)).cells.toList = some ls := by
    rw [types_succ]
    unfold Program.keyLits
    simp only [Tryd.underlying25, Value.cells, c1, c2]
    rw [if_pos (by simp [hx])]
    obtain ⟨ys, hys⟩ := mapM_of (f := fun i => Tryd.prog.keyLits (Tryd.prog.types.size - 2 + 2) 5 (((x.map bv).drop (i * 1)).take 1)) (List.range 32) (by
      intro i hi
      have hi' : i < 32 := List.mem_range.1 hi
      have e : ((x.map bv).drop (i * 1)).take 1 = [bv (x[i]'(by omega))] := by
        rw [Nat.mul_one, List.drop_eq_getElem_cons (by simp [hx]; exact hi')]
        simp
      rw [e]
      have := (x[i]'(by omega)).toNat_lt
      refine ⟨[Lit.int .u8 (x[i]'(by omega)).toNat], ?_⟩
      unfold Program.keyLits
      simp only [Tryd.underlying5, bv, true_and]
      rw [if_pos (by simp [Lit.wf, IntKind.min, IntKind.max, IntKind.signed, IntKind.bits]; omega)])
    exact ⟨ys.flatten, by rw [hys]; rfl⟩
  obtain ⟨ls, hls⟩ := h3
  refine ⟨.string (keyBytes ls), ?_⟩
  unfold keyOf
  rw [Tryd.underlying25]
  simp only
  rw [if_pos (by rw [h1, h2]; rfl), hls]
  rfl
theorem laid_all : laidOutB Tryd.prog = true := by
  kernel_rfl
theorem hash_keyed : Keyed Tryd.prog 25 := by
  exact Keyed.of_law (deep_law_laid laid_all (m := 2) (by omega) hash_row (by kernel_rfl) (by kernel_rfl))
theorem bv_map_inj : ∀ {x y : List UInt8}, x.map bv = y.map bv → x = y := by
  intro x
  induction x with
  | nil => intro y h; cases y <;> simp_all
  | cons a x ih =>
    intro y h
    cases y with
    | nil => simp at h
    | cons b y =>
      simp only [List.map_cons, List.cons.injEq] at h
      rw [ih h.2]
      congr 1
      have := h.1
      simp only [bv, Value.int.injEq, true_and] at this
      exact UInt8.toNat_inj.1 (by omega)
/-- the map of the ids: the block M holds just the numbers of the nodes -/
def TMap (w : World) (M : Option Nat) (ns : List Nd) : Prop :=
  match M with
  | none => ns = []
  | some b => ∃ (n : Nat) (D : DataW Unit), w.ownsMap Tryd.prog 25 (plainElem Tryd.prog 3) b n D ∧ n ≤ ns.length ∧
    ∀ x l, x.length = 32 → keyOf Tryd.prog 25 (.agg (hcs x)) = some l → Maps.has D l = (tFind ns x).isSome ∧ D.atKey l (.lit (.int .i64 0)) = .lit (.int .i64 ((tFind ns x).getD 0 : Nat))
theorem TMap.block {w w' : World} {M : Option Nat} {ns : List Nd} (h : TMap w M ns) (hb : ∀ b, M = some b → w'.heap[b]? = w.heap[b]?) : TMap w' M ns := by
  cases M with
  | none => exact h
  | some b =>
    obtain ⟨n, D, ⟨es, clock, e, r⟩, q⟩ := h
    exact ⟨n, D, ⟨es, clock, (hb b rfl).trans e, r⟩, q⟩
theorem TMap.lt {w : World} {b : Nat} {ns : List Nd} (h : TMap w (some b) ns) : b < w.heap.size := by
  obtain ⟨n, D, o, _⟩ := h
  exact o.lt
theorem TMap.below {w w' : World} {M : Option Nat} {ns : List Nd} (h : TMap w M ns) (hb : Below w.heap.size w w') : TMap w' M ns :=
  h.block fun b e => by subst e; exact hb.block b h.lt
theorem zero_int (w : World) : (zeroValue 3).run Tryd.prog w = .ok (.int .i64 0) w := by kernel_rfl
theorem TMap.look {w : World} {M : Option Nat} {ns : List Nd} (h : TMap w M ns) (x : List UInt8) (hx : x.length = 32) :
    (Instr.lookup 59 (.map M) (.agg (hcs x)) true).run Tryd.prog w = .ok (.tuple #[.int .i64 ((tFind ns x).getD 0 : Nat), .bool (tFind ns x).isSome]) w := by
  obtain ⟨l, hl⟩ := key_hash x hx
  cases M with
  | none =>
    have hn : ns = [] := h
    subst hn
    exact Maps.look_nil true hash_keyed Tryd.underlying59 (zero_int w) hl
  | some b =>
    obtain ⟨n, D, o, _, q⟩ := h
    obtain ⟨q1, q2⟩ := q x l hx hl
    obtain ⟨v, ps, hrun, hv⟩ := o.look_ok hash_keyed Tryd.underlying59 (zero_int w) (zd := .lit (.int .i64 0)) (plainElem_int Tryd.underlying3 (by decide)) hl
    obtain ⟨c, rfl, hc, _⟩ := plainElem_int_inv Tryd.underlying3 hv
    rw [q2] at hc
    simp only [Prod.mk.injEq, DataW.lit.injEq, Lit.int.injEq, true_and] at hc
    rw [hrun, q1, ← hc.1]
theorem TMap.made (w : World) : TMap (w.alloc (.map #[] 0)) (some w.heap.size) [] := by
  refine ⟨0, .map [], World.ownsMap_made _ _ _ _, Nat.le_refl _, fun x l hx hl => ⟨rfl, rfl⟩⟩
theorem TMap.put {w : World} {b : Nat} {ns : List Nd} (h : TMap w (some b) ns) (hn : ns.length ≤ 1048576) {nd : Nd} (hid : nd.id.length = 32) (hf : tFind ns nd.id = none) :
    ∃ w', (Instr.mapUpdate 59 (.map (some b)) (.agg (hcs nd.id)) (.int .i64 (ns.length : Int))).run Tryd.prog w = .ok () w' ∧ TMap w' (some b) (ns ++ [nd]) ∧ w.grownBy w' (some b) := by
  obtain ⟨l, hl⟩ := key_hash nd.id hid
  obtain ⟨n, D, o, hle, q⟩ := h
  obtain ⟨w', hrun, o', hg⟩ := o.update hash_keyed Tryd.underlying59 (by simp only [maxLen]; omega) hl (plainElem_int (q := .i64) (a := (ns.length : Int)) Tryd.underlying3 (by simp [Lit.wf, IntKind.min, IntKind.max, IntKind.signed, IntKind.bits]; omega))
  refine ⟨w', hrun, ⟨n + 1, _, o', by simp; omega, fun x k hx hk => ?_⟩, hg⟩
  have hfs : tFind (ns ++ [nd]) x = (tFind ns x).or (if nd.id == x then some ns.length else none) := by
    unfold tFind
    rw [List.findIdx?_append]
    simp [List.findIdx?_cons]
  by_cases e : x = nd.id
  · subst e
    rw [hl] at hk
    injection hk with hk
    subst hk
    have hm := o.isMap
    rw [hfs, hf, Maps.has_put_same hm (hash_keyed.key hl), Maps.atKey_put_same hm (hash_keyed.key hl)]
    simp
  · have hne : k ≠ l := fun e2 => e (by
      subst e2
      have := hash_keyed.inj hk hl
      injection this with this
      have h1 : x.map bv = nd.id.map bv := by simpa [hcs] using congrArg Array.toList this
      exact bv_map_inj h1)
    rw [hfs, Maps.has_put_other hne, Maps.atKey_put_other hne]
    have : (nd.id == x) = false := by simpa using Ne.symm e
    rw [this]
    simpa using q x k hx hk
/-- a tree as it is read -/
structure TRv (w : World) (R most : Nat) (A : Option Addr) (n c : Nat) (M : Option Nat) (ns : List Nd) : Prop where
  av : Av w R 61 [.int .i64 (most : Int), .slice A n c, .map M]
  len : ns.length = n
  small : n ≤ 1048576
  rd : Rd w A (ndl ns)
  map : TMap w M ns
  nds : NdsOk ns
theorem TRv.below {w w' : World} {R most : Nat} {A : Option Addr} {n c : Nat} {M : Option Nat} {ns : List Nd} (h : TRv w R most A n c M ns) (b : Below w.heap.size w w') : TRv w' R most A n c M ns :=
  ⟨h.av.below b, h.len, h.small, h.rd.below b, h.map.below b, h.nds⟩
/-- a reference to a tree, or nil -/
def TRef (w : World) (v : Value) (ns : List Nd) : Prop := (v = .pointer none ∧ ns = []) ∨ ∃ R most A n c M, v = .pointer (some ⟨R, 0, none⟩) ∧ TRv w R most A n c M ns
theorem TRef.below {w w' : World} {v : Value} {ns : List Nd} (h : TRef w v ns) (b : Below w.heap.size w w') : TRef w' v ns := by
  rcases h with h | ⟨R, most, A, n, c, M, e, h⟩
  · exact .inl h
  · exact .inr ⟨R, most, A, n, c, M, e, h.below b⟩
theorem TRv.adr {w : World} {R most : Nat} {A : Option Addr} {n c : Nat} {M : Option Nat} {ns : List Nd} (h : TRv w R most A n c M ns) (hn : 0 < n) : ∃ b off, A = some ⟨b, off, none⟩ := by
  refine h.rd.someA fun e => ?_
  have := ndl_len h.nds
  rw [e, List.length_nil, h.len] at this
  omega
theorem TRv.nth {w : World} {R most : Nat} {b off : Nat} {n c : Nat} {M : Option Nat} {ns : List Nd} (h : TRv w R most (some ⟨b, off, none⟩) n c M ns) (k : Nat) (nd : Nd) (hk : ns[k]? = some nd) : w.rangeAt b (off + k * 106) (ndc nd) ∧ NdOk nd :=
  ⟨Rd.piece ndc 106 ns (fun e he => ndc_length (h.nds e he)) h.rd k nd hk, h.nds nd (List.mem_of_getElem? hk)⟩
theorem exec_lookup {P : Program} {t : TypeId} {m k r : Value} {c : Bool} {w : World} (h : (Instr.lookup t m k c).run P w = .ok r w) {o : Oper} {ρ : Operand → Value} {x y : Operand} (ho : o.op = .lookup t x y c) (hx : ρ x = m) (hy : ρ y = k) : (execOp ρ o).run P w = .ok (.value r) w := by
  unfold execOp
  simp [ho, hx, hy, h, Result.andThen]
set_option maxRecDepth 100000 in
set_option maxHeartbeats 1000000 in
theorem TLen (v : Value) (ns : List Nd) (w : World) (h : TRef w v ns) : Calls Tryd.prog 15 #[v] w fun e w' => e = .returned (.int .i64 (ns.length : Int)) ∧ w = w' := by
  rcases h with ⟨rfl, rfl⟩ | ⟨R, most, A, n, c, M, rfl, T⟩
  · go_enter Tryd.func15, Tryd.ntmps15
    go_wp2
    go_ret
    exact ⟨rfl, rfl⟩
  · have c1 := T.av.cell 1 _ rfl
    have hl := T.len
    rw [hl]
    clear T hl
    go_enter Tryd.func15, Tryd.ntmps15
    go_wp2
    go_ret
    exact ⟨rfl, rfl⟩
set_option maxRecDepth 100000 in
set_option maxHeartbeats 1000000 in
theorem TFind (v : Value) (ns : List Nd) (x : List UInt8) (hx : x.length = 32) (w : World) (h : TRef w v ns) : Calls Tryd.prog 12 #[v, .agg (hcs x)] w fun e w' => e = .returned (.tuple #[.int .i64 ((tFind ns x).getD 0 : Nat), .bool (tFind ns x).isSome]) ∧ Below w.heap.size w w' := by
  obtain ⟨W, hW⟩ : ∃ W, W = w.alloc (.cells (hcs x) 25) := ⟨_, rfl⟩
  obtain ⟨H, hH⟩ : ∃ H, H = w.heap.size := ⟨_, rfl⟩
  have bW : Below w.heap.size w W := by rw [hW]; exact (Below.refl _ _).alloc (Nat.le_refl _) _
  have aX : Av W H 25 (x.map bv) := by rw [hW, hH]; exact heap_alloc_new _ _
  replace hW := Lib.hid hW
  replace hH := Lib.hid hH
  obtain ⟨K, hK⟩ : ∃ K, K = (tFind ns x).getD 0 := ⟨_, rfl⟩
  obtain ⟨E, hE⟩ : ∃ E, E = (tFind ns x).isSome := ⟨_, rfl⟩
  rw [← hK, ← hE]
  rcases h with ⟨rfl, rfl⟩ | ⟨R, most, A, n, c, M, rfl, T⟩
  · have k0 : K = 0 := hK
    have e0 : E = false := hE
    subst k0 e0
    clear hK hE
    go_enter Tryd.func12, Tryd.ntmps12
    go_upto_region 1 with fail
    rw [← hW.out, ← hH.out]
    go_wp2
    go_ret2
    exact ⟨rfl, bW⟩
  · replace hK := Lib.hid hK
    replace hE := Lib.hid hE
    go_enter Tryd.func12, Tryd.ntmps12
    go_upto_region 1 with fail
    rw [← hW.out, ← hH.out]
    go_upto_region 3 with fail
    refine wp_region_rel [] Ext (by kernel_rfl) (by kernel_rfl) (by kernel_rfl) Ext.refl Ext.trans (by intro p hp; cases hp) ?_
    refine relMove Ext.refl rfl rfl rfl rfl _ (.inl rfl) (by conv => lhs; whnf) (by simp only [List.set_cons_succ, List.set_cons_zero]; rfl) ?_
    refine relPure Ext.refl rfl rfl rfl rfl (c := .pointer (some ⟨R, 0, none⟩)) (fun w _ => by go_simp; first | done | rfl) (by simp only [List.set_cons_succ, List.set_cons_zero]; rfl) ?_
    refine relPure Ext.refl rfl rfl rfl rfl (c := .pointer (some ⟨R, 2, none⟩)) (fun w _ => by go_simp; first | done | rfl) (by simp only [List.set_cons_succ, List.set_cons_zero]; rfl) ?_
    refine relPure Ext.refl rfl rfl rfl rfl (c := .map M) (fun w hw => by have := (T.av.below (bW.trans (hw.drew.mono bW.size))).cell 2 _ rfl; go_simp; first | done | rfl) (by simp only [List.set_cons_succ, List.set_cons_zero]; rfl) ?_
    refine relPure Ext.refl rfl rfl rfl rfl (c := .agg (hcs x)) (fun w hw => exec_loadAv (l := x.map bv) (aX.below hw.drew) _ _ rfl rfl _ 32 (by rw [List.length_map]; exact hx) Tryd.underlying25 rfl (by kernel_rfl)) (by simp only [List.set_cons_succ, List.set_cons_zero]; rfl) ?_
    refine relPure Ext.refl rfl rfl rfl rfl (c := .tuple #[.int .i64 ((K : Nat) : Int), .bool E]) (fun w hw => exec_lookup (by have := (T.map.below (bW.trans (hw.drew.mono bW.size))).look x hx; rwa [← hK.out, ← hE.out] at this) rfl rfl rfl) (by simp only [List.set_cons_succ, List.set_cons_zero]; rfl) ?_
    refine relMove Ext.refl rfl rfl rfl rfl _ (.inl rfl) (by conv => lhs; whnf) (by simp only [List.set_cons_succ, List.set_cons_zero]; rfl) ?_
    refine relPure Ext.refl rfl rfl rfl rfl (c := .int .i64 ((K : Nat) : Int)) (fun w _ => by go_simp; first | done | rfl) (by simp only [List.set_cons_succ, List.set_cons_zero]; rfl) ?_
    refine relPure Ext.refl rfl rfl rfl rfl (c := .bool E) (fun w _ => by go_simp; first | done | rfl) (by simp only [List.set_cons_succ, List.set_cons_zero]; rfl) ?_
    refine relMove Ext.refl rfl rfl rfl rfl _ (.inr rfl) (by conv => lhs; whnf) (by simp only [List.set_cons_succ, List.set_cons_zero]; rfl) ?_
    refine relMove Ext.refl rfl rfl rfl rfl _ (.inr rfl) (by conv => lhs; whnf) (by simp only [List.set_cons_succ, List.set_cons_zero]; rfl) ?_
    refine relEnd fun w5 hw5 => fill_end ?_
    have b5 := bW.trans (hw5.drew.mono bW.size)
    go_wp2
    go_ret2
    exact ⟨rfl, b5⟩
end Go.Proofs.YtijnkieakenipaaDoor
