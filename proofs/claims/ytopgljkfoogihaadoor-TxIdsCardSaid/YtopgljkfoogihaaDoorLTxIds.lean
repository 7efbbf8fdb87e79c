/-
  Proved: a transaction's hash is that of its bytes, of one that may be; two with the same bytes are the same (the law TxIds answers true), for every input, the tables of SHA-256 tied to the program's text.
-/
import Derived.Test.YtopgljkfoogihaaDoorTxI
import Derived.Test.YtopgljkfoogihaaDoorOpt
import Derived.Test.YtopgljkfoogihaaDoorTie2
namespace Go.Proofs.YtopgljkfoogihaaDoor.txIds
open Go.ChangeShapes Go.WideShapes Go.ChangeAt Go.RowKit
theorem own : ownKnob Tryd.prog.godebug = Option.none := by kernel_rfl
theorem laidOut : laidOutB Tryd.prog = true := by kernel_rfl

set_option maxRecDepth 100000 in
theorem contract (H : Type) (enc : TypeId × Value → H) (W : World) (base : Nat) (args : Array Value) (ds gs : List (DataW H)) (before : List MemPlace)
    (hval : ∀ (j : Nat) t v, Tryd.f3.params[j]? = some t → args[j]? = some v → Value.okWide Tryd.prog W .any base t v)
    (hW : DataW.Whole enc Tryd.prog Tryd.f3.params.toList Rows.txIdsSpec.vars false W args.toList ds gs before) (hL : laidMetH Tryd.prog Rows.txIdsRow.laid W) :
    Calls Tryd.prog 3 args W fun e W' => ∃ v, e = .returned v ∧ Rows.txIdsSpec.post enc Tryd.prog Tryd.f3 false true false false W args v W' := by
  have hW' := hW
  obtain ⟨p, q, hA0, hV, rfl, hfz, hnd⟩ := hW
  have hA : DataW.TrodAll enc Tryd.prog W 0 (fun _ => true) true Tryd.f3.params.toList args.toList ds p := hA0
  rw [Tryd.params3] at hA hval
  obtain ⟨v0, vs0, d0, ds0, p0, q0, hargs, rfl, rfl, h0, r0⟩ := trodAll_cons hA
  obtain ⟨v1, vs1, d1, ds1, p1, q1, rfl, rfl, rfl, h1, r1⟩ := trodAll_cons r0
  obtain ⟨rfl, rfl, rfl⟩ := trodAll_nil r1
  obtain rfl : args = #[v0, v1] := by cases args; simp_all
  obtain ⟨rfl, rfl⟩ := trodVars_none hV
  have k0 := h0
  have lt0 : ∀ x ∈ p0, x.block < W.heap.size := by obtain ⟨m, hm⟩ := k0; exact DataW.trod_lt m _ _ _ hm
  have k1 := h1
  have lt1 : ∀ x ∈ p1, x.block < W.heap.size := by obtain ⟨m, hm⟩ := k1; exact DataW.trod_lt m _ _ _ hm
  obtain ⟨cs0, rfl, hsz0⟩ := okWide_struct Tryd.underlying26 (hval 0 26 v0 rfl rfl)
  obtain ⟨fuel0, hf0⟩ := h0
  obtain ⟨ver0, lock0, l0, m0, A10, A20, n10, n20, c10, c20, hcs0, hl0, hm0, hc10, hc20, hx10, hx20, rI0, rO0, hv0, hlk0⟩ := open_tx hf0
  obtain rfl : cs0 = #[.int .u32 (ver0 : Int), .slice A10 n10 c10, .slice A20 n20 c20, .int .u32 (lock0 : Int)] := by
    cases cs0
    simpa [Value.cells] using hcs0
  obtain ⟨cs1, rfl, hsz1⟩ := okWide_struct Tryd.underlying26 (hval 1 26 v1 rfl rfl)
  obtain ⟨fuel1, hf1⟩ := h1
  obtain ⟨ver1, lock1, l1, m1, A11, A21, n11, n21, c11, c21, hcs1, hl1, hm1, hc11, hc21, hx11, hx21, rI1, rO1, hv1, hlk1⟩ := open_tx hf1
  obtain rfl : cs1 = #[.int .u32 (ver1 : Int), .slice A11 n11 c11, .slice A21 n21 c21, .int .u32 (lock1 : Int)] := by
    cases cs1
    simpa [Value.cells] using hcs1
  have ht : Tabs W := tabs_of_laid hL
  clear hA0
  refine (law_TxIds ver0 lock0 hv0 hlk0 l0 m0 A10 A20 n10 n20 c10 c20 hl0 hm0 (by omega) (by omega) ver1 lock1 hv1 hlk1 l1 m1 A11 A21 n11 n21 c11 c21 hl1 hm1 (by omega) (by omega) W rI0 rO0 rI1 rO1 ht).mono fun e W' ⟨he, bel⟩ => ?_
  subst he
  exact ⟨_, rfl, _, _, _, [], _, [], hW', trodAll_mk1 (shut_bool Tryd.underlying4 _), (trodAll_cons_mk (Below.trod laidOut (by kernel_rfl) (of_decide_eq_true (by kernel_rfl)) k0 bel lt0) (trodAll_cons_mk (Below.trod laidOut (by kernel_rfl) (of_decide_eq_true (by kernel_rfl)) k1 bel lt1) trodAll_mk0)), rfl, bel.frame _, fun h => by cases h⟩

theorem laid_met (os : Os) : laidMet Tryd.prog Rows.txIdsRow.laid (((tabWorld os)).forCall (fun _ _ => 0) ⟨#[], #[.agg #[.int .u32 0, .slice none 0 0, .slice none 0 0, .int .u32 0], .agg #[.int .u32 0, .slice none 0 0, .slice none 0 0, .int .u32 0]], []⟩).memory :=
  laidMet_of_run' 8 (by kernel_rfl) (by kernel_rfl)
theorem reads (os : Os) {H : Type} (enc : TypeId × Value → H) : ∃ places, DataW.whole enc Tryd.prog ((tabWorld os).forCall (fun _ _ => 0) ⟨#[], #[.agg #[.int .u32 0, .slice none 0 0, .slice none 0 0, .int .u32 0], .agg #[.int .u32 0, .slice none 0 0, .slice none 0 0, .int .u32 0]], []⟩).memory Tryd.f3.params.toList Rows.txIdsSpec.vars false #[(.agg #[.int .u32 0, .slice none 0 0, .slice none 0 0, .int .u32 0] : Value), (.agg #[.int .u32 0, .slice none 0 0, .slice none 0 0, .int .u32 0] : Value)].toList 8 = some ([.agg [.lit (.int .u32 0), .nil, .nil, .lit (.int .u32 0)], .agg [.lit (.int .u32 0), .nil, .nil, .lit (.int .u32 0)]], [], places) :=
  ⟨[], by kernel_rfl⟩

set_option maxRecDepth 100000 in
theorem lifted (os : Os) (started : os.Started) (H : Type) (enc : TypeId × Value → H) (F : Stop.Interp) :
    ReturnsInHanded {} Tryd.checked os 3 .any ((OpenSpec.ofChange Rows.txIdsSpec).preRow enc Tryd.prog Tryd.f3 Rows.txIdsRow.domain false Rows.txIdsRow.laid) (((OpenSpec.ofChange Rows.txIdsSpec).at F).post enc Tryd.prog Tryd.f3 false true false false) := by
  obtain ⟨places, hx⟩ := reads os enc
  refine returnsInHanded_of_row (C := Tryd.checked) (s := OpenSpec.ofChange Rows.txIdsSpec) own started (by kernel_rfl) Tryd.func3
    (witness_row_at (enc := enc) (C := Tryd.checked) false (tabWorld os) #[.agg #[.int .u32 0, .slice none 0 0, .slice none 0 0, .int .u32 0], .agg #[.int .u32 0, .slice none 0 0, .slice none 0 0, .int .u32 0]] rfl (by kernel_rfl) (by kernel_rfl) (by kernel_rfl)
      (OpenSpec.preRow_of_cond 8 hx (by kernel_rfl) (fun k hk => by cases hk) (by kernel_rfl) (laid_met os))) ?_
  intro W base args ds gs before hval hW _ _ _ hL _ _
  exact contract H enc W base args ds gs before hval hW hL

theorem said : Rows.TxIdsSaid :=
  OpenClaim.holds_of_cond 3 Tryd.f3 rfl rfl rfl rfl rfl rfl rfl ⟨rfl, rfl, rfl, rfl, rfl⟩ rfl rfl rfl rfl rfl (by kernel_rfl) Tryd.func3 (by kernel_rfl)
    (of_decide_eq_true (by kernel_rfl)) (by unfold Func.isWrapper; first | (rw [if_pos (by decide +kernel)]; kernel_rfl) | (rw [if_neg (by decide +kernel)]; exact ⟨rfl, rfl⟩))
    (fun os started H enc _ F => by rw [OpenClaim.pre_eq_preRow]; exact lifted os started H enc F)

/-- No parameter wants a stand-in; the program's own looks are off. -/
theorem plain (f : FuncId) (fn : Func) (hf : Tryd.pinned.checked.prog.funcNamed "florin/florinlaw08.TxIds" = some f) (hfn : Tryd.pinned.checked.prog.funcs[f]? = some fn) :
    false = Tryd.pinned.checked.prog.looks [] ∧ ∀ (j : Nat) t, fn.params[j]? = some t → Tryd.pinned.checked.prog.wantsStandIn t = false := by
  obtain rfl : f = 3 := Option.some.inj ((show Tryd.prog.funcNamed "florin/florinlaw08.TxIds" = some 3 by kernel_rfl).symm.trans hf) |>.symm
  obtain rfl : fn = Tryd.f3 := (Option.some.inj (Tryd.func3.symm.trans hfn)).symm
  refine ⟨by kernel_rfl, fun j t ht => ?_⟩
  rw [Tryd.params3] at ht
  have := Array.mem_of_getElem? ht
  simp only [List.mem_toArray, List.mem_cons, List.not_mem_nil, or_false, or_self] at this
  obtain rfl := this
  exact (show Tryd.prog.wantsStandIn 26 = false by kernel_rfl)

/-- The statement. -/
theorem card : Rows.TxIdsCardSaid :=
  Claim7.holds_tied_plain_at .later [] _ _ _ _ said (fun _ h => by cases h) (by kernel_rfl) (fun _ h => by cases h) txIds_row_tie rfl ⟨rfl, rfl⟩ (by kernel_rfl) rfl plain (by kernel_rfl)
end Go.Proofs.YtopgljkfoogihaaDoor.txIds
