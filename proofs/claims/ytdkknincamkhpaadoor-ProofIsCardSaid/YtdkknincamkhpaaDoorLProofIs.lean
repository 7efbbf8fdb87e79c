/-
  Proved: of any part the path of any place, whether it proves any leaf, any steps, and what witnesses against any two, are what the document says (the law ProofIs answers true), for every input, the tables of SHA-256 tied to the program's text.
-/
import Derived.Test.YtdkknincamkhpaaDoorU8
import Derived.Test.YtdkknincamkhpaaDoorPr22
import Derived.Test.YtdkknincamkhpaaDoorPr21
namespace Go.Proofs.YtdkknincamkhpaaDoor.proofIs
open Go.ChangeShapes Go.WideShapes Go.ChangeAt Go.RowKit
theorem own : ownKnob Tryd.prog.godebug = Option.none := by kernel_rfl
theorem laidOut : laidOutB Tryd.prog = true := by kernel_rfl

set_option maxRecDepth 100000 in
theorem contract (H : Type) (enc : TypeId × Value → H) (W : World) (base : Nat) (args : Array Value) (ds gs : List (DataW H)) (before : List MemPlace)
    (hval : ∀ (j : Nat) t v, Tryd.f3.params[j]? = some t → args[j]? = some v → Value.okWide Tryd.prog W .any base t v)
    (hW : DataW.Whole enc Tryd.prog Tryd.f3.params.toList Rows.proofIsSpec.vars false W args.toList ds gs before) (hL : laidMetH Tryd.prog Rows.proofIsRow.laid W) :
    Calls Tryd.prog 3 args W fun e W' => ∃ v, e = .returned v ∧ Rows.proofIsSpec.post enc Tryd.prog Tryd.f3 false true false false W args v W' := by
  have hW' := hW
  obtain ⟨p, q, hA0, hV, rfl, hfz, hnd⟩ := hW
  have hA : DataW.TrodAll enc Tryd.prog W 0 (fun _ => true) true Tryd.f3.params.toList args.toList ds p := hA0
  rw [Tryd.params3] at hA hval
  obtain ⟨v0, vs0, d0, ds0, p0, q0, hargs, rfl, rfl, h0, r0⟩ := trodAll_cons hA
  obtain ⟨v1, vs1, d1, ds1, p1, q1, rfl, rfl, rfl, h1, r1⟩ := trodAll_cons r0
  obtain ⟨v2, vs2, d2, ds2, p2, q2, rfl, rfl, rfl, h2, r2⟩ := trodAll_cons r1
  obtain ⟨v3, vs3, d3, ds3, p3, q3, rfl, rfl, rfl, h3, r3⟩ := trodAll_cons r2
  obtain ⟨v4, vs4, d4, ds4, p4, q4, rfl, rfl, rfl, h4, r4⟩ := trodAll_cons r3
  obtain ⟨v5, vs5, d5, ds5, p5, q5, rfl, rfl, rfl, h5, r5⟩ := trodAll_cons r4
  obtain ⟨rfl, rfl, rfl⟩ := trodAll_nil r5
  obtain rfl : args = #[v0, v1, v2, v3, v4, v5] := by cases args; simp_all
  obtain ⟨rfl, rfl⟩ := trodVars_none hV
  have k0 := h0
  have lt0 : ∀ x ∈ p0, x.block < W.heap.size := by obtain ⟨m, hm⟩ := k0; exact DataW.trod_lt m _ _ _ hm
  have k1 := h1
  have lt1 : ∀ x ∈ p1, x.block < W.heap.size := by obtain ⟨m, hm⟩ := k1; exact DataW.trod_lt m _ _ _ hm
  have k2 := h2
  have lt2 : ∀ x ∈ p2, x.block < W.heap.size := by obtain ⟨m, hm⟩ := k2; exact DataW.trod_lt m _ _ _ hm
  have k3 := h3
  have lt3 : ∀ x ∈ p3, x.block < W.heap.size := by obtain ⟨m, hm⟩ := k3; exact DataW.trod_lt m _ _ _ hm
  have k4 := h4
  have lt4 : ∀ x ∈ p4, x.block < W.heap.size := by obtain ⟨m, hm⟩ := k4; exact DataW.trod_lt m _ _ _ hm
  have k5 := h5
  have lt5 : ∀ x ∈ p5, x.block < W.heap.size := by obtain ⟨m, hm⟩ := k5; exact DataW.trod_lt m _ _ _ hm
  obtain ⟨cs0, rfl, hsz0⟩ := okWide_struct Tryd.underlying26 (hval 0 26 v0 rfl rfl)
  obtain ⟨fuel0, hf0⟩ := h0
  obtain ⟨tot0, hs0, fl0, Ah0, Af0, nh0, ch0, nf0, cf0, hcs0, ht0, hnh0, h320, hch0, hcx0, rH0, hnf0, hcf0, hcy0, rF0⟩ := open_part hf0
  obtain rfl : cs0 = (trc tot0 Ah0 nh0 ch0 Af0 nf0 cf0).toArray := by
    cases cs0
    simpa [Value.cells] using hcs0
  obtain ⟨cs1, rfl, hsz1⟩ := okWide_struct Tryd.underlying26 (hval 1 26 v1 rfl rfl)
  obtain ⟨fuel1, hf1⟩ := h1
  obtain ⟨tot1, hs1, fl1, Ah1, Af1, nh1, ch1, nf1, cf1, hcs1, ht1, hnh1, h321, hch1, hcx1, rH1, hnf1, hcf1, hcy1, rF1⟩ := open_part hf1
  obtain rfl : cs1 = (trc tot1 Ah1 nh1 ch1 Af1 nf1 cf1).toArray := by
    cases cs1
    simpa [Value.cells] using hcs1
  obtain ⟨x2, rfl, _, _, w2⟩ := open_int Tryd.underlying3 (hval 2 3 v2 rfl rfl) h2
  have zb2 : -9223372036854775808 ≤ x2 ∧ x2 ≤ 9223372036854775807 := by simpa [Lit.wf, IntKind.min, IntKind.max, IntKind.signed, IntKind.bits] using w2
  obtain ⟨cs3, rfl⟩ := okWide_arrayP Tryd.underlying28 (hval 3 28 v3 rfl rfl)
  obtain ⟨fuel3, hf3⟩ := h3
  obtain ⟨y3, yl3, hcs3⟩ := open_hash hf3
  obtain rfl : cs3 = hcs y3 := by
    cases cs3
    simpa [Value.cells] using hcs3
  obtain ⟨cs4, rfl⟩ := okWide_arrayP Tryd.underlying28 (hval 4 28 v4 rfl rfl)
  obtain ⟨fuel4, hf4⟩ := h4
  obtain ⟨y4, yl4, hcs4⟩ := open_hash hf4
  obtain rfl : cs4 = hcs y4 := by
    cases cs4
    simpa [Value.cells] using hcs4
  obtain ⟨A5, n5, c5, rfl⟩ := okWide_slice Tryd.underlying23 (hval 5 23 v5 rfl rfl)
  obtain ⟨fuel5, hf5⟩ := h5
  obtain ⟨hs5, hn5, h325, hc5, hx5, rH5⟩ := open_hashes hf5
  have ht : Tabs W := tabs_of_laid hL
  clear hA0
  refine (law_ProofIs fl0 hs0 h320 tot0 Ah0 nh0 ch0 Af0 nf0 cf0 hnh0 hnf0 ht0 fl1 hs1 h321 tot1 Ah1 nh1 ch1 Af1 nf1 cf1 hnh1 hnf1 ht1 x2 (by omega) y3 yl3 y4 yl4 hs5 h325 A5 n5 c5 hn5 W rH0 rF0 rH1 rF1 rH5 ht).mono fun e W' ⟨he, bel⟩ => ?_
  subst he
  exact ⟨_, rfl, _, _, _, [], _, [], hW', trodAll_mk1 (shut_bool Tryd.underlying4 _), (trodAll_cons_mk (Below.trod laidOut (by kernel_rfl) (of_decide_eq_true (by kernel_rfl)) k0 bel lt0) (trodAll_cons_mk (Below.trod laidOut (by kernel_rfl) (of_decide_eq_true (by kernel_rfl)) k1 bel lt1) (trodAll_cons_mk (Below.trod laidOut (by kernel_rfl) (of_decide_eq_true (by kernel_rfl)) k2 bel lt2) (trodAll_cons_mk (Below.trod laidOut (by kernel_rfl) (of_decide_eq_true (by kernel_rfl)) k3 bel lt3) (trodAll_cons_mk (Below.trod laidOut (by kernel_rfl) (of_decide_eq_true (by kernel_rfl)) k4 bel lt4) (trodAll_cons_mk (Below.trod laidOut (by kernel_rfl) (of_decide_eq_true (by kernel_rfl)) k5 bel lt5) trodAll_mk0)))))), rfl, bel.frame _, fun h => by cases h⟩

theorem laid_met (os : Os) : laidMet Tryd.prog Rows.proofIsRow.laid (((tabWorld os)).forCall (fun _ _ => 0) ⟨#[], #[.agg #[.int .u32 0, .slice none 0 0, .slice none 0 0], .agg #[.int .u32 0, .slice none 0 0, .slice none 0 0], .int .i64 0, .agg (List.replicate 32 (Value.int .u8 0)).toArray, .agg (List.replicate 32 (Value.int .u8 0)).toArray, .slice none 0 0], []⟩).memory :=
  laidMet_of_run' 8 (by kernel_rfl) (by kernel_rfl)
theorem reads (os : Os) {H : Type} (enc : TypeId × Value → H) : ∃ places, DataW.whole enc Tryd.prog ((tabWorld os).forCall (fun _ _ => 0) ⟨#[], #[.agg #[.int .u32 0, .slice none 0 0, .slice none 0 0], .agg #[.int .u32 0, .slice none 0 0, .slice none 0 0], .int .i64 0, .agg (List.replicate 32 (Value.int .u8 0)).toArray, .agg (List.replicate 32 (Value.int .u8 0)).toArray, .slice none 0 0], []⟩).memory Tryd.f3.params.toList Rows.proofIsSpec.vars false #[(.agg #[.int .u32 0, .slice none 0 0, .slice none 0 0] : Value), (.agg #[.int .u32 0, .slice none 0 0, .slice none 0 0] : Value), (.int .i64 0 : Value), (.agg (List.replicate 32 (Value.int .u8 0)).toArray : Value), (.agg (List.replicate 32 (Value.int .u8 0)).toArray : Value), (.slice none 0 0 : Value)].toList 8 = some ([.agg [.lit (.int .u32 0), .nil, .nil], .agg [.lit (.int .u32 0), .nil, .nil], .lit (.int .i64 0), .agg (List.replicate 32 (.lit (.int .u8 0))), .agg (List.replicate 32 (.lit (.int .u8 0))), .nil], [], places) :=
  ⟨[], by kernel_rfl⟩

set_option maxRecDepth 100000 in
theorem lifted (os : Os) (started : os.Started) (H : Type) (enc : TypeId × Value → H) (F : Stop.Interp) :
    ReturnsInHanded {} Tryd.checked os 3 .any ((OpenSpec.ofChange Rows.proofIsSpec).preRow enc Tryd.prog Tryd.f3 Rows.proofIsRow.domain false Rows.proofIsRow.laid) (((OpenSpec.ofChange Rows.proofIsSpec).at F).post enc Tryd.prog Tryd.f3 false true false false) := by
  obtain ⟨places, hx⟩ := reads os enc
  refine returnsInHanded_of_row (C := Tryd.checked) (s := OpenSpec.ofChange Rows.proofIsSpec) own started (by kernel_rfl) Tryd.func3
    (witness_row_at (enc := enc) (C := Tryd.checked) false (tabWorld os) #[.agg #[.int .u32 0, .slice none 0 0, .slice none 0 0], .agg #[.int .u32 0, .slice none 0 0, .slice none 0 0], .int .i64 0, .agg (List.replicate 32 (Value.int .u8 0)).toArray, .agg (List.replicate 32 (Value.int .u8 0)).toArray, .slice none 0 0] rfl (by kernel_rfl) (by kernel_rfl) (by kernel_rfl)
      (OpenSpec.preRow_of_cond 8 hx (by kernel_rfl) (fun k hk => by cases hk) (by kernel_rfl) (laid_met os))) ?_
  intro W base args ds gs before hval hW _ _ _ hL _ _
  exact contract H enc W base args ds gs before hval hW hL

theorem said : Rows.ProofIsSaid :=
  OpenClaim.holds_of_cond 3 Tryd.f3 rfl rfl rfl rfl rfl rfl rfl ⟨rfl, rfl, rfl, rfl, rfl⟩ rfl rfl rfl rfl rfl (by kernel_rfl) Tryd.func3 (by kernel_rfl)
    (of_decide_eq_true (by kernel_rfl)) (by unfold Func.isWrapper; first | (rw [if_pos (by decide +kernel)]; kernel_rfl) | (rw [if_neg (by decide +kernel)]; exact ⟨rfl, rfl⟩))
    (fun os started H enc _ F => by rw [OpenClaim.pre_eq_preRow]; exact lifted os started H enc F)

/-- No parameter wants a stand-in; the program's own looks are off. -/
theorem plain (f : FuncId) (fn : Func) (hf : Tryd.pinned.checked.prog.funcNamed "florin/florinlaw12.ProofIs" = some f) (hfn : Tryd.pinned.checked.prog.funcs[f]? = some fn) :
    false = Tryd.pinned.checked.prog.looks [] ∧ ∀ (j : Nat) t, fn.params[j]? = some t → Tryd.pinned.checked.prog.wantsStandIn t = false := by
  obtain rfl : f = 3 := Option.some.inj ((show Tryd.prog.funcNamed "florin/florinlaw12.ProofIs" = some 3 by kernel_rfl).symm.trans hf) |>.symm
  obtain rfl : fn = Tryd.f3 := (Option.some.inj (Tryd.func3.symm.trans hfn)).symm
  refine ⟨by kernel_rfl, fun j t ht => ?_⟩
  rw [Tryd.params3] at ht
  have := Array.mem_of_getElem? ht
  simp only [List.mem_toArray, List.mem_cons, List.not_mem_nil, or_false] at this
  rcases this with rfl | rfl | rfl | rfl | rfl | rfl
  · exact (show Tryd.prog.wantsStandIn 26 = false by kernel_rfl)
  · exact (show Tryd.prog.wantsStandIn 26 = false by kernel_rfl)
  · exact (show Tryd.prog.wantsStandIn 3 = false by kernel_rfl)
  · exact (show Tryd.prog.wantsStandIn 28 = false by kernel_rfl)
  · exact (show Tryd.prog.wantsStandIn 28 = false by kernel_rfl)
  · exact (show Tryd.prog.wantsStandIn 23 = false by kernel_rfl)

/-- The statement. -/
theorem card : Rows.ProofIsCardSaid :=
  Claim7.holds_tied_plain_at .later [] _ _ _ _ said (fun _ h => by cases h) (by kernel_rfl) (fun _ h => by cases h) proofIs_row_tie rfl ⟨rfl, rfl⟩ (by kernel_rfl) rfl plain (by kernel_rfl)
end Go.Proofs.YtdkknincamkhpaaDoor.proofIs
