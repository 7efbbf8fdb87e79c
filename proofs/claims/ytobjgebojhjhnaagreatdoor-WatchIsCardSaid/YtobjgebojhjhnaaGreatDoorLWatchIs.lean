/-
  Proved: of any watch, script, transaction, headers, block's part, tip and hash: what is watched, noted, proved, how deep a hash lies and what lies how deep is what the document says (the law WatchIs answers true), for every input, the tables of SHA-256 tied to the program's text.
-/
import Derived.Test.YtobjgebojhjhnaaGreatDoorQr31
import Derived.Test.YtobjgebojhjhnaaGreatDoorK8
import Derived.Test.YtobjgebojhjhnaaGreatDoorOpt
import Derived.Test.YtobjgebojhjhnaaGreatDoorTie2
namespace Go.Proofs.YtobjgebojhjhnaaGreatDoor.watchIs
set_option maxRecDepth 100000
set_option maxHeartbeats 16000000
open Go.ChangeShapes Go.WideShapes Go.ChangeAt Go.RowKit
theorem own:ownKnob Tryz.prog.godebug=Option.none:=by kernel_rfl
theorem laidOut:laidOutB Tryz.prog=true:=by kernel_rfl
theorem contract (H:Type) (enc:TypeId × Value→H) (W:World) (base:Nat) (args:Array Value) (ds gs:List (DataW H)) (before:List MemPlace)
  (hval:∀ (j:Nat) t v,Tryz.f3.params[j]? =some t→args[j]? =some v→Value.okWide Tryz.prog W .any base t v)
  (hW:DataW.Whole enc Tryz.prog Tryz.f3.params.toList Rows.watchIsSpec.vars false W args.toList ds gs before) (hL:laidMetH Tryz.prog Rows.watchIsRow.laid W):
  Calls Tryz.prog 3 args W fun e W'=>∃ v,e= .returned v∧Rows.watchIsSpec.post enc Tryz.prog Tryz.f3 false true false false W args v W':=by
 have hW':=hW
 obtain⟨p,q,hA0,hV,rfl,hfz,hnd⟩:=hW
 have hA:DataW.TrodAll enc Tryz.prog W 0 (fun _=>true) true Tryz.f3.params.toList args.toList ds p:=hA0
 rw[Tryz.params3] at hA hval
 obtain⟨v0,vs0,d0,ds0,p0,q0,hargs,rfl,rfl,h0,r0⟩:=trodAll_cons hA
 obtain⟨v1,vs1,d1,ds1,p1,q1,rfl,rfl,rfl,h1,r1⟩:=trodAll_cons r0
 obtain⟨v2,vs2,d2,ds2,p2,q2,rfl,rfl,rfl,h2,r2⟩:=trodAll_cons r1
 obtain⟨v3,vs3,d3,ds3,p3,q3,rfl,rfl,rfl,h3,r3⟩:=trodAll_cons r2
 obtain⟨v4,vs4,d4,ds4,p4,q4,rfl,rfl,rfl,h4,r4⟩:=trodAll_cons r3
 obtain⟨v5,vs5,d5,ds5,p5,q5,rfl,rfl,rfl,h5,r5⟩:=trodAll_cons r4
 obtain⟨v6,vs6,d6,ds6,p6,q6,rfl,rfl,rfl,h6,r6⟩:=trodAll_cons r5
 obtain⟨rfl,rfl,rfl⟩:=trodAll_nil r6
 obtain rfl:args= #[v0,v1,v2,v3,v4,v5,v6]:=by cases args;simp_all
 obtain⟨rfl,rfl⟩:=trodVars_none hV
 have k0:=h0
 have lt0:∀ x ∈ p0,x.block<W.heap.size:=by obtain⟨m,hm⟩:=k0;exact DataW.trod_lt m _ _ _ hm
 have k1:=h1
 have lt1:∀ x ∈ p1,x.block<W.heap.size:=by obtain⟨m,hm⟩:=k1;exact DataW.trod_lt m _ _ _ hm
 have k2:=h2
 have lt2:∀ x ∈ p2,x.block<W.heap.size:=by obtain⟨m,hm⟩:=k2;exact DataW.trod_lt m _ _ _ hm
 have k3:=h3
 have lt3:∀ x ∈ p3,x.block<W.heap.size:=by obtain⟨m,hm⟩:=k3;exact DataW.trod_lt m _ _ _ hm
 have k4:=h4
 have lt4:∀ x ∈ p4,x.block<W.heap.size:=by obtain⟨m,hm⟩:=k4;exact DataW.trod_lt m _ _ _ hm
 have k5:=h5
 have lt5:∀ x ∈ p5,x.block<W.heap.size:=by obtain⟨m,hm⟩:=k5;exact DataW.trod_lt m _ _ _ hm
 have k6:=h6
 have lt6:∀ x ∈ p6,x.block<W.heap.size:=by obtain⟨m,hm⟩:=k6;exact DataW.trod_lt m _ _ _ hm
 obtain⟨cs0,rfl,hsz0⟩:=okWide_struct Tryz.underlying26 (hval 0 26 v0 rfl rfl)
 obtain⟨fuel0,hf0⟩:=h0
 obtain⟨S0,T0,N0,As0,At0,An0,ns0,cz0,nt0,ct0,nn0,cn0,hcs0,hS0,hns0,hT0,hN0,rS0,rT0,rN0⟩:=Nx hf0
 obtain rfl:cs0=(bS As0 At0 An0 ns0 cz0 nt0 ct0 nn0 cn0).toArray:=by
  cases cs0
  simpa [Value.cells] using hcs0
 obtain⟨A1,n1,c1,rfl⟩:=okWide_slice Tryz.underlying27 (hval 1 27 v1 rfl rfl)
 obtain⟨fuel1,hf1⟩:=h1
 obtain⟨bs1,hn1,hc1,hx1,rB1⟩:=pR hf1
 obtain⟨cs2,rfl,hsz2⟩:=okWide_struct Tryz.underlying32 (hval 2 32 v2 rfl rfl)
 obtain⟨fuel2,hf2⟩:=h2
 obtain⟨ver2,lock2,l2,m2,A12,A22,n12,n22,c12,c22,hcs2,hl2,hm2,hc12,hc22,hx12,hx22,rI2,rO2,hv2,hlk2⟩:=NA hf2
 obtain rfl:cs2= #[.int .u32 (ver2:Int),.slice A12 n12 c12,.slice A22 n22 c22,.int .u32 (lock2:Int)]:=by
  cases cs2
  simpa [Value.cells] using hcs2
 obtain⟨A3,n3,c3,rfl⟩:=okWide_slice Tryz.underlying33 (hval 3 33 v3 rfl rfl)
 obtain⟨fuel3,hf3⟩:=h3
 obtain⟨l3,hn3,hc3,hx3,rH3⟩:=Ls hf3
 obtain⟨cs4,rfl,hsz4⟩:=okWide_struct Tryz.underlying39 (hval 4 39 v4 rfl rfl)
 obtain⟨fuel4,hf4⟩:=h4
 obtain⟨x4,tot4,hs4,fl4,Ah4,Af4,nh4,ch4,nf4,cf4,hcs4,xok4,htot4,hnh4,hnf4,rH4,rF4⟩:=Ny hf4
 obtain rfl:cs4=(kL x4 tot4 Ah4 nh4 ch4 Af4 nf4 cf4).toArray:=by
  cases cs4
  simpa [Value.cells] using hcs4
 obtain⟨x5,rfl,_,_,w5⟩:=open_int Tryz.underlying3 (hval 5 3 v5 rfl rfl) h5
 have zb5: -9223372036854775808≤x5∧x5≤9223372036854775807:=by simpa [Lit.wf,IntKind.min,IntKind.max,IntKind.signed,IntKind.bits] using w5
 obtain⟨cs6,rfl⟩:=zN Tryz.underlying35 (hval 6 35 v6 rfl rfl)
 obtain⟨fuel6,hf6⟩:=h6
 obtain⟨y6,yl6,hcs6⟩:=kU hf6
 obtain rfl:cs6=cK y6:=by
  cases cs6
  simpa [Value.cells] using hcs6
 have ht:fW W:=Co hL
 clear hA0
 refine(DU S0 As0 At0 An0 ns0 cz0 nt0 ct0 nn0 cn0 hS0 hns0 T0 hT0 N0 hN0 bs1 A1 n1 c1 hn1 ver2 lock2 hv2 hlk2 l2 m2 A12 A22 n12 n22 c12 c22 hl2 hm2 (by omega) (by omega) l3 A3 n3 c3 hn3 x4 xok4 tot4 htot4 hs4 rH4.2 fl4 Ah4 nh4 ch4 Af4 nf4 cf4 hnh4 hnf4 x5 zb5 y6 yl6 W ht rS0 rT0 rN0 rB1 rI2 rO2 rH3 rH4.1 rF4).mono fun e W' ⟨he,bel⟩=>?_
 subst he
 exact⟨_,rfl,_,_,_,[],_,[],hW',trodAll_mk1 (shut_bool Tryz.underlying4 _),(trodAll_cons_mk (Below.trod laidOut (by kernel_rfl) (of_decide_eq_true (by kernel_rfl)) k0 bel lt0) (trodAll_cons_mk (Below.trod laidOut (by kernel_rfl) (of_decide_eq_true (by kernel_rfl)) k1 bel lt1) (trodAll_cons_mk (Below.trod laidOut (by kernel_rfl) (of_decide_eq_true (by kernel_rfl)) k2 bel lt2) (trodAll_cons_mk (Below.trod laidOut (by kernel_rfl) (of_decide_eq_true (by kernel_rfl)) k3 bel lt3) (trodAll_cons_mk (Below.trod laidOut (by kernel_rfl) (of_decide_eq_true (by kernel_rfl)) k4 bel lt4) (trodAll_cons_mk (Below.trod laidOut (by kernel_rfl) (of_decide_eq_true (by kernel_rfl)) k5 bel lt5) (trodAll_cons_mk (Below.trod laidOut (by kernel_rfl) (of_decide_eq_true (by kernel_rfl)) k6 bel lt6) trodAll_mk0))))))),rfl,bel.frame _,fun h=>by cases h⟩
theorem laid_met (os:Os):laidMet Tryz.prog Rows.watchIsRow.laid (((yJ os)).forCall (fun _ _=>0) ⟨#[],#[.agg #[.slice Option.none 0 0,.slice Option.none 0 0,.slice Option.none 0 0],.slice none 0 0,.agg #[.int .u32 0,.slice none 0 0,.slice none 0 0,.int .u32 0],.slice Option.none 0 0,.agg (kL ⟨0,List.replicate 32 0,List.replicate 32 0,0,0,0⟩ 0 Option.none 0 0 Option.none 0 0).toArray,.int .i64 0,.agg (List.replicate 32 (Value.int .u8 0)).toArray],[]⟩).memory:=
 laidMet_of_run' 8 (by kernel_rfl) (by kernel_rfl)
theorem reads (os:Os) {H:Type} (enc:TypeId × Value→H):∃ places,DataW.whole enc Tryz.prog ((yJ os).forCall (fun _ _=>0) ⟨#[],#[.agg #[.slice Option.none 0 0,.slice Option.none 0 0,.slice Option.none 0 0],.slice none 0 0,.agg #[.int .u32 0,.slice none 0 0,.slice none 0 0,.int .u32 0],.slice Option.none 0 0,.agg (kL ⟨0,List.replicate 32 0,List.replicate 32 0,0,0,0⟩ 0 Option.none 0 0 Option.none 0 0).toArray,.int .i64 0,.agg (List.replicate 32 (Value.int .u8 0)).toArray],[]⟩).memory Tryz.f3.params.toList Rows.watchIsSpec.vars false #[(.agg #[.slice Option.none 0 0,.slice Option.none 0 0,.slice Option.none 0 0]:Value),(.slice none 0 0:Value),(.agg #[.int .u32 0,.slice none 0 0,.slice none 0 0,.int .u32 0]:Value),(.slice Option.none 0 0:Value),(.agg (kL ⟨0,List.replicate 32 0,List.replicate 32 0,0,0,0⟩ 0 Option.none 0 0 Option.none 0 0).toArray:Value),(.int .i64 0:Value),(.agg (List.replicate 32 (Value.int .u8 0)).toArray:Value)].toList 8=some ([.agg [.nil,.nil,.nil],.nil,.agg [.lit (.int .u32 0),.nil,.nil,.lit (.int .u32 0)],.nil,.agg [.agg [.lit (.int .u32 0),.agg (List.replicate 32 (.lit (.int .u8 0))),.agg (List.replicate 32 (.lit (.int .u8 0))),.lit (.int .u32 0),.lit (.int .u32 0),.lit (.int .u32 0)],.lit (.int .u32 0),.nil,.nil],.lit (.int .i64 0),.agg (List.replicate 32 (.lit (.int .u8 0)))],[],places):=
 ⟨[],by kernel_rfl⟩
theorem lifted (os:Os) (started:os.Started) (H:Type) (enc:TypeId × Value→H) (F:Stop.Interp):
  ReturnsInHanded {} Tryz.checked os 3 .any ((OpenSpec.ofChange Rows.watchIsSpec).preRow enc Tryz.prog Tryz.f3 Rows.watchIsRow.domain false Rows.watchIsRow.laid) (((OpenSpec.ofChange Rows.watchIsSpec).at F).post enc Tryz.prog Tryz.f3 false true false false):=by
 obtain⟨places,hx⟩:=reads os enc
 refine returnsInHanded_of_row (C:=Tryz.checked) (s:=OpenSpec.ofChange Rows.watchIsSpec) own started (by kernel_rfl) Tryz.func3
  (witness_row_at (enc:=enc) (C:=Tryz.checked) false (yJ os) #[.agg #[.slice Option.none 0 0,.slice Option.none 0 0,.slice Option.none 0 0],.slice none 0 0,.agg #[.int .u32 0,.slice none 0 0,.slice none 0 0,.int .u32 0],.slice Option.none 0 0,.agg (kL ⟨0,List.replicate 32 0,List.replicate 32 0,0,0,0⟩ 0 Option.none 0 0 Option.none 0 0).toArray,.int .i64 0,.agg (List.replicate 32 (Value.int .u8 0)).toArray] rfl (by kernel_rfl) (by kernel_rfl) (by kernel_rfl)
   (OpenSpec.preRow_of_cond 8 hx (by kernel_rfl) (fun k hk=>by cases hk) (by kernel_rfl) (laid_met os))) ?_
 intro W base args ds gs before hval hW _ _ _ hL _ _
 exact contract H enc W base args ds gs before hval hW hL
theorem said:Rows.WatchIsSaid:=
 OpenClaim.holds_of_cond 3 Tryz.f3 rfl rfl rfl rfl rfl rfl rfl ⟨rfl,rfl,rfl,rfl,rfl⟩ rfl rfl rfl rfl rfl (by kernel_rfl) Tryz.func3 (by kernel_rfl)
  (of_decide_eq_true (by kernel_rfl)) (by unfold Func.isWrapper;first|(rw[if_pos (by decide+kernel)];kernel_rfl)|(rw[if_neg (by decide+kernel)];exact⟨rfl,rfl⟩))
  (fun os started H enc _ F=>by rw[OpenClaim.pre_eq_preRow];exact lifted os started H enc F)
theorem plain (f:FuncId) (fn:Func) (hf:Tryz.pinned.checked.prog.funcNamed "florin/florinlaw21.WatchIs" =some f) (hfn:Tryz.pinned.checked.prog.funcs[f]? =some fn):
  false=Tryz.pinned.checked.prog.looks []∧ ∀ (j:Nat) t,fn.params[j]? =some t→Tryz.pinned.checked.prog.wantsStandIn t=false:=by
 obtain rfl:f=3:=Option.some.inj ((show Tryz.prog.funcNamed "florin/florinlaw21.WatchIs" =some 3 by kernel_rfl).symm.trans hf)|>.symm
 obtain rfl:fn=Tryz.f3:=(Option.some.inj (Tryz.func3.symm.trans hfn)).symm
 refine⟨by kernel_rfl,fun j t ht=>?_⟩
 rw[Tryz.params3] at ht
 have:=Array.mem_of_getElem? ht
 simp only[List.mem_toArray,List.mem_cons,List.not_mem_nil,or_false] at this
 rcases this with rfl|rfl|rfl|rfl|rfl|rfl|rfl
 ·exact(show Tryz.prog.wantsStandIn 26=false by kernel_rfl)
 ·exact(show Tryz.prog.wantsStandIn 27=false by kernel_rfl)
 ·exact(show Tryz.prog.wantsStandIn 32=false by kernel_rfl)
 ·exact(show Tryz.prog.wantsStandIn 33=false by kernel_rfl)
 ·exact(show Tryz.prog.wantsStandIn 39=false by kernel_rfl)
 ·exact(show Tryz.prog.wantsStandIn 3=false by kernel_rfl)
 ·exact(show Tryz.prog.wantsStandIn 35=false by kernel_rfl)
theorem card:Rows.WatchIsCardSaid:=
 Claim7.holds_tied_plain_at .later [] _ _ _ _ said (fun _ h=>by cases h) (by kernel_rfl) (fun _ h=>by cases h) watchIs_row_tie rfl ⟨rfl,rfl⟩ (by kernel_rfl) rfl plain (by kernel_rfl)
end Go.Proofs.YtobjgebojhjhnaaGreatDoor.watchIs
