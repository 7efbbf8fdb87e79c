import Derived.Test.YtobjgebojhjhnaaGreatDoorQr23
import Derived.Test.YtobjgebojhjhnaaGreatDoorQr25
namespace Go.Proofs.YtobjgebojhjhnaaGreatDoor
set_option maxRecDepth 100000
set_option maxHeartbeats 16000000
open Go.RowKit Tryz
def kL (h:Hd) (tot:Nat) (Ah:Option Addr) (nh ch:Nat) (Af:Option Addr) (nf cf:Nat):List Value:=fC h++ [.int .u32 (tot:Int),.slice Ah nh ch,.slice Af nf cf]
section
variable {h:Hd} {tot:Nat} {Ah:Option Addr} {nh ch:Nat} {Af:Option Addr} {nf cf:Nat}
theorem yB (k:h.ok):(kL h tot Ah nh ch Af nf cf)[68]? =some (.int .u32 (tot:Int))∧(kL h tot Ah nh ch Af nf cf)[69]? =some (.slice Ah nh ch)∧(kL h tot Ah nh ch Af nf cf)[70]? =some (.slice Af nf cf):=by
 have l:=cJ k
 unfold kL
 refine⟨?_,?_,?_⟩ <;>
 ·rw[List.getElem?_append_right OM,l]
  rfl
theorem yC (k:h.ok):(kL h tot Ah nh ch Af nf cf).length=71:=by rw[kL,List.length_append,cJ k];rfl
theorem MP:∀ u ∈ kL h tot Ah nh ch Af nf cf,u.oneCell'=true:=by
 intro u hu
 simp only[kL,List.mem_append,List.mem_cons,List.not_mem_nil,or_false] at hu
 rcases hu with hu|rfl|rfl|rfl
 ·exact Bt _ u hu
 all_goals rfl
theorem yD {w:World} {g:Nat} {t:TypeId} (a:Av w g t (kL h tot Ah nh ch Af nf cf)):w.rangeAt g 0 (fC h):=
 Av.rangeAt (pre:=[]) (rest:=[.int .u32 (tot:Int),.slice Ah nh ch,.slice Af nf cf]) (by simpa [kL] using a) 0 rfl
theorem yE (k:h.ok) {w:World} {g:Nat} {t:TypeId} (a:Av w g t (kL h tot Ah nh ch Af nf cf)):w.rangeAt g 33 (h.root.map bv):=
 Av.rangeAt (pre:=[.int .u32 (h.ver:Int)]++h.prev.map bv) (rest:=[.int .u32 (h.time:Int),.int .u32 (h.bits:Int),.int .u32 (h.nonce:Int),.int .u32 (tot:Int),.slice Ah nh ch,.slice Af nf cf]) (by simpa [kL,fC] using a) 33 (by simp[k.2.1])
end
theorem nG {fn:Func} {p u v:Tmp} {ty:TypeId} (h:fn.results= #[.cell p ty,.tmp u,.tmp v]) {tmps:Array Value} {P:Program} {w:World} {g:Nat} {t:TypeId} {C:List Value} (hp:tmps.getD p undef= .pointer (some ⟨g,0,none⟩)) (ha:Av w g t C) (d:TypeDesc) (hu:P.underlying ty=some d) (hd:d.isRow=true)
  (n:Nat) (hn:C.length=n) (hi:(P.info? ty).map (·.size)=some n):
  (results fn tmps).run P w= .ok (.tuple #[.agg C.toArray,tmps.getD u undef,tmps.getD v undef]) w:=by
 unfold results
 simp only[h]
 have hl:=run_loadVar_row w g t ty _ _ d ha hu (by cases d <;> first|rfl|(simp[TypeDesc.isRow] at hd)) (by rw[List.size_toArray,hn];exact hi)
 rw[Array.getD_eq_getD_getElem?] at hp
 simp[hp,asAddr,hl]
theorem fQ {P:Program} (ty:TypeId) {w:World} {b off:Nat} (cs:List Value) (hc:w.rangeAt b off cs) {ops:Array Oper} {rest:List Oper} {a:Act} {Q:Exit→Act→World→Prop} {d tp pos af gu} {x:Operand}
  (hw:Region.wanted ⟨d,.load ty x,tp,pos,af,gu⟩ (yielded ops a.tmps)=true) (hx:a.eval x= .pointer (some ⟨b,off,none⟩)) (dd:TypeDesc) (hu:P.underlying ty=some dd) (hd:dd.isRow=true) (hi:(P.info? ty).map (·.size)=some cs.length)
  (k:wpList P ops Q rest (a.put d (.agg cs.toArray)) w):wpList P ops Q (⟨d,.load ty x,tp,pos,af,gu⟩ :: rest) a w:=
 eF hw (bJ ty x rfl b off hx cs dd hc hu hd hi) k
theorem KB (tot:Nat) (Ah:Option Addr) (nh ch:Nat) (Af:Option Addr) (nf cf:Nat):prog.built 125 [(0,.int .u32 (tot:Int)),(1,.slice Ah nh ch),(2,.slice Af nf cf)]=some (qG tot Ah nh ch Af nf cf).toArray:=by
 kernel_rfl
theorem MQ (tot:Nat) (Ah:Option Addr) (nh ch:Nat) (Af:Option Addr) (nf cf:Nat):(qG tot Ah nh ch Af nf cf).all (·.oneCell')=true:=rfl
theorem MR (tot:Nat) (Ah:Option Addr) (nh ch:Nat) (Af:Option Addr) (nf cf:Nat):(qG tot Ah nh ch Af nf cf).length=3:=rfl
theorem Ic:(match prog.underlying 112 with|some (.struct fs)=>fs.toList.mapM (fun f=>(prog.info? f.type).map fun i=>(f.offset,i.size))|_=>none)=some [(0,32),(32,32),(64,1)]:=by kernel_rfl
theorem MS:(prog.info? 112).map (·.zero)=some (some (.agg (dY ⟨List.replicate 32 0,List.replicate 32 0,0⟩).toArray)):=by kernel_rfl
theorem Xc17 {p:Prop} (h:p:=by
 have z32:((List.replicate 32 (0:UInt8)).map bv).length=32:=rfl
 show Instr.fill _ (([]++((List.replicate 32 (0:UInt8)).map bv++((List.replicate 32 (0:UInt8)).map bv++ [Value.int .i64 0]))):List Value).toArray _=some (x.map bv++(y.map bv++ [Value.int .i64 p])).toArray
 generalize (List.replicate 32 (0:UInt8)).map bv=Z at*
 refine Eq.trans (dA [] Z (x.map bv) _ (off:=0) (size:=32) rfl rfl (by simpa using hx) rfl z32) ?_
 rw[show ([]++(x.map bv++(Z++ [Value.int .i64 0])):List Value)=x.map bv++(Z++ [Value.int .i64 0]) from rfl]
 refine Eq.trans (dA (x.map bv) Z (y.map bv) _ (off:=32) (size:=32) rfl rfl (by simpa using hy) (by simpa using hx) z32) ?_
 rw[show (x.map bv++(y.map bv++ [Value.int .i64 0]):List Value)=(x.map bv++y.map bv)++([Value.int .i64 0]++ []) by simp]
 refine Eq.trans (dA (x.map bv++y.map bv) [Value.int .i64 0] [Value.int .i64 p] _ (off:=64) (size:=1) rfl rfl rfl (by simp[hx,hy]) rfl) ?_
 simp[Instr.fill]):p:=h
theorem KC (x y:List UInt8) (p:Int) (hx:x.length=32) (hy:y.length=32):prog.built 112 [(0,.agg (cK x)),(1,.agg (cK y)),(2,.int .i64 p)]=some (dY ⟨x,y,p⟩).toArray:=by
 have hp:=Ic
 rw[Td] at hp
 rw[fL Td MS hp]
 exact Xc17
theorem Xm32 {p q:Prop} (k:q) (h:Hid q→p:=by
 intro hk
 have k32:=Hy (show (I.map bv).length=32 by rw[List.length_map,I32])
 have ione:=Hy (show (I.map bv).all (·.oneCell')=true by rw[List.all_eq_true];exact dB I)
 have rhd:W.rangeAt (H+1) 0 (fC h):=yD xW
 have h68:=Hy (cJ hok)
 have wone:=kE As At An ns cs nt ct nn cn
 have l3:(bS As At An ns cs nt ct nn cn).length=3:=rfl
 have hHw:w.heap.size≤H:=by rw[hH];exact Nat.le_refl _
 have hH2:w.heap.size≤H+2:=by omega
 have htW:=ht.b bW
 have hvW:=hv.b bW
 revert k32 ione rhd h68 wone l3 hHw hH2 htW hvW;exact hk.out):p:=h (Hy k)
theorem Xm11 {p q:Prop} (k:q) (h:Hid q→p:=by
 intro hk
 obtain⟨W,hW⟩:=Nm (((w.alloc (.cells (bS As At An ns cs nt ct nn cn).toArray 51)).alloc (.cells (kL h tot Ah nh ch Af nf cf).toArray 69)).alloc (.cells #[.slice none 0 0,.slice none 0 0,.slice none 0 0] 51))
 obtain⟨H,hH⟩:=Nm (w.heap.size)
 have aW:Av W H 51 (bS As At An ns cs nt ct nn cn):=by rw[hW,hH];exact Av.alloc (heap_alloc2_old _ _ _) _
 have xW:Av W (H+1) 69 (kL h tot Ah nh ch Af nf cf):=by rw[hW,hH];exact Av.alloc (heap_alloc2_new _ _ _) _
 have zW:Av W (H+2) 51 [.slice none 0 0,.slice none 0 0,.slice none 0 0]:=by
  have e:∀ (v:World) (o:Obj),(v.alloc o).heap.size=v.heap.size+1:=fun v o=>by simp
  have:=heap_alloc_new ((w.alloc (.cells (bS As At An ns cs nt ct nn cn).toArray 51)).alloc (.cells (kL h tot Ah nh ch Af nf cf).toArray 69)) (.cells #[.slice none 0 0,.slice none 0 0,.slice none 0 0] 51)
  rw[e,e] at this
  rw[hW,hH];exact this
 have bW:Below w.heap.size w W:=by rw[hW];exact(((Below.refl _ _).alloc LR _).alloc zS _).alloc zU _
 have sz:W.heap.size=H+3:=by rw[hW,hH];simp
 have HI:=fun w' t=>OJ h hok w' t
 obtain⟨I,hI⟩:=Nm (dS h)
 have I32:I.length=32:=by rw[hI];exact fZ h
 have HF:=fun w' r=>Ae v ds (dS h) (fZ h) w' r
 revert W hW H hH aW xW zW bW sz HI I hI I32 HF;exact hk.out):p:=h (Hy k)
theorem zK (As At An:Option Addr) (ns cs nt ct nn cn:Nat) (T:List (List UInt8)) (_:T.length=nt) (_:nt≤90000) (N:List Sn) (_:N.length=nn) (_:nn≤90000) (v:Value) (ds:List Nd) (h:Hd) (hok:h.ok) (tot:Nat) (_:tot<4294967296) (hs:List (List UInt8)) (_:dV hs) (fl:List UInt8) (Ah:Option Addr) (nh ch:Nat) (Af:Option Addr) (nf cf:Nat) (_:hs.length=nh) (_:fl.length=nf) (_:nf≤10000) (_:nh≤10000) (hf:bZ ds (dS h)=none) (w:World) (ht:fW w) (hv:mB w v ds) (_:fD w At T) (_:dI w An N) (_:Rd w Ah (eB hs)) (_:Rd w Af (fl.map bv)):
  Calls prog 15 #[.agg (bS As At An ns cs nt ct nn cn).toArray,v,.agg (kL h tot Ah nh ch Af nf cf).toArray] w fun e w'=>e= .returned (.tuple #[.agg (bS As At An ns cs nt ct nn cn).toArray,.int .i64 0,.int .i64 9])∧Below w.heap.size w w':=by
 refine Xm11 ?_;intro W hW H hH aW xW zW bW sz HI I hI I32 HF
 rw[← hI] at HI HF hf
 refine Xm32 ?_;intro k32 ione rhd h68 wone l3 hHw hH2 htW hvW
 rw[hf] at HF
 replace hW:=Hy hW
 replace hH:=Hy hH
 replace sz:=Hy sz
 replace HI:=Hy HI
 replace HF:=Hy HF
 replace hI:=Hy hI
 replace I32:=Hy I32
 replace hf:=Hy hf
 go_enter func15,ntmps15
 go_upto_region 1 with fail
 rw[← hW.out,← hH.out]
 go_upto_region 2 with (first
  |((with_reducible refine LM rhd Tb ?_ ?_ (hi:=by rw[h68.out];kernel_rfl));rfl)
  |(go_at_call 44;refine(HI.out W htW).mono ?_;rintro e w1 ⟨rfl,b1⟩)
  |((with_reducible refine bF 35 ((Below.refl w1.heap.size w1).alloc LR _) (heap_alloc_new _ _) LR (I.map bv) ?_ ?_ 32 k32.out ?_ ?_ ?_ ?_);rfl;rfl;kernel_rfl;(first|rfl|simp);exact ione.out;intro w2 i2 b2 z2;clear z2;intro z2;replace z2:=Hy z2))
 obtain⟨G,hG⟩:=Nm (w1.heap.size)
 rw[← hG] at i2 ⊢
 have b12:=b1.trans (b2.mono b1.size)
 have B2:=bW.trans (b12.mono bW.size)
 have a2:=aW.b b12
 have x2:=xW.b b12
 have q2:=zW.b b12
 have v2:=hvW.b b12
 have hGs:H+3≤G:=by have:=b1.size;have:=sz.out;omega
 replace hG:=Hy hG
 clear b1 b2 b12
 go_upto_region 3 with (first
  |((with_reducible refine LF i2 32 k32.out SS ?_ ?_);rfl)
  |(go_at_call 45;refine(HF.out w2 v2).mono ?_;rintro e w3 ⟨rfl,b3⟩))
 have B3:=B2.trans (b3.mono B2.size)
 have a3:=a2.b b3
 have x3:=x2.b b3
 have q3:=q2.b b3
 have i3:=i2.b b3
 clear b3
 go_wp2_with (first
  |((with_reducible refine LF a3 3 l3 SZ ?_ ?_);rfl)
  |((with_reducible refine SF B3 q3 hH2 (bS As At An ns cs nt ct nn cn) 3 ?_ ?_ ?_ (hn:=l3) (h1:=wone));rfl;rfl;intro w9 a9 b9 k9 z9))
 refine bodyPost_ret (v:=.tuple #[.agg (bS As At An ns cs nt ct nn cn).toArray,.int .i64 0,.int .i64 9]) ((nG (C:=bS As At An ns cs nt ct nn cn) bM bM a9 _ SZ rfl 3 l3 KR).trans bM) bM ?_
 exact⟨rfl,b9⟩
theorem Xm160 {p q:Prop} (k:q) (h:Hid q→p:=by
 intro hk
 replace hW:=Hy hW
 replace hH:=Hy hH
 replace sz:=Hy sz
 replace HI:=Hy HI
 replace HF:=Hy HF
 replace HE:=Hy HE
 replace hI:=Hy hI
 replace I32:=Hy I32
 replace hf:=Hy hf
 replace hqf:=Hy hqf
 replace hx:=Hy hx
 replace d68:=Hy d68
 replace d69:=Hy d69
 replace d70:=Hy d70
 replace hR:=Hy hR
 revert hW hH sz HI HF HE hI I32 hf hqf hx d68 d69 d70 hR;exact hk.out):p:=h (Hy k)
theorem Xc123 {p:Prop} (h:p:=by
 refine bodyPost_ret (v:=.tuple #[.agg (bS As At An ns cs nt ct nn cn).toArray,.int .i64 0,.int .i64 13]) ((nG (C:=bS As At An ns cs nt ct nn cn) bM bM a9 _ SZ rfl 3 l3 KR).trans bM) bM ?_
 exact⟨rfl,b9⟩):p:=h
theorem Xm88 {p q:Prop} (k:q) (h:Hid q→p:=by
 intro hk
 obtain⟨F,hF⟩:=Nm (w5.heap.size)
 rw[← hF] at i6 ⊢
 have b56:=b5.trans (b6.mono b5.size)
 have B6:=B4.trans (b56.mono B4.size)
 have a6:=a4.b b56
 have x6:=x4.b b56
 have q6:=q4.b b56
 have j6:=i4.b b56
 have hFs:G<F:=by have:=i4.lt;have:=b5.size;omega
 replace hF:=Hy hF
 revert F i6 b56 B6 a6 x6 q6 j6 hFs hF;exact hk.out):p:=h (Hy k)
theorem Xm59 {p q:Prop} (k:q) (h:Hid q→p:=by
 intro hk
 obtain⟨qf,hqf⟩:∃ k,bZ ds (dS h)=some k:=Option.isSome_iff_exists.1 hf
 have HE:=fun w' r1 r2 t=>RU fl hs h32 tot Ah nh ch Af nf cf hnh hnf htot hnf2 hnh2 w' r1 r2 t
 obtain⟨d68,d69,d70⟩:=yB (h:=h) (tot:=tot) (Ah:=Ah) (nh:=nh) (ch:=ch) (Af:=Af) (nf:=nf) (cf:=cf) hok
 have hbt:=Hy (KB tot Ah nh ch Af nf cf)
 have pone:=MQ tot Ah nh ch Af nf cf
 have pl3:=MR tot Ah nh ch Af nf cf
 revert qf hqf HE d68 d69 d70 hbt pone pl3;exact hk.out):p:=h (Hy k)
theorem Du (As At An:Option Addr) (ns cs nt ct nn cn:Nat) (T:List (List UInt8)) (_:T.length=nt) (_:nt≤90000) (N:List Sn) (_:N.length=nn) (_:nn≤90000) (v:Value) (ds:List Nd) (h:Hd) (hok:h.ok) (tot:Nat) (htot:tot<4294967296) (hs:List (List UInt8)) (h32:dV hs) (fl:List UInt8) (Ah:Option Addr) (nh ch:Nat) (Af:Option Addr) (nf cf:Nat) (hnh:hs.length=nh) (hnf:fl.length=nf) (hnf2:nf≤10000) (hnh2:nh≤10000) (hf:(bZ ds (dS h)).isSome=true) (hx:kJ tot hs fl=none) (w:World) (ht:fW w) (hv:mB w v ds) (_:fD w At T) (_:dI w An N) (rh:Rd w Ah (eB hs)) (rf:Rd w Af (fl.map bv)):
  Calls prog 15 #[.agg (bS As At An ns cs nt ct nn cn).toArray,v,.agg (kL h tot Ah nh ch Af nf cf).toArray] w fun e w'=>e= .returned (.tuple #[.agg (bS As At An ns cs nt ct nn cn).toArray,.int .i64 0,.int .i64 13])∧Below w.heap.size w w':=by
 refine Xm59 ?_;intro qf hqf HE d68 d69 d70 hbt pone pl3
 refine Xm11 ?_;intro W hW H hH aW xW zW bW sz HI I hI I32 HF
 rw[← hI] at HI HF hqf
 refine Xm32 ?_;intro k32 ione rhd h68 wone l3 hHw hH2 htW hvW
 rw[hqf] at HF
 rw[hx] at HE
 obtain⟨R,hR⟩:=Nm (bV)
 have r32:=Hy (show (R.map bv).length=32 by rw[hR];rfl)
 have rone:=Hy (show (R.map bv).all (·.oneCell')=true by rw[List.all_eq_true];exact dB R)
 unfold mO at HE
 rw[← hR] at HE
 refine Xm160 ?_;try clear hW hH sz HI HF HE hI I32 hf hqf hx d68 d69 d70 hR;intro hW hH sz HI HF HE hI I32 hf hqf hx d68 d69 d70 hR
 go_enter func15,ntmps15
 go_upto_region 1 with fail
 rw[← hW.out,← hH.out]
 go_upto_region 2 with (first
  |((with_reducible refine LM rhd Tb ?_ ?_ (hi:=by rw[h68.out];kernel_rfl));rfl)
  |(go_at_call 44;refine(HI.out W htW).mono ?_;rintro e w1 ⟨rfl,b1⟩)
  |((with_reducible refine bF 35 ((Below.refl w1.heap.size w1).alloc LR _) (heap_alloc_new _ _) LR (I.map bv) ?_ ?_ 32 k32.out ?_ ?_ ?_ ?_);rfl;rfl;kernel_rfl;(first|rfl|simp);exact ione.out;intro w2 i2 b2 z2;clear z2;intro z2;replace z2:=Hy z2))
 obtain⟨G,hG⟩:=Nm (w1.heap.size)
 rw[← hG] at i2 ⊢
 have b12:=b1.trans (b2.mono b1.size)
 have B2:=bW.trans (b12.mono bW.size)
 have a2:=aW.b b12
 have x2:=xW.b b12
 have q2:=zW.b b12
 have v2:=hvW.b b12
 have hGs:H+3≤G:=by have:=b1.size;have:=sz.out;omega
 replace hG:=Hy hG
 clear b1 b2 b12
 go_upto_region 3 with (first
  |((with_reducible refine LF i2 32 k32.out SS ?_ ?_);rfl)
  |(go_at_call 45;refine(HF.out w2 v2).mono ?_;rintro e w3 ⟨rfl,b3⟩))
 have B3:=B2.trans (b3.mono B2.size)
 have a3:=a2.b b3
 have x3:=x2.b b3
 have q3:=q2.b b3
 have i3:=i2.b b3
 clear b3
 have e68:=x3.cell 68 _ d68.out
 have e69:=x3.cell 69 _ d69.out
 have e70:=x3.cell 70 _ d70.out
 have t3:=ht.b B3
 have rh3:=rh.b B3
 have rf3:=rf.b B3
 go_upto_region 6 with (first
  |((with_reducible refine cF (.agg (qG tot Ah nh ch Af nf cf).toArray) ?_ ?_);exact dC (cs:=qG tot Ah nh ch Af nf cf) (ops:=[(0,.tmp 35),(1,.tmp 37),(2,.tmp 39)]) rfl hbt.out)
  |((with_reducible refine SN (qG tot Ah nh ch Af nf cf) 3 ?_ ?_ ?_ (hn:=pl3) (h1:=pone));rfl;rfl;intro w4 p4 b4 z4;clear z4;intro z4;replace z4:=Hy z4))
 have B4:=B3.trans (b4.mono B3.size)
 have a4:=a3.b b4
 have x4:=x3.b b4
 have q4:=q3.b b4
 have i4:=i3.b b4
 have t4:=t3.b b4
 have rh4:=rh3.b b4
 have rf4:=rf3.b b4
 clear e68 e69 e70 b4
 go_upto_region 7 with (first
  |((with_reducible refine LF p4 3 pl3 Ty ?_ ?_);rfl)
  |(go_at_call 46;refine(HE.out w4 rh4 rf4 t4).mono ?_;rintro e w5 ⟨b5,rfl⟩;skip)
  |((with_reducible refine bF 35 ((Below.refl w5.heap.size w5).alloc LR _) (heap_alloc_new _ _) LR (R.map bv) ?_ ?_ 32 r32.out ?_ ?_ ?_ ?_);rfl;rfl;kernel_rfl;(first|rfl|simp);exact rone.out;intro w6 i6 b6 z6;clear z6;intro z6;replace z6:=Hy z6))
 refine Xm88 ?_;try clear i6;intro F i6 b56 B6 a6 x6 q6 j6 hFs hF
 go_wp2_with (first
  |((with_reducible refine LF a6 3 l3 SZ ?_ ?_);rfl)
  |((with_reducible refine SF B6 q6 hH2 (bS As At An ns cs nt ct nn cn) 3 ?_ ?_ ?_ (hn:=l3) (h1:=wone));rfl;rfl;intro w9 a9 b9 k9 z9))
 exact Xc123
theorem Xm95 {p q:Prop} (k:q) (h:Hid q→p:=by
 intro hk
 rw[hqf] at HF
 rw[hx] at HE
 unfold mO at HE
 dsimp only at HE
 obtain⟨R,hR⟩:=Nm (r.x)
 obtain⟨ms,hms⟩:=Nm (r.l)
 obtain⟨nm,hnm⟩:=Nm (r.l.length)
 have hnm2:ms.length=nm:=by rw[hms,hnm]
 have R32:R.length=32:=by rw[hR];exact hrx
 have m32:∀ p ∈ ms,p.2.length=32:=by rw[hms];exact hrl
 have r32:=Hy (show (R.map bv).length=32 by rw[List.length_map,R32])
 have rone:=Hy (show (R.map bv).all (·.oneCell')=true by rw[List.all_eq_true];exact dB R)
 rw[← hR,← hms] at HE
 revert HF R hR ms HE hms nm hnm hnm2 R32 m32 r32 rone;exact hk.out):p:=h (Hy k)
theorem Dw (As At An:Option Addr) (ns cs nt ct nn cn:Nat) (T:List (List UInt8)) (_:T.length=nt) (_:nt≤90000) (N:List Sn) (_:N.length=nn) (_:nn≤90000) (v:Value) (ds:List Nd) (h:Hd) (hok:h.ok) (tot:Nat) (htot:tot<4294967296) (hs:List (List UInt8)) (h32:dV hs) (fl:List UInt8) (Ah:Option Addr) (nh ch:Nat) (Af:Option Addr) (nf cf:Nat) (hnh:hs.length=nh) (hnf:fl.length=nf) (hnf2:nf≤10000) (hnh2:nh≤10000) (hf:(bZ ds (dS h)).isSome=true) (r:kG) (hx:kJ tot hs fl=some r) (hrx:r.x.length=32) (hrl:∀ p ∈ r.l,p.2.length=32) (hne:r.x≠h.root) (w:World) (ht:fW w) (hv:mB w v ds) (_:fD w At T) (_:dI w An N) (rh:Rd w Ah (eB hs)) (rf:Rd w Af (fl.map bv)):
  Calls prog 15 #[.agg (bS As At An ns cs nt ct nn cn).toArray,v,.agg (kL h tot Ah nh ch Af nf cf).toArray] w fun e w'=>e= .returned (.tuple #[.agg (bS As At An ns cs nt ct nn cn).toArray,.int .i64 0,.int .i64 13])∧Below w.heap.size w w':=by
 refine Xm59 ?_;intro qf hqf HE d68 d69 d70 hbt pone pl3
 refine Xm11 ?_;intro W hW H hH aW xW zW bW sz HI I hI I32 HF
 rw[← hI] at HI HF hqf
 refine Xm32 ?_;intro k32 ione rhd h68 wone l3 hHw hH2 htW hvW
 refine Xm95 ?_;try clear HF HE;intro HF R hR ms HE hms nm hnm hnm2 R32 m32 r32 rone
 rw[hnm2] at HE
 have NR:=Gf R h.root R32 hok.2.2.1
 have hroot:=Hy (show (h.root.map bv).length=32 by rw[List.length_map,hok.2.2.1])
 have hne':(R==h.root)=false:=by rw[hR];simpa using hne
 rw[hne'] at NR
 refine Xm160 ?_;try clear hW hH sz HI HF HE hI I32 hf hqf hx d68 d69 d70 hR;intro hW hH sz HI HF HE hI I32 hf hqf hx d68 d69 d70 hR
 replace hms:=Hy hms
 replace hnm:=Hy hnm
 replace hnm2:=Hy hnm2
 replace NR:=Hy NR
 replace m32:=Hy m32
 replace R32:=Hy R32
 go_enter func15,ntmps15
 go_upto_region 1 with fail
 rw[← hW.out,← hH.out]
 go_upto_region 2 with (first
  |((with_reducible refine LM rhd Tb ?_ ?_ (hi:=by rw[h68.out];kernel_rfl));rfl)
  |(go_at_call 44;refine(HI.out W htW).mono ?_;rintro e w1 ⟨rfl,b1⟩)
  |((with_reducible refine bF 35 ((Below.refl w1.heap.size w1).alloc LR _) (heap_alloc_new _ _) LR (I.map bv) ?_ ?_ 32 k32.out ?_ ?_ ?_ ?_);rfl;rfl;kernel_rfl;(first|rfl|simp);exact ione.out;intro w2 i2 b2 z2;clear z2;intro z2;replace z2:=Hy z2))
 obtain⟨G,hG⟩:=Nm (w1.heap.size)
 rw[← hG] at i2 ⊢
 have b12:=b1.trans (b2.mono b1.size)
 have B2:=bW.trans (b12.mono bW.size)
 have a2:=aW.b b12
 have x2:=xW.b b12
 have q2:=zW.b b12
 have v2:=hvW.b b12
 have hGs:H+3≤G:=by have:=b1.size;have:=sz.out;omega
 replace hG:=Hy hG
 clear b1 b2 b12
 go_upto_region 3 with (first
  |((with_reducible refine LF i2 32 k32.out SS ?_ ?_);rfl)
  |(go_at_call 45;refine(HF.out w2 v2).mono ?_;rintro e w3 ⟨rfl,b3⟩))
 have B3:=B2.trans (b3.mono B2.size)
 have a3:=a2.b b3
 have x3:=x2.b b3
 have q3:=q2.b b3
 have i3:=i2.b b3
 clear b3
 have e68:=x3.cell 68 _ d68.out
 have e69:=x3.cell 69 _ d69.out
 have e70:=x3.cell 70 _ d70.out
 have t3:=ht.b B3
 have rh3:=rh.b B3
 have rf3:=rf.b B3
 go_upto_region 6 with (first
  |((with_reducible refine cF (.agg (qG tot Ah nh ch Af nf cf).toArray) ?_ ?_);exact dC (cs:=qG tot Ah nh ch Af nf cf) (ops:=[(0,.tmp 35),(1,.tmp 37),(2,.tmp 39)]) rfl hbt.out)
  |((with_reducible refine SN (qG tot Ah nh ch Af nf cf) 3 ?_ ?_ ?_ (hn:=pl3) (h1:=pone));rfl;rfl;intro w4 p4 b4 z4;clear z4;intro z4;replace z4:=Hy z4))
 have B4:=B3.trans (b4.mono B3.size)
 have a4:=a3.b b4
 have x4:=x3.b b4
 have q4:=q3.b b4
 have i4:=i3.b b4
 have t4:=t3.b b4
 have rh4:=rh3.b b4
 have rf4:=rf3.b b4
 clear e68 e69 e70 b4
 go_upto_region 7 with (first
  |((with_reducible refine LF p4 3 pl3 Ty ?_ ?_);rfl)
  |(go_at_call 46;refine(HE.out w4 rh4 rf4 t4).mono ?_;rintro e w5 ⟨b5,A5,c5,rfl,hc5,hA5,rm5⟩;skip)
  |((with_reducible refine bF 35 ((Below.refl w5.heap.size w5).alloc LR _) (heap_alloc_new _ _) LR (R.map bv) ?_ ?_ 32 r32.out ?_ ?_ ?_ ?_);rfl;rfl;kernel_rfl;(first|rfl|simp);exact rone.out;intro w6 i6 b6 z6;clear z6;intro z6;replace z6:=Hy z6))
 refine Xm88 ?_;try clear i6;intro F i6 b56 B6 a6 x6 q6 j6 hFs hF
 have rr6:=yE hok x6
 go_wp2_with (first
  |((with_reducible refine LG i6 32 SS ?_ ?_ ?_ (hn:=r32.out));rfl;rfl)
  |((with_reducible refine fQ 35 (h.root.map bv) rr6 ?_ ?_ _ SS ?_ ?_ ?_);rfl;rfl;rfl;(rw[hroot.out];kernel_rfl))
  |((with_reducible refine dF (op:=.neq) (ty:=35) ?_ ?_ ?_ (NR.out _ _ w6) ?_);rfl;rfl;rfl;simp only[Bool.not_false])
  |((with_reducible refine LF a6 3 l3 SZ ?_ ?_);rfl)
  |((with_reducible refine SF B6 q6 hH2 (bS As At An ns cs nt ct nn cn) 3 ?_ ?_ ?_ (hn:=l3) (h1:=wone));rfl;rfl;intro w9 a9 b9 k9 z9))
 exact Xc123
end Go.Proofs.YtobjgebojhjhnaaGreatDoor
namespace Go.Proofs.YtobjgebojhjhnaaGreatDoor
set_option maxRecDepth 100000
set_option maxHeartbeats 16000000
open Go.RowKit Tryz
def lK (T:List (List UInt8)) (I:List UInt8) (a:List Sn × Nat) (m:Nat × List UInt8):List Sn × Nat:=
 if decide (4096≤a.1.length) || !(T.contains m.2) || a.1.contains ⟨m.2,I,(m.1:Int)⟩ then a else (a.1++ [⟨m.2,I,(m.1:Int)⟩],a.2+1)
def nN (T:List (List UInt8)) (I:List UInt8) (ms:List (Nat × List UInt8)) (N:List Sn):List Sn × Nat:=ms.foldl (lK T I) (N,0)
theorem pU {T:List (List UInt8)} {I:List UInt8} {ms:List (Nat × List UInt8)} {N:List Sn} {j:Nat} {m:Nat × List UInt8} (h:ms[j]? =some m):(ms.take (j+1)).foldl (lK T I) (N,0)=lK T I ((ms.take j).foldl (lK T I) (N,0)) m:=by
 rw[List.take_add_one,h,List.foldl_append]
 rfl
def iJ (ds:List Nd) (T:List (List UInt8)) (N:List Sn) (h:Hd) (tot:Nat) (hs:List (List UInt8)) (fl:List UInt8):List Sn × Nat × Nat:=
 match bZ ds (dS h) with
 |none=>(N,0,9)
 |some _=>match kJ tot hs fl with
  |none=>(N,0,13)
  |some r=>if r.x=h.root then ((nN T (dS h) r.l N).1,(nN T (dS h) r.l N).2,0) else (N,0,13)
theorem Ie:(prog.info? 49).map (·.size)=some 1:=by kernel_rfl
theorem KD {w:World} {b o:Nat} {p:Nat × List UInt8} (r:w.rangeAt b o (uX p)):w.rangeAt b (o+1) (p.2.map bv):=fun j u hu=>by
 have:=r (1+j) u (by
  unfold uX
  rw[List.getElem?_append_right zS]
  simpa using hu)
 rw[show o+1+j=o+(1+j) by omega]
 exact this
theorem Ig (As At An:Option Addr) (ns cs nt ct nn cn:Nat) (T:List (List UInt8)) (hT:T.length=nt) (hnt:nt≤90000) (N:List Sn) (hN:N.length=nn) (hnn:nn≤90000) (v:Value) (ds:List Nd) (h:Hd) (hok:h.ok) (tot:Nat) (htot:tot<4294967296) (hs:List (List UInt8)) (h32:dV hs) (fl:List UInt8) (Ah:Option Addr) (nh ch:Nat) (Af:Option Addr) (nf cf:Nat) (hnh:hs.length=nh) (hnf:fl.length=nf) (hnf2:nf≤10000) (hnh2:nh≤10000) (hf:(bZ ds (dS h)).isSome=true) (r:kG) (hx:kJ tot hs fl=some r) (hrx:r.x.length=32) (hrl:∀ p ∈ r.l,p.2.length=32) (hrn:r.l.length≤100000) (heq:r.x=h.root) (w:World) (ht:fW w) (hv:mB w v ds) (rT:fD w At T) (rN:dI w An N) (rh:Rd w Ah (eB hs)) (rf:Rd w Af (fl.map bv)):
  Calls prog 15 #[.agg (bS As At An ns cs nt ct nn cn).toArray,v,.agg (kL h tot Ah nh ch Af nf cf).toArray] w fun e w'=>∃ A' c',e= .returned (.tuple #[.agg (bS As At A' ns cs nt ct (nN T (dS h) r.l N).1.length c').toArray,.int .i64 ((nN T (dS h) r.l N).2:Int),.int .i64 0])∧dI w' A' (nN T (dS h) r.l N).1∧Below w.heap.size w w':=by
 refine Xm59 ?_;intro qf hqf HE d68 d69 d70 hbt pone pl3
 refine Xm11 ?_;intro W hW H hH aW xW zW bW sz HI I hI I32 HF
 rw[← hI] at HI HF hqf ⊢
 refine Xm32 ?_;intro k32 ione rhd h68 wone l3 hHw hH2 htW hvW
 refine Xm95 ?_;try clear HF HE;intro HF R hR ms HE hms nm hnm hnm2 R32 m32 r32 rone
 rw[← hms]
 rw[hnm2] at HE
 have NR:=Gf R h.root R32 hok.2.2.1
 have hroot:=Hy (show (h.root.map bv).length=32 by rw[List.length_map,hok.2.2.1])
 have heq':(R==h.root)=true:=by rw[hR];simpa using heq
 rw[heq'] at NR
 have hzs:=uB
 refine Xm104 ?_;try clear hzs;intro ys hzs hyl
 have hnm3:nm≤100000:=by omega
 have HCl:=fun w' (r:dI w' An N)=>OV N An nn cn w' r hN OM
 obtain⟨Z,hZ⟩:=Nm (nN T I ms N)
 rw[← hZ]
 replace hW:=Hy hW
 replace hH:=Hy hH
 replace sz:=Hy sz
 replace HI:=Hy HI
 replace HF:=Hy HF
 replace HE:=Hy HE
 replace hI:=Hy hI
 replace hf:=Hy hf
 replace hqf:=Hy hqf
 replace hx:=Hy hx
 replace d68:=Hy d68
 replace d69:=Hy d69
 replace d70:=Hy d70
 replace hR:=Hy hR
 replace hms:=Hy hms
 replace hnm:=Hy hnm
 replace hnm2:=Hy hnm2
 replace NR:=Hy NR
 replace m32:=Hy m32
 replace R32:=Hy R32
 replace hyl:=Hy hyl
 replace HCl:=Hy HCl
 replace hZ:=Hy hZ
 go_enter func15,ntmps15
 go_upto_region 1 with fail
 rw[← hW.out,← hH.out]
 go_upto_region 2 with (first
  |((with_reducible refine LM rhd Tb ?_ ?_ (hi:=by rw[h68.out];kernel_rfl));rfl)
  |(go_at_call 44;refine(HI.out W htW).mono ?_;rintro e w1 ⟨rfl,b1⟩)
  |((with_reducible refine bF 35 ((Below.refl w1.heap.size w1).alloc LR _) (heap_alloc_new _ _) LR (I.map bv) ?_ ?_ 32 k32.out ?_ ?_ ?_ ?_);rfl;rfl;kernel_rfl;(first|rfl|simp);exact ione.out;intro w2 i2 b2 z2;clear z2;intro z2;replace z2:=Hy z2))
 obtain⟨G,hG⟩:=Nm (w1.heap.size)
 rw[← hG] at i2 ⊢
 have b12:=b1.trans (b2.mono b1.size)
 have B2:=bW.trans (b12.mono bW.size)
 have a2:=aW.b b12
 have x2:=xW.b b12
 have q2:=zW.b b12
 have v2:=hvW.b b12
 have hGs:H+3≤G:=by have:=b1.size;have:=sz.out;omega
 replace hG:=Hy hG
 clear b1 b2 b12
 go_upto_region 3 with (first
  |((with_reducible refine LF i2 32 k32.out SS ?_ ?_);rfl)
  |(go_at_call 45;refine(HF.out w2 v2).mono ?_;rintro e w3 ⟨rfl,b3⟩))
 have B3:=B2.trans (b3.mono B2.size)
 have a3:=a2.b b3
 have x3:=x2.b b3
 have q3:=q2.b b3
 have i3:=i2.b b3
 clear b3
 have e68:=x3.cell 68 _ d68.out
 have e69:=x3.cell 69 _ d69.out
 have e70:=x3.cell 70 _ d70.out
 have t3:=ht.b B3
 have rh3:=rh.b B3
 have rf3:=rf.b B3
 go_upto_region 6 with (first
  |((with_reducible refine cF (.agg (qG tot Ah nh ch Af nf cf).toArray) ?_ ?_);exact dC (cs:=qG tot Ah nh ch Af nf cf) (ops:=[(0,.tmp 35),(1,.tmp 37),(2,.tmp 39)]) rfl hbt.out)
  |((with_reducible refine SN (qG tot Ah nh ch Af nf cf) 3 ?_ ?_ ?_ (hn:=pl3) (h1:=pone));rfl;rfl;intro w4 p4 b4 z4;clear z4;intro z4;replace z4:=Hy z4))
 have B4:=B3.trans (b4.mono B3.size)
 have a4:=a3.b b4
 have x4:=x3.b b4
 have q4:=q3.b b4
 have i4:=i3.b b4
 have t4:=t3.b b4
 have rh4:=rh3.b b4
 have rf4:=rf3.b b4
 clear e68 e69 e70 b4
 go_upto_region 7 with (first
  |((with_reducible refine LF p4 3 pl3 Ty ?_ ?_);rfl)
  |(go_at_call 46;refine(HE.out w4 rh4 rf4 t4).mono ?_;rintro e w5 ⟨b5,A5,c5,rfl,hc5,hA5,rm5⟩;have rm5':=rm5)
  |((with_reducible refine bF 35 ((Below.refl w5.heap.size w5).alloc LR _) (heap_alloc_new _ _) LR (R.map bv) ?_ ?_ 32 r32.out ?_ ?_ ?_ ?_);rfl;rfl;kernel_rfl;(first|rfl|simp);exact rone.out;intro w6 i6 b6 z6;clear z6;intro z6;replace z6:=Hy z6))
 refine Xm88 ?_;try clear i6;intro F i6 b56 B6 a6 x6 q6 j6 hFs hF
 have rr6:=yE hok x6
 have rm6:=rm5.b b6
 have f1:=a6.cell 1 (.slice At nt ct) rfl
 go_upto_region 10 with (first
  |((with_reducible refine LG i6 32 SS ?_ ?_ ?_ (hn:=r32.out));rfl;rfl)
  |((with_reducible refine fQ 35 (h.root.map bv) rr6 ?_ ?_ _ SS ?_ ?_ ?_);rfl;rfl;rfl;(rw[hroot.out];kernel_rfl))
  |((with_reducible refine dF (op:=.neq) (ty:=35) ?_ ?_ ?_ (NR.out _ _ w6) ?_);rfl;rfl;rfl;simp only[Bool.not_true])
  |(go_at_call 39;refine(JL At nt ct w6).mono ?_;rintro e w7 ⟨rfl,h7⟩;replace h7:=Hy h7))
 obtain⟨C,hC⟩:=Nm (w6.heap.size)
 rw[← hC]
 have b7:Below w6.heap.size w6 w7:=by rw[h7.out];exact(Below.refl _ _).alloc LR _
 have g7:Av w7 C 23 [.slice At nt ct]:=by rw[h7.out,hC];exact heap_alloc_new _ _
 have B7:=B6.trans (b7.mono B6.size)
 have a7:=a6.b b7
 have q7:=q6.b b7
 have i7:=j6.b b7
 have rm7:=rm6.b b7
 have rT7:=rT.b B7
 have rN7:=rN.b B7
 have f2:=a7.cell 2 (.slice An nn cn) rfl
 replace hC:=Hy hC
 clear f1 rm5' b5 b6 b56 t3 t4 rh3 rh4 rf3 rf4 a2 a3 a4 x2 x3 x4 q2 q3 q4 i2 i3 i4 p4 rm5 rm6 i6 z6 rr6
 go_upto_region 11 with (go_at_call 47;refine(HCl.out w7 rN7).mono ?_;rintro e w8 ⟨u8,rfl,o8,b8⟩)
 go_wp2
 obtain⟨K,hK⟩:=Nm (w7.heap.size)
 rw[← hK] at o8
 have hok0:Aw N:=rN.2
 have hHK:H+3≤K:=by rw[hK];have:=B7.size;have:=q7.lt;omega
 have hKs:K≤w7.heap.size:=by rw[hK];exact Nat.le_refl _
 replace hK:=Hy hK
 go_loopw [17,18,65] (fun u c i wr=>∃ (j:Nat) (acc:List Sn × Nat),j≤nm∧i= .int .i64 (j:Int)∧c= .int .i64 (acc.2:Int)∧Below w7.heap.size w7 wr∧wr.ownsRow K 112 65 u acc.1.length (uJ acc.1)∧Aw acc.1∧acc.1.length≤nn+j∧acc.2≤j∧Hid (acc=(ms.take j).foldl (lK T I) (N,0))) (fun _ _ i _=>nm - (intOf i).toNat)
 case atStart=>exact⟨0,(N,0),by omega,rfl,rfl,b8,by rw[hN];exact o8,hok0,by show N.length≤nn+0;omega,by show 0≤0;omega,Hy rfl⟩
 case round=>
  clear o8 b8 f2
  obtain⟨j,acc,hj,rfl,rfl,bw,ow,hok',hln,hcn,hacc⟩:=hrel
  have hsz:=bw.size
  by_cases hlt:j<nm
  ·have t2:decide ((j:Int)<(nm:Int))=true:=by simp;omega
   obtain⟨⟨mp,mh⟩,hm⟩:∃ m,ms[j]? =some m:=⟨_,List.getElem?_eq_getElem (by rw[hnm2.out];exact hlt)⟩
   have mok:mh.length=32:=m32.out (mp,mh) (List.mem_of_getElem? hm)
   obtain⟨bb,off,rfl⟩:=rm7.someA (by intro e;have:=Gq m32.out;rw[e,hnm2.out] at this;simp at this;omega)
   have rm:wr.rangeAt bb (off+j*33) (uX (mp,mh)):=Rd.piece uX 33 ms (fun e he=>rL (m32.out e he)) (rm7.b bw) j (mp,mh) hm
   have ml:=Hy (rL (p:=(mp,mh)) mok)
   have mone:=Hy (List.all_eq_true.2 (BQ (mp,mh)))
   have m32':=Hy (show (mh.map bv).length=32 by rw[List.length_map,mok])
   obtain⟨s,hs⟩:∃ s:Sn,s=⟨mh,I,(mp:Int)⟩:=⟨_,rfl⟩
   have sok:s.ok:=by rw[hs];exact⟨mok,I32⟩
   have s65:=Hy (dD sok)
   have sone:=Hy (List.all_eq_true.2 (kC s))
   have hbs:=Hy (KC mh I (mp:Int) mok I32)
   rw[← hs] at hbs
   obtain⟨Au,cu,rfl,hcu,_⟩:=cM ow
   have HCo:=fun w' (r:fD w' At T) (g:Av w' C 23 [.slice At nt ct])=>BJ T mh mok At nt ct C w' r hT OM g
   have HS:=fun w' Au cu (r:Rd w' Au (uJ acc.1))=>RG acc.1 s sok Au acc.1.length cu w' ⟨r,hok'⟩ rfl OM
   obtain⟨P2,hP2⟩:=Nm (T.contains mh)
   obtain⟨P3,hP3⟩:=Nm (acc.1.contains s)
   rw[← hP2] at HCo
   rw[← hP3] at HS
   obtain⟨la,hla⟩:=Nm (acc.1.length)
   obtain⟨ca,hca⟩:=Nm (acc.2)
   rw[← hla] at ow hcu HS hln ⊢
   rw[← hca] at hcn ⊢
   have hst:∀ b,(decide (4096≤acc.1.length) || !(T.contains mh) || acc.1.contains ⟨mh,I,(mp:Int)⟩)=b→(decide (4096≤la) || !P2 || P3)=b:=fun b e=>by rw[hP2,hP3,hla,hs];exact e
   have hst':(decide (4096≤acc.1.length) || !(T.contains mh) || acc.1.contains ⟨mh,I,(mp:Int)⟩)=(decide (4096≤la) || !P2 || P3):=by rw[hP2,hP3,hla,hs]
   clear hst
   have hskip:(decide (4096≤la) || !P2 || P3)=true→Hid (acc=(ms.take (j+1)).foldl (lK T I) (N,0)):=fun e=>Hy (by
    rw[pU hm,← hacc.out,lK,if_pos (by rw[hst'];exact e)])
   have htake:(decide (4096≤la) || !P2 || P3)=false→Hid ((acc.1++ [s],acc.2+1)=(ms.take (j+1)).foldl (lK T I) (N,0)):=fun e=>Hy (by
    rw[pU hm,← hacc.out,lK,if_neg (by rw[hst',e];decide),hs])
   replace hskip:=Hy hskip
   replace htake:=Hy htake
   have m0:0≤(j:Int):=by omega
   have m1:(j:Int)<(nm:Int):=by omega
   replace hm:=Hy hm
   replace hs:=Hy hs
   replace hP2:=Hy hP2
   replace hP3:=Hy hP3
   replace hla:=Hy hla
   replace hca:=Hy hca
   replace hst':=Hy hst'
   replace HCo:=Hy HCo
   replace HS:=Hy HS
   replace ow:=Hy ow
   have i8:=i7.b bw
   go_upto_region 15 with (first
    |((with_reducible refine LM rm underlying131 ?_ ?_ (hi:=by rw[ml.out];kernel_rfl));rfl)
    |((with_reducible refine SN (uX (mp,mh)) 33 ?_ ?_ ?_ (hn:=ml.out) (h1:=mone.out));rfl;rfl;intro wA aA bA qA zA;clear qA))
   obtain⟨GA,hGA⟩:=Nm (wr.heap.size)
   rw[← hGA] at aA ⊢
   have rmA:wA.rangeAt GA 1 (mh.map bv):=by have:=KD aA.range0;rwa [Nat.zero_add] at this
   have cA:=aA.cell 0 (.int .i64 (mp:Int)) rfl
   have iA:=i8.b bA
   have k32':=Hy (show (I.map bv).length=32 by rw[List.length_map,I32])
   replace hGA:=Hy hGA
   replace zA:=Hy zA
   go_upto_region 16 with (first
    |((with_reducible refine LM rmA SS ?_ ?_ (hi:=by rw[m32'.out];kernel_rfl));rfl)
    |((with_reducible refine LF iA 32 k32'.out SS ?_ ?_);rfl)
    |((with_reducible refine cF (.agg (dY s).toArray) ?_ ?_);exact dC (cs:=dY s) (ops:=[(0,.tmp 70),(1,.tmp 71),(2,.tmp 73)]) rfl hbs.out)
    |((with_reducible refine bF 112 ((Below.refl wA.heap.size wA).alloc LR _) (heap_alloc_new _ _) LR (dY s) ?_ ?_ 65 ?_ ?_ ?_ ?_ ?_);rfl;rfl;exact s65.out;kernel_rfl;(rw[List.size_toArray];exact hyl.out);exact sone.out;intro wB aB bB qB zB;clear qB))
   have bAB:=bA.trans (bB.mono bA.size)
   have BB:=bw.trans (bAB.mono bw.size)
   have rmB:wB.rangeAt GA 1 (mh.map bv):=by have:=KD (aA.b bB).range0;rwa [Nat.zero_add] at this
   have oB:=aJ ow.out bAB
   have rTB:=rT7.b BB
   have gB:=g7.b BB
   replace zB:=Hy zB
   clear cA iA i8 rm
   by_cases p1:4096≤la
   ·have t3:decide ((4096:Int)≤(la:Int))=true:=by simp;omega
    have hnx:=hskip.out (by simp[p1])
    replace p1:=Hy p1
    go_wp2
    refine⟨⟨j+1,acc,by omega,by go_num,by rw[hca.out],BB,by rw[← hla.out];exact oB,hok',by rw[← hla.out];omega,by rw[← hca.out];omega,hnx⟩,?_⟩
    simp[intOf]
    omega
   ·have t3:decide ((4096:Int)≤(la:Int))=false:=by simp;omega
    cases P2 with
    |false=>
     have hnx:=hskip.out zS
     replace p1:=Hy p1
     go_wp2_with (first
      |((with_reducible refine fQ 35 (mh.map bv) rmB ?_ ?_ _ SS ?_ ?_ ?_);rfl;rfl;rfl;(rw[m32'.out];kernel_rfl))
      |(go_at_call 64;refine(HCo.out wB rTB gB).mono ?_;rintro e wC ⟨rfl,bC⟩;have BC:=BB.trans (bC.mono BB.size);have oC:=aJ oB bC;have sC:=aB.b bC))
     refine⟨⟨j+1,acc,by omega,by go_num,by rw[hca.out],BC,by rw[← hla.out];exact oC,hok',by rw[← hla.out];omega,by rw[← hca.out];omega,hnx⟩,?_⟩
     simp[intOf]
     omega
    |true=>
     cases P3 with
     |true=>
      have hnx:=hskip.out zS
      replace p1:=Hy p1
      go_wp2_with (first
       |((with_reducible refine fQ 35 (mh.map bv) rmB ?_ ?_ _ SS ?_ ?_ ?_);rfl;rfl;rfl;(rw[m32'.out];kernel_rfl))
       |(go_at_call 64;refine(HCo.out wB rTB gB).mono ?_;rintro e wC ⟨rfl,bC⟩;have BC:=BB.trans (bC.mono BB.size);have oC:=aJ oB bC;have sC:=aB.b bC)
       |((with_reducible refine LG sC 65 Td ?_ ?_ ?_ (hn:=s65.out));rfl;rfl)
       |(go_at_call 48;refine(HS.out wC Au cu (fV oC)).mono ?_;rintro e wD ⟨rfl,bD⟩;have BD:=BC.trans (bD.mono BC.size);have oD:=aJ oC bD;have sD:=sC.b bD))
      refine⟨⟨j+1,acc,by omega,by go_num,by rw[hca.out],BD,by rw[← hla.out];exact oD,hok',by rw[← hla.out];omega,by rw[← hca.out];omega,hnx⟩,?_⟩
      simp[intOf]
      omega
     |false=>
      have hnx:=htake.out (by simpa using p1)
      have p1':=Hy p1
      clear p1
      go_upto_region 17 with (first
       |((with_reducible refine fQ 35 (mh.map bv) rmB ?_ ?_ _ SS ?_ ?_ ?_);rfl;rfl;rfl;(rw[m32'.out];kernel_rfl))
       |(go_at_call 64;refine(HCo.out wB rTB gB).mono ?_;rintro e wC ⟨rfl,bC⟩;have BC:=BB.trans (bC.mono BB.size);have oC:=aJ oB bC;have sC:=aB.b bC)
       |((with_reducible refine LG sC 65 Td ?_ ?_ ?_ (hn:=s65.out));rfl;rfl)
       |(go_at_call 48;refine(HS.out wC Au cu (fV oC)).mono ?_;rintro e wD ⟨rfl,bD⟩;have BD:=BC.trans (bD.mono BC.size);have oD:=aJ oC bD;have sD:=sC.b bD))
      have hDs:K≤wD.heap.size:=Nat.le_trans hKs BD.size
      have BDK:Below K w7 wD:=BD.mono hKs
      have s65l:=Hy (show (dY s).length=1*65 by rw[s65.out])
      have sone':=Hy (kC s)
      have oD':=Hy oD
      clear oD
      go_upto_region 18 with (first
       |((with_reducible refine LF sD 65 s65.out Td ?_ ?_);rfl)
       |((with_reducible refine dQ Tw xH xI DC DC (dY s) s65.out rfl ?_))
       |(at_builtin;refine bT Tw xH xI DC (aJ oD'.out ((Below.refl wD.heap.size wD).alloc LR _)) zU (dY s) 1 1 (Av.rd (t:=112) (heap_alloc_new _ _)) s65l.out sone'.out OM OM rfl (.tmp 90) (.tmp 92) rfl rfl rfl ?_;intro vE wE oE gE _))
      have bE:=fK (BDK.alloc hDs _) (aJ oD'.out ((Below.refl wD.heap.size wD).alloc LR _)) gE zU
      have bE':Below w7.heap.size w7 wE:=by rw[← hK.out];exact bE
      have el:uJ acc.1++dY s=uJ (acc.1++ [s]):=by simp[uJ]
      rw[el] at oE
      replace el:=Hy el
      go_wp2
      refine⟨⟨j+1,(acc.1++ [s],acc.2+1),by omega,by go_num,by show Value.int .i64 _=Value.int .i64 ((acc.2+1:Nat):Int);rw[← hca.out];go_num,bE',?_,?_,?_,?_,hnx⟩,?_⟩
      ·simp only[List.length_append,List.length_singleton]
       rw[← hla.out];exact oE
      ·intro e he
       rcases List.mem_append.1 he with he|he
       ·exact hok' e he
       ·rw[List.mem_singleton.1 he];exact sok
      ·simp only[List.length_append,List.length_singleton]
       rw[← hla.out];omega
      ·show acc.2+1≤j+1
       rw[← hca.out];omega
      ·simp[intOf];omega
  ·obtain rfl:j=nm:=by omega
   have t2:decide ((j:Int)<(j:Int))=false:=by simp
   have eZ:Z=acc:=by rw[hZ.out,nN,hacc.out,List.take_of_length_le (by rw[hnm2.out];exact Nat.le_refl _)]
   obtain⟨la,hla⟩:=Nm (acc.1.length)
   obtain⟨ca,hca⟩:=Nm (acc.2)
   rw[← hla] at ow
   obtain⟨Au,cu,rfl,hcu,_⟩:=cM ow
   have a8:=a7.b bw
   have q8:=q7.b bw
   have Bw:=B7.trans (bw.mono B7.size)
   replace hla:=Hy hla
   replace hca:=Hy hca
   replace eZ:=Hy eZ
   go_upto_region 21 with (refine iI rfl 49 _ _ rfl rfl a8 (show 2<3 by decide) Au la cu rfl Ie ?_)
   have S5:=a8.set 2 (.slice Au la cu)
   have z9:=q8.other ⟨H,2,none⟩ (.slice Au la cu) (by show H+2≠H;omega)
   have b9':=Bw.setCell (p:=⟨H,2,none⟩) hHw (.slice Au la cu)
   have own5:=bU ow (Fr.setCell wr ⟨H,2,none⟩ (.slice Au la cu)) (fun k hk e=>by
    have:=(World.ownsRow.lt ow k hk).1
    simp only at e
    omega)
   obtain⟨wX,hwX⟩:=Nm (wr.setCell ⟨H,2,none⟩ (.slice Au la cu))
   rw[← hwX] at S5 z9 b9' own5 ⊢
   have aX:Av wX H 51 (bS As At Au ns cs nt ct la cu):=S5
   have wone':=kE As At Au ns cs nt ct la cu
   have l3':(bS As At Au ns cs nt ct la cu).length=3:=rfl
   replace hwX:=Hy hwX
   clear S5 a8
   go_wp2_with (first
    |((with_reducible refine LF aX 3 l3' SZ ?_ ?_);rfl)
    |((with_reducible refine SF b9' z9 hH2 (bS As At Au ns cs nt ct la cu) 3 ?_ ?_ ?_ (hn:=l3') (h1:=wone'));rfl;rfl;intro wY aY bY kY zY))
   refine bodyPost_ret (v:=.tuple #[.agg (bS As At Au ns cs nt ct la cu).toArray,.int .i64 (acc.2:Int),.int .i64 0]) ((nG (C:=bS As At Au ns cs nt ct la cu) bM bM aY _ SZ rfl 3 l3' KR).trans bM) bM ?_
   have own6:=bU own5 (S:=fun k=>k=H+2) ⟨bY.os.trans b9'.os.symm,bY.tape.trans b9'.tape.symm,bY.output.trans b9'.output.symm,by rw[zY];exact Nat.le_refl _,fun k _ hk=>kY k hk⟩ (fun k hk e=>by
    have:=(World.ownsRow.lt own5 k hk).1
    omega)
   rw[eZ.out,← hla.out]
   exact⟨Au,cu,rfl,⟨fV own6,hok'⟩,bY⟩
theorem KE (As At An:Option Addr) (ns cs nt ct nn cn:Nat) (T:List (List UInt8)) (hT:T.length=nt) (hnt:nt≤90000) (N:List Sn) (hN:N.length=nn) (hnn:nn≤90000) (v:Value) (ds:List Nd) (h:Hd) (hok:h.ok) (tot:Nat) (htot:tot<4294967296) (hs:List (List UInt8)) (h32:dV hs) (fl:List UInt8) (Ah:Option Addr) (nh ch:Nat) (Af:Option Addr) (nf cf:Nat) (hnh:hs.length=nh) (hnf:fl.length=nf) (hnf2:nf≤10000) (hnh2:nh≤10000) (w:World) (ht:fW w) (hv:mB w v ds) (rT:fD w At T) (rN:dI w An N) (rh:Rd w Ah (eB hs)) (rf:Rd w Af (fl.map bv)):
  Calls prog 15 #[.agg (bS As At An ns cs nt ct nn cn).toArray,v,.agg (kL h tot Ah nh ch Af nf cf).toArray] w fun e w'=>∃ A' n' c',e= .returned (.tuple #[.agg (bS As At A' ns cs nt ct n' c').toArray,.int .i64 ((iJ ds T N h tot hs fl).2.1:Int),.int .i64 ((iJ ds T N h tot hs fl).2.2:Int)])∧(iJ ds T N h tot hs fl).1.length=n'∧dI w' A' (iJ ds T N h tot hs fl).1∧Below w.heap.size w w':=by
 unfold iJ
 cases hf:bZ ds (dS h) with
 |none=>
  exact(zK As At An ns cs nt ct nn cn T hT hnt N hN hnn v ds h hok tot htot hs h32 fl Ah nh ch Af nf cf hnh hnf hnf2 hnh2 hf w ht hv rT rN rh rf).mono fun e w' ⟨h1,h2⟩=>⟨An,nn,cn,h1,hN,rN.b h2,h2⟩
 |some k=>
  have hf':(bZ ds (dS h)).isSome=true:=by rw[hf];rfl
  dsimp only
  cases hx:kJ tot hs fl with
  |none=>
   exact(Du As At An ns cs nt ct nn cn T hT hnt N hN hnn v ds h hok tot htot hs h32 fl Ah nh ch Af nf cf hnh hnf hnf2 hnh2 hf' hx w ht hv rT rN rh rf).mono fun e w' ⟨h1,h2⟩=>⟨An,nn,cn,h1,hN,rN.b h2,h2⟩
  |some r=>
   dsimp only
   obtain⟨k1,k2,k3⟩:r.x.length=32∧(∀ p ∈ r.l,p.2.length=32)∧r.l.length≤100000:=by
    unfold kJ at hx
    split at hx
    ·obtain⟨hx,_⟩:=Option.filter_eq_some_iff.1 hx
     obtain⟨_,_,_,p4,p5,p6,p7⟩:=kV tot fl hs h32 _ _ _ _ _ hx
     exact⟨p6,p7,by omega⟩
    ·cases hx
   by_cases he:r.x=h.root
   ·rw[if_pos he]
    exact(Ig As At An ns cs nt ct nn cn T hT hnt N hN hnn v ds h hok tot htot hs h32 fl Ah nh ch Af nf cf hnh hnf hnf2 hnh2 hf' r hx k1 k2 k3 he w ht hv rT rN rh rf).mono fun e w' ⟨A',c',h1,h2,h3⟩=>⟨A',_,c',h1,rfl,h2,h3⟩
   ·rw[if_neg he]
    exact(Dw As At An ns cs nt ct nn cn T hT hnt N hN hnn v ds h hok tot htot hs h32 fl Ah nh ch Af nf cf hnh hnf hnf2 hnh2 hf' r hx k1 k2 he w ht hv rT rN rh rf).mono fun e w' ⟨h1,h2⟩=>⟨An,nn,cn,h1,hN,rN.b h2,h2⟩
end Go.Proofs.YtobjgebojhjhnaaGreatDoor
