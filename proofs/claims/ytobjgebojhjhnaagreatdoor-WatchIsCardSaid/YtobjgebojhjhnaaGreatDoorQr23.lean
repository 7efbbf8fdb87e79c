import Derived.Test.YtobjgebojhjhnaaGreatDoorQr21
import Derived.Test.YtobjgebojhjhnaaGreatDoorQr22
namespace Go.Proofs.YtobjgebojhjhnaaGreatDoor
set_option maxRecDepth 100000
set_option maxHeartbeats 16000000
open Go.RowKit Tryz
theorem MG (S:List (List UInt8 × Sl)) (As At An:Option Addr) (ns cs nt ct nn cn:Nat) (hS:S.length=ns) (hns:ns≤1000000) (s:List UInt8) (B:Option Addr) (m d:Nat) (hs:s.length=m) (w:World) (rS:dU w As S) (rs:Rd w B (s.map bv)):
  Calls prog 11 #[.agg (bS As At An ns cs nt ct nn cn).toArray,.slice B m d] w fun e w'=>∃ A' n' c' S',e= .returned (.tuple #[.agg (bS A' At An n' c' nt ct nn cn).toArray,.int .i64 ((iL (S.map (·.1)) s).2:Int)])∧S'.length=n'∧dU w' A' S'∧S'.map (·.1)=(iL (S.map (·.1)) s).1∧Below w.heap.size w w':=by
 have hR1:(S.map (·.1)).contains s=true→iL (S.map (·.1)) s=(S.map (·.1),10):=fun h=>by rw[iL,if_pos h]
 have hR2:(S.map (·.1)).contains s=false→iL (S.map (·.1)) s=if 10000<m then (S.map (·.1),3) else if 256≤ns then (S.map (·.1),12) else (S.map (·.1)++ [s],0):=fun h=>by rw[iL,if_neg (by rw[h];decide),hs,List.length_map,hS]
 obtain⟨R,hRe⟩:=Nm (iL (S.map (·.1)) s)
 rw[← hRe] at hR1 hR2 ⊢
 obtain⟨W,hW⟩:=Nm ((w.alloc (.cells (bS As At An ns cs nt ct nn cn).toArray 26)).alloc (.cells #[.slice none 0 0,.slice none 0 0,.slice none 0 0] 26))
 obtain⟨H,hH⟩:=Nm (w.heap.size)
 refine Xm82 ?_;intro bW
 have aW:Av W H 26 (bS As At An ns cs nt ct nn cn):=by rw[hW,hH];exact heap_alloc2_old _ _ _
 have zW:Av W (H+1) 26 (bS none none none 0 0 0 0 0 0):=by rw[hW,hH];exact heap_alloc2_new _ _ _
 have hHw:w.heap.size≤H+1:=by rw[hH];omega
 have hWs:W.heap.size=H+2:=by rw[hW,hH];simp
 clear hRe
 replace hW:=Hy hW
 replace hH:=Hy hH
 replace hS:=Hy hS
 replace hs:=Hy hs
 replace hR1:=Hy hR1
 replace hR2:=Hy hR2
 go_enter func11,ntmps11
 go_upto_region 1 with fail
 rw[← hW.out,← hH.out]
 go_upto_region 2 with fail
 go_loopw [6] (fun iv wr=>∃ k:Nat,k≤ns∧iv= .int .i64 (k:Int)∧Hid (∀ i,i<k→ ∀ e,S[i]? =some e→(e.1==s)=false)∧Below w.heap.size w wr∧Av wr H 26 (bS As At An ns cs nt ct nn cn)∧Av wr (H+1) 26 (bS none none none 0 0 0 0 0 0)∧H+2≤wr.heap.size) (fun iv _=>ns - (intOf iv).toNat)
 case atStart=>exact⟨0,by omega,rfl,Hy (fun i hi=>by omega),bW,aW,zW,by omega⟩
 case round=>
  clear bW aW zW hWs
  obtain⟨k,hk,rfl,hno,bw,aT,zT,hWs⟩:=hrel
  have c0:=aT.cell 0 (.slice As ns cs) rfl
  by_cases hlt:k<ns
  ·have t1:decide ((k:Int)<(ns:Int))=true:=by simp;omega
   obtain⟨⟨y,Ay,cy⟩,hy⟩:∃ e,S[k]? =some e:=⟨_,List.getElem?_eq_getElem (by rw[hS.out];exact hlt)⟩
   obtain⟨b,off,rfl⟩:=rS.adr (by rw[hS.out];omega)
   have E1:=Hy (fun w' b'=>(((rS.b bw).b (w':=w') b').nth k _ hy).1)
   have G1:=Hy (fun w' b'=>(((rS.b bw).b (w':=w') b').nth k _ hy).2.1)
   have k0:(0:Int)≤(k:Int):=by omega
   have k1:(k:Int)<(ns:Int):=by omega
   obtain⟨q,hq⟩:=Nm ((y==s))
   have hQ:=@JZ y s
   rw[← hq] at hQ
   replace hy:=Hy hy
   replace hq:=Hy hq
   replace hQ:=Hy hQ
   go_upto_region 4 with fail
   clear c0
   refine ZR ?_
   refine ZQ ?_
   refine ZP (c:=.slice (some ⟨b,off,none⟩) ns cs) (fun w hw=>by have:=(aT.b hw.drew).cell 0 (.slice (some ⟨b,off,none⟩) ns cs) rfl;go_simp;first|done|rfl) ?_
   refine ZM ?_
   refine ZP (c:=.pointer (some ⟨b,off+k,none⟩)) (fun w _=>by have:=k0;have:=k1;go_simp;first|done|rfl) ?_
   refine ZP (c:=.slice Ay y.length cy) (fun w hw=>by have:=E1.out _ hw.drew;go_simp;first|done|rfl) ?_
   refine uR rfl rfl rfl rfl _ rfl rfl y rfl (fun w hw=>G1.out _ hw.drew) zZ ?_
   refine ZM ?_
   refine uR rfl rfl rfl rfl _ rfl rfl s hs.out (fun w hw=>rs.b (bw.trans (hw.drew.mono bw.size))) zZ ?_
   refine jN cI.refl rfl rfl rfl rfl _ _ _ _ _ rfl pB pB (c:=.bool q) (fun w=>hQ.out _ _ w) zZ ?_
   refine bO fun w2 hw2=>aF ?_
   have b2:=bw.trans (hw2.drew.mono bw.size)
   have aT2:=aT.b hw2.drew
   have zT2:=zT.b hw2.drew
   have hWs2:H+2≤w2.heap.size:=Nat.le_trans hWs hw2.drew.size
   clear hw2 bw aT zT E1 G1 hWs
   cases q
   ·have hno2:Hid (∀ i,i<k+1→ ∀ e,S[i]? =some e→(e.1==s)=false):=Hy (fun i hi e he=>by
     by_cases c:i=k
     ·subst c
      rw[hy.out] at he
      rw[← Option.some.inj he]
      exact hq.out.symm
     ·exact hno.out i OM e he)
    go_wp2
    refine⟨⟨k+1,by omega,by go_num,hno2,b2,aT2,zT2,hWs2⟩,?_⟩
    simp[intOf]
    omega
   ·have hR:=Hy (hR1.out (by
     rw[List.contains_iff_mem,← eq_of_beq hq.out.symm]
     exact List.mem_map.2 ⟨_,List.mem_of_getElem? hy.out,rfl⟩))
    go_wp2_with (first
     |((with_reducible refine LH aT2 3 SY ?_ ?_);rfl)
     |((with_reducible refine SF b2 zT2 hHw (bS (some ⟨b,off,none⟩) At An ns cs nt ct nn cn) 3 ?_ ?_ ?_);rfl;rfl;intro w9 a9 b9 k9 z9))
    refine bodyPost_ret (v:=.tuple #[.agg (bS (some ⟨b,off,none⟩) At An ns cs nt ct nn cn).toArray,.int .i64 10]) ((aK (C:=bS (some ⟨b,off,none⟩) At An ns cs nt ct nn cn) bM bM a9 _ SY rfl 3 rfl KR).trans bM) bM ?_
    exact⟨some ⟨b,off,none⟩,ns,cs,S,by rw[hR.out];rfl,hS.out,rS.b b9,by rw[hR.out],b9⟩
  ·obtain rfl:k=ns:=by omega
   have t1:decide ((k:Int)<(k:Int))=false:=by simp
   have hR3:=hR2.out (by
    cases e:(S.map (·.1)).contains s with
    |false=>rfl
    |true=>
     rw[List.contains_iff_mem] at e
     obtain⟨x,hx,e2⟩:=List.mem_map.1 e
     obtain⟨i,hi,rfl⟩:=List.getElem_of_mem hx
     have:=hno.out i (by rw[← hS.out];exact hi) _ (List.getElem?_eq_getElem hi)
     rw[e2] at this
     simp at this)
   clear hno
   by_cases hb:10000<m
   ·have t2:decide ((10000:Int)<(m:Int))=true:=by simp;omega
    rw[if_pos hb] at hR3
    have hR:=Hy hR3
    clear hR3
    go_wp2_with (first
     |((with_reducible refine LH aT 3 SY ?_ ?_);rfl)
     |((with_reducible refine SF bw zT hHw (bS As At An k cs nt ct nn cn) 3 ?_ ?_ ?_);rfl;rfl;intro w9 a9 b9 k9 z9))
    refine bodyPost_ret (v:=.tuple #[.agg (bS As At An k cs nt ct nn cn).toArray,.int .i64 3]) ((aK (C:=bS As At An k cs nt ct nn cn) bM bM a9 _ SY rfl 3 rfl KR).trans bM) bM ?_
    exact⟨As,k,cs,S,by rw[hR.out];rfl,hS.out,rS.b b9,by rw[hR.out],b9⟩
   ·have t2:decide ((10000:Int)<(m:Int))=false:=by simp;omega
    rw[if_neg hb] at hR3
    by_cases hf:256≤k
    ·have t3:decide ((256:Int)≤(k:Int))=true:=by simp;omega
     rw[if_pos hf] at hR3
     have hR:=Hy hR3
     clear hR3
     go_wp2_with (first
      |((with_reducible refine LH aT 3 SY ?_ ?_);rfl)
      |((with_reducible refine SF bw zT hHw (bS As At An k cs nt ct nn cn) 3 ?_ ?_ ?_);rfl;rfl;intro w9 a9 b9 k9 z9))
     refine bodyPost_ret (v:=.tuple #[.agg (bS As At An k cs nt ct nn cn).toArray,.int .i64 12]) ((aK (C:=bS As At An k cs nt ct nn cn) bM bM a9 _ SY rfl 3 rfl KR).trans bM) bM ?_
     exact⟨As,k,cs,S,by rw[hR.out];rfl,hS.out,rS.b b9,by rw[hR.out],b9⟩
    ·have t3:decide ((256:Int)≤(k:Int))=false:=by simp;omega
     rw[if_neg hf] at hR3
     have hR:=Hy hR3
     clear hR3
     go_upto_region 10 with fail
     have hmade:(wr.alloc (.cells #[] 27)).ownsRow wr.heap.size 27 1 (.slice (some ⟨wr.heap.size,0,none⟩) 0 0) 0 []:=World.ownsRow_made wr #[] 0 LR (by simp[maxLen]) rfl
     have bm:Below wr.heap.size wr (wr.alloc (.cells #[] 27)):=(Below.refl _ _).alloc LR _
     have rm:=((rS.b bw).b bm).1
     have one:=Gg S
     have lS:Hid ((yU S).length=k*1):=Hy (by rw[yU,List.length_map,Nat.mul_one];exact hS.out)
     clear c0
     have c0:=(aT.b bm).cell 0 (.slice As k cs) rfl
     go_upto_region 11 with (at_builtin;refine bT To xJ xK DC hmade zS (yU S) k cs rm lS.out one OM OM rfl (.tmp 34) (.tmp 36) rfl rfl rfl ?_;intro v2 w2 o2 gr2 ob2)
     have b2:=fK bm hmade gr2 zS
     rw[Nat.zero_add,List.nil_append] at o2
     have b2s:=b2.size
     clear c0 rm one lS hmade bm gr2 ob2
     have aT2:=aT.b b2
     have rs2:=rs.b (bw.trans (b2.mono bw.size))
     have bm2:Below w2.heap.size w2 (w2.alloc (.cells #[] 5)):=(Below.refl _ _).alloc LR _
     have om2:cE (w2.alloc (.cells #[] 5)) w2.heap.size (.slice (some ⟨w2.heap.size,0,none⟩) 0 0) []:=cE.made w2 w2.heap.size LR #[] 0 (by simp[maxLen]) rfl
     have rs3:=rs2.b bm2
     go_upto_region 12 with (first
      |(at_builtin;refine aQ om2 bm2 zS m d rs3 hs.out zU rfl (.tmp 39) (.tmp 40) rfl rfl rfl ?_;intro v3 w3 o3 b3 _ _;rw[List.nil_append] at o3;obtain⟨A3,c3,rfl,hc3,_⟩:=cE.form o3;have oq2:=aJ o2 b3;have bq3:Below w3.heap.size w3 (w3.alloc (.cells #[.slice A3 s.length c3] 27)):=(Below.refl _ _).alloc LR _;have oq3:=aJ oq2 bq3)
      |(at_builtin;refine bT To xJ xK DC oq3 (by have:=b2s;have:=b3.size;simp;omega) [.slice A3 s.length c3] 1 1 (Av.rd (t:=27) (heap_alloc_new _ _)) rfl (vF _ _ _) OM OM rfl (.tmp 38) (.tmp 42) rfl rfl rfl ?_;intro v4 w4 o4 gr4 _;obtain⟨A4,c4,rfl,hc4,_⟩:=cM o4))
     have o3q:=cE.b o3 bq3
     have q4:=bU o3q (Fr.of_grown gr4) (fun j hj e=>Az o3q oq3 DC j hj e.symm)
     have b4:=b2.trans (fK (((b3.mono b2s)).trans (bq3.mono (Nat.le_trans b2s b3.size))) oq3 gr4 (by have:=b3.size;simp;omega))
     have aT4:=aT.b b4
     have zT4:=zT.b b4
     have bw4:=bw.trans (b4.mono bw.size)
     have f1:=aT4.cell 1 (.slice At nt ct) rfl
     have f2:=aT4.cell 2 (.slice An nn cn) rfl
     have o4l:=Hy (World.ownsRow.lt o4)
     have q4l:=Hy (World.ownsRow.lt q4)
     clear aT zT bw b2 b4 o3 oq2 oq3 o3q gr4 bq3 b3 aT2 om2 bm2 rs2 rs3 o2
     go_wp2_with ((with_reducible refine SF bw4 zT4 hHw (bS A4 At An (k+1) c4 nt ct nn cn) 3 ?_ ?_ ?_);rfl;rfl;intro w9 a9 b9 k9 z9)
     refine bodyPost_ret (v:=.tuple #[.agg (bS A4 At An (k+1) c4 nt ct nn cn).toArray,.int .i64 0]) ((aK (C:=bS A4 At An (k+1) c4 nt ct nn cn) bM bM a9 _ SY rfl 3 rfl KR).trans bM) bM ?_
     have fr9:Fr (fun j=>j=H+1) w4 w9:=⟨b9.os.trans bw4.os.symm,b9.tape.trans bw4.tape.symm,b9.output.trans bw4.output.symm,by rw[z9];exact Nat.le_refl _,fun j _ hj=>k9 j hj⟩
     have own6:=bU o4 fr9 (fun j hj e=>by have:=(o4l.out j hj).1;omega)
     have q7:=bU q4 fr9 (fun j hj e=>by have:=(q4l.out j hj).1;have:=hWs;omega)
     refine⟨A4,k+1,c4,S++ [(s,(A3,c3))],by rw[hR.out];rfl,by rw[List.length_append,hS.out];rfl,⟨?_,?_⟩,by rw[hR.out];simp,b9⟩
     ·have:=fV own6
      simpa [yU,BE] using this
     ·intro e he
      rcases List.mem_append.1 he with he|he
      ·exact(rS.b b9).2 e he
      ·rw[List.mem_singleton.1 he]
       exact⟨cE.rd q7,hc3⟩
def Gm (S T:List (List UInt8)) (t:FZ):Bool:=fN t && Eb t S T && !(T.contains (lW (yT t))) && decide (T.length<4096)
def kF (S T:List (List UInt8)) (t:FZ):List (List UInt8) × Bool:=if Gm S T t then (T++ [lW (yT t)],true) else (T,false)
theorem Xc128 {p:Prop} (h:p:=by
 refine bodyPost_ret (v:=.tuple #[.agg (bS As At An ns cs nt ct nn cn).toArray,.bool false]) ((aK (C:=bS As At An ns cs nt ct nn cn) bM bM a9 _ SZ rfl 3 l3 KR).trans bM) bM ?_
 exact⟨rfl,b9⟩):p:=h
theorem Xm26 {p q:Prop} (k:q) (h:Hid q→p:=by
 intro hk
 have wone:=kE As At An ns cs nt ct nn cn
 have l3:(bS As At An ns cs nt ct nn cn).length=3:=rfl
 have l4:([.int .u32 (ver:Int),.slice A1 n1 c1,.slice A2 n2 c2,.int .u32 (lock:Int)]:List Value).length=4:=rfl
 have hHw:w.heap.size≤H:=by rw[hH];exact Nat.le_refl _
 have hH2:w.heap.size≤H+2:=by omega
 have h1W:=h1.b bW
 have h2W:=h2.b bW
 have rSW:=rS.b bW
 have rTW:=rT.b bW
 have htW:=ht.b bW
 revert wone l3 l4 hHw hH2 h1W h2W rSW rTW htW;exact hk.out):p:=h (Hy k)
theorem Xm8 {p q:Prop} (k:q) (h:Hid q→p:=by
 intro hk
 obtain⟨W,hW⟩:=Nm (((w.alloc (.cells (bS As At An ns cs nt ct nn cn).toArray 51)).alloc (.cells [.int .u32 (ver:Int),.slice A1 n1 c1,.slice A2 n2 c2,.int .u32 (lock:Int)].toArray 63)).alloc (.cells #[.slice none 0 0,.slice none 0 0,.slice none 0 0] 51))
 obtain⟨H,hH⟩:=Nm (w.heap.size)
 have aW:Av W H 51 (bS As At An ns cs nt ct nn cn):=by rw[hW,hH];exact Av.alloc (heap_alloc2_old _ _ _) _
 have xW:Av W (H+1) 63 [.int .u32 (ver:Int),.slice A1 n1 c1,.slice A2 n2 c2,.int .u32 (lock:Int)]:=by rw[hW,hH];exact Av.alloc (heap_alloc2_new _ _ _) _
 have zW:Av W (H+2) 51 [.slice none 0 0,.slice none 0 0,.slice none 0 0]:=by
  have e:∀ (v:World) (o:Obj),(v.alloc o).heap.size=v.heap.size+1:=fun v o=>by simp
  have:=heap_alloc_new ((w.alloc (.cells (bS As At An ns cs nt ct nn cn).toArray 51)).alloc (.cells [.int .u32 (ver:Int),.slice A1 n1 c1,.slice A2 n2 c2,.int .u32 (lock:Int)].toArray 63)) (.cells #[.slice none 0 0,.slice none 0 0,.slice none 0 0] 51)
  rw[e,e] at this
  rw[hW,hH];exact this
 have bW:Below w.heap.size w W:=by rw[hW];exact(((Below.refl _ _).alloc LR _).alloc zS _).alloc zU _
 have sz:W.heap.size=H+3:=by rw[hW,hH];simp
 have HS:=fun w' r1 r2=>NS ver lock l m A1 A2 n1 n2 c1 c2 hn1 hn2 w' r1 r2
 rw[hs] at HS
 revert W hW H hH aW xW zW bW sz HS;exact hk.out):p:=h (Hy k)
theorem Hp (ver lock:Nat) (_:ver<4294967296) (_:lock<4294967296) (l:List (lI × Sl)) (m:List (fA × Sl)) (A1 A2:Option Addr) (n1 n2 c1 c2:Nat) (hn1:l.length=n1) (hn2:m.length=n2) (S:List (List UInt8 × Sl)) (As At An:Option Addr) (ns cs nt ct nn cn:Nat) (_:S.length=ns) (_:ns≤100000) (T:List (List UInt8)) (_:T.length=nt) (_:nt≤90000) (hs:fN (cQ ver l m lock)=false) (w:World) (ht:fW w) (h1:fB w A1 l) (h2:dH w A2 m) (rS:dU w As S) (rT:fD w At T):
  Calls prog 12 #[.agg (bS As At An ns cs nt ct nn cn).toArray,.agg #[.int .u32 (ver:Int),.slice A1 n1 c1,.slice A2 n2 c2,.int .u32 (lock:Int)]] w fun e w'=>e= .returned (.tuple #[.agg (bS As At An ns cs nt ct nn cn).toArray,.bool false])∧Below w.heap.size w w':=by
 refine Xm8 ?_;intro W hW H hH aW xW zW bW sz HS
 refine Xm26 ?_;intro wone l3 l4 hHw hH2 h1W h2W rSW rTW htW
 replace hW:=Hy hW
 replace hH:=Hy hH
 replace sz:=Hy sz
 replace HS:=Hy HS
 go_enter func12,ntmps12
 go_upto_region 1 with fail
 rw[← hW.out,← hH.out]
 go_wp2_with (first
  |((with_reducible refine LG xW 4 Tg ?_ ?_ ?_ (hn:=l4));rfl;rfl)
  |(go_at_call 37;refine(HS.out W h1W h2W).mono ?_;rintro e w2 ⟨rfl,b2⟩;have B2:=bW.trans (b2.mono bW.size);have a2:=aW.b b2;have x2:=xW.b b2;have z2:=zW.b b2)
  |((with_reducible refine LF a2 3 l3 SZ ?_ ?_);rfl)
  |((with_reducible refine SF B2 z2 hH2 (bS As At An ns cs nt ct nn cn) 3 ?_ ?_ ?_ (hn:=l3) (h1:=wone));rfl;rfl;intro w9 a9 b9 k9 z9))
 exact Xc128
theorem Kc (ver lock:Nat) (_:ver<4294967296) (_:lock<4294967296) (l:List (lI × Sl)) (m:List (fA × Sl)) (A1 A2:Option Addr) (n1 n2 c1 c2:Nat) (hn1:l.length=n1) (hn2:m.length=n2) (S:List (List UInt8 × Sl)) (As At An:Option Addr) (ns cs nt ct nn cn:Nat) (hS:S.length=ns) (hns:ns≤100000) (T:List (List UInt8)) (hT:T.length=nt) (hnt:nt≤90000) (hs:fN (cQ ver l m lock)=true) (htt:Eb (cQ ver l m lock) (S.map (·.1)) T=false) (w:World) (ht:fW w) (h1:fB w A1 l) (h2:dH w A2 m) (rS:dU w As S) (rT:fD w At T):
  Calls prog 12 #[.agg (bS As At An ns cs nt ct nn cn).toArray,.agg #[.int .u32 (ver:Int),.slice A1 n1 c1,.slice A2 n2 c2,.int .u32 (lock:Int)]] w fun e w'=>e= .returned (.tuple #[.agg (bS As At An ns cs nt ct nn cn).toArray,.bool false])∧Below w.heap.size w w':=by
 obtain⟨⟨_,k1,k2⟩,_⟩:=(iE _).1 hs
 simp only[cQ,List.length_map] at k1 k2
 refine Xm8 ?_;intro W hW H hH aW xW zW bW sz HS
 have HTo:=fun w' r1 r2 rs rt=>EF ver lock l m A1 A2 n1 n2 c1 c2 hn1 hn2 OM OM S As ns cs hS OM T At nt ct hT OM w' r1 r2 rs rt _ rfl
 rw[htt] at HTo
 refine Xm26 ?_;intro wone l3 l4 hHw hH2 h1W h2W rSW rTW htW
 replace hW:=Hy hW
 replace hH:=Hy hH
 replace sz:=Hy sz
 replace HS:=Hy HS
 replace HTo:=Hy HTo
 go_enter func12,ntmps12
 go_upto_region 1 with fail
 rw[← hW.out,← hH.out]
 go_wp2_with (first
  |((with_reducible refine LG xW 4 Tg ?_ ?_ ?_ (hn:=l4));rfl;rfl)
  |(go_at_call 37;refine(HS.out W h1W h2W).mono ?_;rintro e w2 ⟨rfl,b2⟩;have B2:=bW.trans (b2.mono bW.size);have a2:=aW.b b2;have x2:=xW.b b2;have z2:=zW.b b2;have c0:=a2.cell 0 (.slice As ns cs) rfl;have c1:=a2.cell 1 (.slice At nt ct) rfl;have l1:=h1W.b b2;have l2:=h2W.b b2;have qS:=rSW.b b2;have qT:=rTW.b b2;have t2:=htW.b b2)
  |((with_reducible refine LG x2 4 Tg ?_ ?_ ?_ (hn:=l4));rfl;rfl)
  |(go_at_call 38;refine(HTo.out w2 l1 l2 qS qT).mono ?_;rintro e w3 ⟨rfl,b3⟩;have B3:=B2.trans (b3.mono B2.size);have a3:=a2.b b3;have x3:=x2.b b3;have z3:=z2.b b3)
  |((with_reducible refine LF a3 3 l3 SZ ?_ ?_);rfl)
  |((with_reducible refine SF B3 z3 hH2 (bS As At An ns cs nt ct nn cn) 3 ?_ ?_ ?_ (hn:=l3) (h1:=wone));rfl;rfl;intro w9 a9 b9 k9 z9))
 exact Xc128
theorem Xm69 {p q:Prop} (k:q) (h:Hid q→p:=by
 intro hk
 have HTo:=fun w' r1 r2 rs rt=>EF ver lock l m A1 A2 n1 n2 c1 c2 hn1 hn2 OM OM S As ns cs hS OM T At nt ct hT OM w' r1 r2 rs rt _ rfl
 rw[htt] at HTo
 have HId:=fun w' r1 r2 t=>EJ ver lock hv hlk l m A1 A2 n1 n2 c1 c2 hn1 hn2 w' r1 r2 t hs
 obtain⟨I,hI⟩:=Nm (lW (yT (cQ ver l m lock)))
 have I32:I.length=32:=by rw[hI];exact fP _
 rw[← hI] at HId hco
 have HCo:=fun w' G (r:fD w' At T) (g:Av w' G 23 [.slice At nt ct])=>BJ T I I32 At nt ct G w' r hT OM g
 rw[hco] at HCo
 have hzi:(List.replicate 32 (0:UInt8)).length=32:=by simp
 have k32:=Hy (show (I.map bv).length=32 by rw[List.length_map,I32])
 have ione:=Hy (show (I.map bv).all (·.oneCell')=true by rw[List.all_eq_true];exact dB I)
 revert HTo I hco HId hI I32 HCo hzi k32 ione;exact hk.out):p:=h (Hy k)
theorem Xc47 {p:Prop} (h:p:=by
 go_wp2_with (first
  |((with_reducible refine LG i6 32 SS ?_ ?_ ?_ (hn:=k32.out));rfl;rfl)
  |(go_at_call 64;refine(HCo.out w6 w5.heap.size qT6 g6).mono ?_;rintro e w7 ⟨rfl,b7⟩;have B7:=B6.trans (b7.mono B6.size);have a7:=a6.b b7;have z7:=z6.b b7;have i7:=i6.b b7;have qT7:=qT6.b b7;have e7:=a7.cell 1 (.slice At nt ct) rfl)
  |((with_reducible refine LF a7 3 l3 SZ ?_ ?_);rfl)
  |((with_reducible refine SF B7 z7 hH2 (bS As At An ns cs nt ct nn cn) 3 ?_ ?_ ?_ (hn:=l3) (h1:=wone));rfl;rfl;intro w9 a9 b9 k9 z9))
 refine bodyPost_ret (v:=.tuple #[.agg (bS As At An ns cs nt ct nn cn).toArray,.bool false]) ((aK (C:=bS As At An ns cs nt ct nn cn) bM bM a9 _ SZ rfl 3 l3 KR).trans bM) bM ?_
 exact⟨rfl,b9⟩):p:=h
theorem Kd (ver lock:Nat) (hv:ver<4294967296) (hlk:lock<4294967296) (l:List (lI × Sl)) (m:List (fA × Sl)) (A1 A2:Option Addr) (n1 n2 c1 c2:Nat) (hn1:l.length=n1) (hn2:m.length=n2) (S:List (List UInt8 × Sl)) (As At An:Option Addr) (ns cs nt ct nn cn:Nat) (hS:S.length=ns) (hns:ns≤100000) (T:List (List UInt8)) (hT:T.length=nt) (hnt:nt≤90000) (hs:fN (cQ ver l m lock)=true) (htt:Eb (cQ ver l m lock) (S.map (·.1)) T=true) (hco:T.contains (lW (yT (cQ ver l m lock)))=true) (w:World) (ht:fW w) (h1:fB w A1 l) (h2:dH w A2 m) (rS:dU w As S) (rT:fD w At T):
  Calls prog 12 #[.agg (bS As At An ns cs nt ct nn cn).toArray,.agg #[.int .u32 (ver:Int),.slice A1 n1 c1,.slice A2 n2 c2,.int .u32 (lock:Int)]] w fun e w'=>e= .returned (.tuple #[.agg (bS As At An ns cs nt ct nn cn).toArray,.bool false])∧Below w.heap.size w w':=by
 obtain⟨⟨_,k1,k2⟩,_⟩:=(iE _).1 hs
 simp only[cQ,List.length_map] at k1 k2
 refine Xm8 ?_;intro W hW H hH aW xW zW bW sz HS
 refine Xm69 ?_;try clear hco;intro HTo I hco HId hI I32 HCo hzi k32 ione
 refine Xm26 ?_;intro wone l3 l4 hHw hH2 h1W h2W rSW rTW htW
 replace hW:=Hy hW
 replace hH:=Hy hH
 replace sz:=Hy sz
 replace HS:=Hy HS
 replace HTo:=Hy HTo
 replace HId:=Hy HId
 replace HCo:=Hy HCo
 replace hI:=Hy hI
 replace hco:=Hy hco
 replace I32:=Hy I32
 go_enter func12,ntmps12
 go_upto_region 1 with fail
 rw[← hW.out,← hH.out]
 go_upto_region 4 with (first
  |((with_reducible refine LG xW 4 Tg ?_ ?_ ?_ (hn:=l4));rfl;rfl)
  |(go_at_call 37;refine(HS.out W h1W h2W).mono ?_;rintro e w2 ⟨rfl,b2⟩;have B2:=bW.trans (b2.mono bW.size);have a2:=aW.b b2;have x2:=xW.b b2;have z2:=zW.b b2;have c0:=a2.cell 0 (.slice As ns cs) rfl;have c1:=a2.cell 1 (.slice At nt ct) rfl;have l1:=h1W.b b2;have l2:=h2W.b b2;have qS:=rSW.b b2;have qT:=rTW.b b2;have t2:=htW.b b2)
  |((with_reducible refine LG x2 4 Tg ?_ ?_ ?_ (hn:=l4));rfl;rfl)
  |(go_at_call 38;refine(HTo.out w2 l1 l2 qS qT).mono ?_;rintro e w3 ⟨rfl,b3⟩;have B3:=B2.trans (b3.mono B2.size);have a3:=a2.b b3;have x3:=x2.b b3;have z3:=z2.b b3;have l13:=l1.b b3;have l23:=l2.b b3;have qT3:=qT.b b3;have t3:=t2.b b3)
  |((with_reducible refine LG x3 4 Tg ?_ ?_ ?_ (hn:=l4));rfl;rfl)
  |(go_at_call 27;refine(HId.out w3 l13 l23 t3).mono ?_;rintro e w4 ⟨rfl,b4⟩)
  |((with_reducible refine bF 35 ((Below.refl w4.heap.size w4).alloc LR _) (heap_alloc_new _ _) LR (I.map bv) ?_ ?_ 32 k32.out ?_ ?_ ?_ ?_);rfl;rfl;kernel_rfl;(first|rfl|simp);exact ione.out;intro w5 a5 b5 k5 z5;clear k5;replace z5:=Hy z5))
 obtain⟨G,hG⟩:=Nm (w4.heap.size)
 rw[← hG] at a5 ⊢
 have b45:=b4.trans (b5.mono b4.size)
 have B5:=B3.trans (b45.mono B3.size)
 have aa:=a3.b b45
 have zz:=z3.b b45
 have qT5:=qT3.b b45
 have d1:=aa.cell 1 (.slice At nt ct) rfl
 replace hG:=Hy hG
 go_upto_region 5 with (go_at_call 39;refine(JL At nt ct w5).mono ?_;rintro e w6 ⟨rfl,h6⟩;replace h6:=Hy h6)
 have b6:Below w5.heap.size w5 w6:=by rw[h6.out];exact(Below.refl _ _).alloc LR _
 have g6:Av w6 w5.heap.size 23 [.slice At nt ct]:=by rw[h6.out];exact heap_alloc_new _ _
 have B6:=B5.trans (b6.mono B5.size)
 have a6:=aa.b b6
 have z6:=zz.b b6
 have i6:=a5.b b6
 have qT6:=qT5.b b6
 have e1:=a6.cell 1 (.slice At nt ct) rfl
 clear b2 b3 b4 b5 b45 c0 c1 d1
 exact Xc47
theorem EK (ver lock:Nat) (hv:ver<4294967296) (hlk:lock<4294967296) (l:List (lI × Sl)) (m:List (fA × Sl)) (A1 A2:Option Addr) (n1 n2 c1 c2:Nat) (hn1:l.length=n1) (hn2:m.length=n2) (S:List (List UInt8 × Sl)) (As At An:Option Addr) (ns cs nt ct nn cn:Nat) (hS:S.length=ns) (hns:ns≤100000) (T:List (List UInt8)) (hT:T.length=nt) (hnt:nt≤90000) (hs:fN (cQ ver l m lock)=true) (htt:Eb (cQ ver l m lock) (S.map (·.1)) T=true) (hco:T.contains (lW (yT (cQ ver l m lock)))=false) (hfu:4096≤nt) (w:World) (ht:fW w) (h1:fB w A1 l) (h2:dH w A2 m) (rS:dU w As S) (rT:fD w At T):
  Calls prog 12 #[.agg (bS As At An ns cs nt ct nn cn).toArray,.agg #[.int .u32 (ver:Int),.slice A1 n1 c1,.slice A2 n2 c2,.int .u32 (lock:Int)]] w fun e w'=>e= .returned (.tuple #[.agg (bS As At An ns cs nt ct nn cn).toArray,.bool false])∧Below w.heap.size w w':=by
 obtain⟨⟨_,k1,k2⟩,_⟩:=(iE _).1 hs
 simp only[cQ,List.length_map] at k1 k2
 refine Xm8 ?_;intro W hW H hH aW xW zW bW sz HS
 refine Xm69 ?_;try clear hco;intro HTo I hco HId hI I32 HCo hzi k32 ione
 refine Xm26 ?_;intro wone l3 l4 hHw hH2 h1W h2W rSW rTW htW
 have tf:decide ((4096:Int)≤(nt:Int))=true:=by simp;omega
 replace hW:=Hy hW
 replace hH:=Hy hH
 replace sz:=Hy sz
 replace HS:=Hy HS
 replace HTo:=Hy HTo
 replace HId:=Hy HId
 replace HCo:=Hy HCo
 replace hI:=Hy hI
 replace hco:=Hy hco
 replace I32:=Hy I32
 go_enter func12,ntmps12
 go_upto_region 1 with fail
 rw[← hW.out,← hH.out]
 go_upto_region 4 with (first
  |((with_reducible refine LG xW 4 Tg ?_ ?_ ?_ (hn:=l4));rfl;rfl)
  |(go_at_call 37;refine(HS.out W h1W h2W).mono ?_;rintro e w2 ⟨rfl,b2⟩;have B2:=bW.trans (b2.mono bW.size);have a2:=aW.b b2;have x2:=xW.b b2;have z2:=zW.b b2;have c0:=a2.cell 0 (.slice As ns cs) rfl;have c1:=a2.cell 1 (.slice At nt ct) rfl;have l1:=h1W.b b2;have l2:=h2W.b b2;have qS:=rSW.b b2;have qT:=rTW.b b2;have t2:=htW.b b2)
  |((with_reducible refine LG x2 4 Tg ?_ ?_ ?_ (hn:=l4));rfl;rfl)
  |(go_at_call 38;refine(HTo.out w2 l1 l2 qS qT).mono ?_;rintro e w3 ⟨rfl,b3⟩;have B3:=B2.trans (b3.mono B2.size);have a3:=a2.b b3;have x3:=x2.b b3;have z3:=z2.b b3;have l13:=l1.b b3;have l23:=l2.b b3;have qT3:=qT.b b3;have t3:=t2.b b3)
  |((with_reducible refine LG x3 4 Tg ?_ ?_ ?_ (hn:=l4));rfl;rfl)
  |(go_at_call 27;refine(HId.out w3 l13 l23 t3).mono ?_;rintro e w4 ⟨rfl,b4⟩)
  |((with_reducible refine bF 35 ((Below.refl w4.heap.size w4).alloc LR _) (heap_alloc_new _ _) LR (I.map bv) ?_ ?_ 32 k32.out ?_ ?_ ?_ ?_);rfl;rfl;kernel_rfl;(first|rfl|simp);exact ione.out;intro w5 a5 b5 k5 z5;clear k5;replace z5:=Hy z5))
 obtain⟨G,hG⟩:=Nm (w4.heap.size)
 rw[← hG] at a5 ⊢
 have b45:=b4.trans (b5.mono b4.size)
 have B5:=B3.trans (b45.mono B3.size)
 have aa:=a3.b b45
 have zz:=z3.b b45
 have qT5:=qT3.b b45
 have d1:=aa.cell 1 (.slice At nt ct) rfl
 replace hG:=Hy hG
 go_upto_region 5 with (go_at_call 39;refine(JL At nt ct w5).mono ?_;rintro e w6 ⟨rfl,h6⟩;replace h6:=Hy h6)
 have b6:Below w5.heap.size w5 w6:=by rw[h6.out];exact(Below.refl _ _).alloc LR _
 have g6:Av w6 w5.heap.size 23 [.slice At nt ct]:=by rw[h6.out];exact heap_alloc_new _ _
 have B6:=B5.trans (b6.mono B5.size)
 have a6:=aa.b b6
 have z6:=zz.b b6
 have i6:=a5.b b6
 have qT6:=qT5.b b6
 have e1:=a6.cell 1 (.slice At nt ct) rfl
 clear b2 b3 b4 b5 b45 c0 c1 d1
 exact Xc47
def Df (b n:Nat) (T:List (List UInt8)):VP:=fun v w=>w.ownsRow b 35 32 v n (eB T)
theorem Df.mono {b n:Nat} {T:List (List UInt8)} {v:Value} {w w':World} (h:cI w w'):Df b n T v w→Df b n T v w':=fun o=>aJ o h
def Ke (I:List UInt8):VP:=fun v w=>∃ k,v= .slice (some ⟨k,0,none⟩) 1 1∧Rd w (some ⟨k,0,none⟩) (I.map bv)
theorem Ke.mono {I:List UInt8} {v:Value} {w w':World} (h:cI w w'):Ke I v w→Ke I v w':=by
 rintro⟨k,rfl,h1⟩
 exact⟨k,rfl,h1.b h⟩
theorem Kf:(prog.info? 23).map (·.size)=some 1:=by kernel_rfl
theorem EL:(prog.info? 35).map (fun i=>(i.size,i.bytes))=some (32,32):=by kernel_rfl
theorem EM:(prog.info? 35).map (fun i=>(i.zero.map (·.cells.size)))=some (some 32):=by kernel_rfl
theorem Kg (ver lock:Nat) (hv:ver<4294967296) (hlk:lock<4294967296) (l:List (lI × Sl)) (m:List (fA × Sl)) (A1 A2:Option Addr) (n1 n2 c1 c2:Nat) (hn1:l.length=n1) (hn2:m.length=n2) (S:List (List UInt8 × Sl)) (As At An:Option Addr) (ns cs nt ct nn cn:Nat) (hS:S.length=ns) (hns:ns≤100000) (T:List (List UInt8)) (hT:T.length=nt) (hnt:nt≤90000) (hs:fN (cQ ver l m lock)=true) (htt:Eb (cQ ver l m lock) (S.map (·.1)) T=true) (hco:T.contains (lW (yT (cQ ver l m lock)))=false) (hfu:nt<4096) (w:World) (ht:fW w) (h1:fB w A1 l) (h2:dH w A2 m) (rS:dU w As S) (rT:fD w At T):
  Calls prog 12 #[.agg (bS As At An ns cs nt ct nn cn).toArray,.agg #[.int .u32 (ver:Int),.slice A1 n1 c1,.slice A2 n2 c2,.int .u32 (lock:Int)]] w fun e w'=>∃ A' c',e= .returned (.tuple #[.agg (bS As A' An ns cs (nt+1) c' nn cn).toArray,.bool true])∧fD w' A' (T++ [lW (yT (cQ ver l m lock))])∧Below w.heap.size w w':=by
 obtain⟨⟨_,k1,k2⟩,_⟩:=(iE _).1 hs
 simp only[cQ,List.length_map] at k1 k2
 refine Xm8 ?_;intro W hW H hH aW xW zW bW sz HS
 have HTo:=fun w' r1 r2 rs rt=>EF ver lock l m A1 A2 n1 n2 c1 c2 hn1 hn2 OM OM S As ns cs hS OM T At nt ct hT OM w' r1 r2 rs rt _ rfl
 rw[htt] at HTo
 have HId:=fun w' r1 r2 t=>EJ ver lock hv hlk l m A1 A2 n1 n2 c1 c2 hn1 hn2 w' r1 r2 t hs
 obtain⟨I,hI⟩:=Nm (lW (yT (cQ ver l m lock)))
 have I32:I.length=32:=by rw[hI];exact fP _
 rw[← hI] at HId hco ⊢
 have HCo:=fun w' G (r:fD w' At T) (g:Av w' G 23 [.slice At nt ct])=>BJ T I I32 At nt ct G w' r hT OM g
 rw[hco] at HCo
 have hzi:(List.replicate 32 (0:UInt8)).length=32:=by simp
 have k32:=Hy (show (I.map bv).length=32 by rw[List.length_map,I32])
 have ione:=Hy (show (I.map bv).all (·.oneCell')=true by rw[List.all_eq_true];exact dB I)
 refine Xm26 ?_;intro wone l3 l4 hHw hH2 h1W h2W rSW rTW htW
 have tf:decide ((4096:Int)≤(nt:Int))=false:=by simp;omega
 have HCl:=fun w' (r:fD w' At T)=>OQ T rT.2 At nt ct w' r.1 hT OM
 replace hW:=Hy hW
 replace hH:=Hy hH
 replace sz:=Hy sz
 replace HS:=Hy HS
 replace HTo:=Hy HTo
 replace HId:=Hy HId
 replace HCo:=Hy HCo
 replace HCl:=Hy HCl
 replace hI:=Hy hI
 replace hco:=Hy hco
 replace I32:=Hy I32
 go_enter func12,ntmps12
 go_upto_region 1 with fail
 rw[← hW.out,← hH.out]
 go_upto_region 4 with (first
  |((with_reducible refine LG xW 4 Tg ?_ ?_ ?_ (hn:=l4));rfl;rfl)
  |(go_at_call 37;refine(HS.out W h1W h2W).mono ?_;rintro e w2 ⟨rfl,b2⟩;have B2:=bW.trans (b2.mono bW.size);have a2:=aW.b b2;have x2:=xW.b b2;have z2:=zW.b b2;have c0:=a2.cell 0 (.slice As ns cs) rfl;have c1:=a2.cell 1 (.slice At nt ct) rfl;have l1:=h1W.b b2;have l2:=h2W.b b2;have qS:=rSW.b b2;have qT:=rTW.b b2;have t2:=htW.b b2)
  |((with_reducible refine LG x2 4 Tg ?_ ?_ ?_ (hn:=l4));rfl;rfl)
  |(go_at_call 38;refine(HTo.out w2 l1 l2 qS qT).mono ?_;rintro e w3 ⟨rfl,b3⟩;have B3:=B2.trans (b3.mono B2.size);have a3:=a2.b b3;have x3:=x2.b b3;have z3:=z2.b b3;have l13:=l1.b b3;have l23:=l2.b b3;have qT3:=qT.b b3;have t3:=t2.b b3)
  |((with_reducible refine LG x3 4 Tg ?_ ?_ ?_ (hn:=l4));rfl;rfl)
  |(go_at_call 27;refine(HId.out w3 l13 l23 t3).mono ?_;rintro e w4 ⟨rfl,b4⟩)
  |((with_reducible refine bF 35 ((Below.refl w4.heap.size w4).alloc LR _) (heap_alloc_new _ _) LR (I.map bv) ?_ ?_ 32 k32.out ?_ ?_ ?_ ?_);rfl;rfl;kernel_rfl;(first|rfl|simp);exact ione.out;intro w5 a5 b5 k5 z5;clear k5;replace z5:=Hy z5))
 obtain⟨G,hG⟩:=Nm (w4.heap.size)
 rw[← hG] at a5 ⊢
 have b45:=b4.trans (b5.mono b4.size)
 have B5:=B3.trans (b45.mono B3.size)
 have aa:=a3.b b45
 have zz:=z3.b b45
 have qT5:=qT3.b b45
 have d1:=aa.cell 1 (.slice At nt ct) rfl
 replace hG:=Hy hG
 go_upto_region 5 with (go_at_call 39;refine(JL At nt ct w5).mono ?_;rintro e w6 ⟨rfl,h6⟩;replace h6:=Hy h6)
 have b6:Below w5.heap.size w5 w6:=by rw[h6.out];exact(Below.refl _ _).alloc LR _
 have g6:Av w6 w5.heap.size 23 [.slice At nt ct]:=by rw[h6.out];exact heap_alloc_new _ _
 have B6:=B5.trans (b6.mono B5.size)
 have a6:=aa.b b6
 have z6:=zz.b b6
 have i6:=a5.b b6
 have qT6:=qT5.b b6
 have e1:=a6.cell 1 (.slice At nt ct) rfl
 clear b2 b3 b4 b5 b45 c0 c1 d1
 go_upto_region 7 with (first
  |((with_reducible refine LG i6 32 SS ?_ ?_ ?_ (hn:=k32.out));rfl;rfl)
  |(go_at_call 64;refine(HCo.out w6 w5.heap.size qT6 g6).mono ?_;rintro e w7 ⟨rfl,b7⟩;have B7:=B6.trans (b7.mono B6.size);have a7:=a6.b b7;have z7:=z6.b b7;have i7:=i6.b b7;have qT7:=qT6.b b7;have e7:=a7.cell 1 (.slice At nt ct) rfl))
 have hb7:H+3≤w7.heap.size:=by have q1:=zz.lt;have q2:=b6.size;have q3:=b7.size;omega
 refine bL 5 [(2,Df w7.heap.size nt T),(4,Ke I)] cI KR KR KR KR KR cI.refl cI.trans (by intro p hp v w w' hR;simp only[List.mem_cons,List.not_mem_nil,or_false] at hp;rcases hp with rfl|rfl;exact Df.mono hR;exact Ke.mono hR) ?_
 repeat refine ZP (fun w hw=>by have:=(a7.b hw.drew).cell 1 _ rfl;exact zG) ?_
 refine cO _ rfl (fun w hw=>aM rfl (bI rfl (cG 40 #[.slice At nt ct] (by go_simp) ((HCl.out w (qT7.b hw.drew)).mono ?_)))) ?_
 ·rintro e w' ⟨v,rfl,o,b⟩
  exact⟨v,rfl,b,o.lowS hw.drew.size⟩
 refine ZP (c:=.agg (I.map bv).toArray) (fun w hw=>aE (i7.b hw.drew) _ _ rfl rfl _ 32 k32.out SS rfl KR) ?_
 refine cO _ rfl (fun w hw=>bN rfl (aM rfl (bI rfl ?_))) ?_
 ·rw[qR Tj EL EM DC DC w (I.map bv) k32.out (.agg (I.map bv).toArray) rfl _ rfl rfl]
  exact⟨(Below.refl _ _).alloc LR _,w.heap.size,rfl,Av.rd (t:=35) (heap_alloc_new _ _)⟩
 refine bO fun w8 hw8=>aC rfl rfl fun v1 hv1=>aC rfl rfl fun v2 hv2=>aF ?_
 obtain⟨kq,rfl,q1⟩:=hv2
 have B8:Below w7.heap.size w7 w8:=hw8.drew
 have hsz:=B8.size
 obtain⟨Av1,cv1,rfl,_⟩:=cM hv1
 refine Xm140 ?_
 have l1':(I.map bv).length=1*32:=k32.out
 have bo:=dB I
 go_upto_region 8 with (first
  |(at_builtin;refine bT Tj EL EM DC hv1 hsz (I.map bv) 1 1 q1 l1' bo OM OM rfl (.tmp 46) (.tmp 48) rfl rfl rfl ?_;intro v4 w9 o4 g4 _;have B9:=fK B8 hv1 g4 hsz;have a9:=a7.b B9;obtain⟨A4,c4,rfl,hc4,_⟩:=cM o4)
  |(refine iI rfl 23 _ _ rfl rfl a9 (show 1<3 by decide) A4 (nt+1) c4 rfl Kf ?_))
 have S5:=a9.set 1 (.slice A4 (nt+1) c4)
 have z9:=(z7.b B9).other ⟨H,1,none⟩ (.slice A4 (nt+1) c4) (by show H+2≠H;omega)
 have b9':=(B7.trans (B9.mono B7.size)).setCell (p:=⟨H,1,none⟩) hHw (.slice A4 (nt+1) c4)
 have own5:=bU o4 (Fr.setCell w9 ⟨H,1,none⟩ (.slice A4 (nt+1) c4)) (fun k hk e=>by
  have:=(World.ownsRow.lt o4 k hk).1
  simp only at e
  omega)
 obtain⟨wX,hwX⟩:=Nm (w9.setCell ⟨H,1,none⟩ (.slice A4 (nt+1) c4))
 rw[← hwX] at S5 z9 b9' own5 ⊢
 have aX:Av wX H 51 (bS As A4 An ns cs (nt+1) c4 nn cn):=S5
 have wone':=kE As A4 An ns cs (nt+1) c4 nn cn
 have l3':(bS As A4 An ns cs (nt+1) c4 nn cn).length=3:=rfl
 replace hwX:=Hy hwX
 clear S5 a9 o4 g4
 go_wp2_with (first
  |((with_reducible refine LF aX 3 l3' SZ ?_ ?_);rfl)
  |((with_reducible refine SF b9' z9 hH2 (bS As A4 An ns cs (nt+1) c4 nn cn) 3 ?_ ?_ ?_ (hn:=l3') (h1:=wone'));rfl;rfl;intro wY aY bY kY zY))
 refine bodyPost_ret (v:=.tuple #[.agg (bS As A4 An ns cs (nt+1) c4 nn cn).toArray,.bool true]) ((aK (C:=bS As A4 An ns cs (nt+1) c4 nn cn) bM bM aY _ SZ rfl 3 l3' KR).trans bM) bM ?_
 have own6:=bU own5 (S:=fun k=>k=H+2) ⟨bY.os.trans b9'.os.symm,bY.tape.trans b9'.tape.symm,bY.output.trans b9'.output.symm,by rw[zY];exact Nat.le_refl _,fun k _ hk=>kY k hk⟩ (fun k hk e=>by
  have:=(World.ownsRow.lt own5 k hk).1
  omega)
 refine⟨A4,c4,rfl,⟨?_,?_⟩,bY⟩
 ·have:=fV own6
  rw[← Gd,← xG] at this
  exact this
 ·intro e he
  rcases List.mem_append.1 he with he|he
  ·exact rT.2 e he
  ·rw[List.mem_singleton.1 he]
   exact I32.out
theorem NZ (ver lock:Nat) (hv:ver<4294967296) (hlk:lock<4294967296) (l:List (lI × Sl)) (m:List (fA × Sl)) (A1 A2:Option Addr) (n1 n2 c1 c2:Nat) (hn1:l.length=n1) (hn2:m.length=n2) (S:List (List UInt8 × Sl)) (As At An:Option Addr) (ns cs nt ct nn cn:Nat) (hS:S.length=ns) (hns:ns≤100000) (T:List (List UInt8)) (hT:T.length=nt) (hnt:nt≤90000) (w:World) (ht:fW w) (h1:fB w A1 l) (h2:dH w A2 m) (rS:dU w As S) (rT:fD w At T):
  Calls prog 12 #[.agg (bS As At An ns cs nt ct nn cn).toArray,.agg #[.int .u32 (ver:Int),.slice A1 n1 c1,.slice A2 n2 c2,.int .u32 (lock:Int)]] w fun e w'=>∃ A' n' c',e= .returned (.tuple #[.agg (bS As A' An ns cs n' c' nn cn).toArray,.bool (kF (S.map (·.1)) T (cQ ver l m lock)).2])∧(kF (S.map (·.1)) T (cQ ver l m lock)).1.length=n'∧fD w' A' (kF (S.map (·.1)) T (cQ ver l m lock)).1∧Below w.heap.size w w':=by
 unfold kF Gm
 have no:(Calls prog 12 #[.agg (bS As At An ns cs nt ct nn cn).toArray,.agg #[.int .u32 (ver:Int),.slice A1 n1 c1,.slice A2 n2 c2,.int .u32 (lock:Int)]] w fun e w'=>e= .returned (.tuple #[.agg (bS As At An ns cs nt ct nn cn).toArray,.bool false])∧Below w.heap.size w w')→(Calls prog 12 #[.agg (bS As At An ns cs nt ct nn cn).toArray,.agg #[.int .u32 (ver:Int),.slice A1 n1 c1,.slice A2 n2 c2,.int .u32 (lock:Int)]] w fun e w'=>∃ A' n' c',e= .returned (.tuple #[.agg (bS As A' An ns cs n' c' nn cn).toArray,.bool false])∧T.length=n'∧fD w' A' T∧Below w.heap.size w w'):=fun h=>h.mono fun e w' ⟨h1,h2⟩=>⟨At,nt,ct,h1,hT,rT.b h2,h2⟩
 cases hs:fN (cQ ver l m lock) with
 |false=>
  simp only[Bool.false_and,Bool.false_eq_true,if_false]
  exact no (Hp ver lock hv hlk l m A1 A2 n1 n2 c1 c2 hn1 hn2 S As At An ns cs nt ct nn cn hS hns T hT hnt hs w ht h1 h2 rS rT)
 |true=>
  cases htt:Eb (cQ ver l m lock) (S.map (·.1)) T with
  |false=>
   simp only[Bool.and_false,Bool.false_and,Bool.false_eq_true,if_false]
   exact no (Kc ver lock hv hlk l m A1 A2 n1 n2 c1 c2 hn1 hn2 S As At An ns cs nt ct nn cn hS hns T hT hnt hs htt w ht h1 h2 rS rT)
  |true=>
   cases hco:T.contains (lW (yT (cQ ver l m lock))) with
   |true=>
    simp only[Bool.not_true,Bool.and_false,Bool.false_and,Bool.false_eq_true,if_false]
    exact no (Kd ver lock hv hlk l m A1 A2 n1 n2 c1 c2 hn1 hn2 S As At An ns cs nt ct nn cn hS hns T hT hnt hs htt hco w ht h1 h2 rS rT)
   |false=>
    by_cases hfu:T.length<4096
    ·have e:(true && true && !false && decide (T.length<4096))=true:=by simp[hfu]
     rw[if_pos e]
     exact(Kg ver lock hv hlk l m A1 A2 n1 n2 c1 c2 hn1 hn2 S As At An ns cs nt ct nn cn hS hns T hT hnt hs htt hco OM w ht h1 h2 rS rT).mono fun e w' ⟨A',c',h1,h2,h3⟩=>⟨A',nt+1,c',h1,by simp[hT],h2,h3⟩
    ·have e:¬ (true && true && !false && decide (T.length<4096))=true:=by simp[hfu]
     rw[if_neg e]
     exact no (EK ver lock hv hlk l m A1 A2 n1 n2 c1 c2 hn1 hn2 S As At An ns cs nt ct nn cn hS hns T hT hnt hs htt hco OM w ht h1 h2 rS rT)
theorem ET:(prog.info? 35).map (fun i=>(i.size,i.bytes))=some (32,32):=by kernel_rfl
theorem EU:(prog.info? 35).map (fun i=>(i.zero.map (·.cells.size)))=some (some 32):=by kernel_rfl
theorem Kq (l:List (List UInt8)):∀ u ∈ Jx l,u.oneCell'=true:=fun u hu=>by
 rw[Jx,List.mem_flatMap] at hu
 obtain⟨y,_,hu⟩:=hu
 exact dB y u hu
theorem QB (ver lock:Nat) (hv:ver<4294967296) (hlk:lock<4294967296) (l:List (lI × Sl)) (m:List (fA × Sl)) (A1 A2:Option Addr) (n1 n2 c1 c2:Nat) (hn1:l.length=n1) (hn2:m.length=n2) (hm1:n1≤100000) (hm2:n2≤100000) (S:List (List UInt8 × Sl)) (As At An:Option Addr) (ns cs nt ct nn cn:Nat) (hS:S.length=ns) (hns:ns≤100000) (T:List (List UInt8)) (hT:T.length=nt) (hnt:nt≤90000) (w:World) (h1:fB w A1 l) (h2:dH w A2 m) (rS:dU w As S) (rT:fD w At T):
  Calls prog 14 #[.agg (bS As At An ns cs nt ct nn cn).toArray,.agg #[.int .u32 (ver:Int),.slice A1 n1 c1,.slice A2 n2 c2,.int .u32 (lock:Int)]] w fun e w'=>∃ A' n' c',e= .returned (.tuple #[.agg (bS As A' An ns cs n' c' nn cn).toArray,.bool (kF (S.map (·.1)) T (cQ ver l m lock)).2])∧(kF (S.map (·.1)) T (cQ ver l m lock)).1.length=n'∧fD w' A' (kF (S.map (·.1)) T (cQ ver l m lock)).1∧Below w.heap.size w w':=by
 obtain⟨q,hq⟩:=Nm (Eb (cQ ver l m lock) (S.map (·.1)) T)
 have HT:=fun w' a b c d=>Ph ver lock l m A1 A2 n1 n2 c1 c2 hn1 hn2 hm1 hm2 S As ns cs hS hns T At nt ct hT OM w' a b c d q hq.symm
 obtain⟨x,er,hx,HI,hcase⟩:∃ (x:List UInt8) (er:Nat),x.length=32∧(∀ w',fB w' A1 l→dH w' A2 m→Calls prog 41 #[.agg #[.int .u32 (ver:Int),.slice A1 n1 c1,.slice A2 n2 c2,.int .u32 (lock:Int)]] w' fun e w''=>e= .returned (.tuple #[.agg (cK x),.int .i64 (er:Int)])∧Below w'.heap.size w' w'')∧((er=3∧fN (cQ ver l m lock)=false)∨(er=0∧fN (cQ ver l m lock)=true∧x=lW (yT (cQ ver l m lock)))):=by
  cases hs:fN (cQ ver l m lock) with
  |false=>exact⟨Gl,3,by rfl,fun w' a b=>MJ ver lock hv hlk l m A1 A2 n1 n2 c1 c2 hn1 hn2 w' a b (by simp[maxLen];omega) (by simp[maxLen];omega) hs,.inl ⟨rfl,rfl⟩⟩
  |true=>exact⟨_,0,fP _,fun w' a b=>Pg ver lock hv hlk l m A1 A2 n1 n2 c1 c2 hn1 hn2 w' a b hs,.inr ⟨rfl,rfl,rfl⟩⟩
 obtain⟨g,hg⟩:=Nm (T.contains x)
 have HH:=fun w' r=>Qt T x hx At nt ct w' r hT OM
 rw[← hg] at HH
 have hgo:(er=3∧kF (S.map (·.1)) T (cQ ver l m lock)=(T,false))∨(er=0∧q=false∧kF (S.map (·.1)) T (cQ ver l m lock)=(T,false))∨(er=0∧q=true∧g=true∧kF (S.map (·.1)) T (cQ ver l m lock)=(T,false))∨(er=0∧q=true∧g=false∧4096≤nt∧kF (S.map (·.1)) T (cQ ver l m lock)=(T,false))∨(er=0∧q=true∧g=false∧nt<4096∧kF (S.map (·.1)) T (cQ ver l m lock)=(T++ [x],true)):=by
  unfold kF Gm
  rw[← hq,hT]
  rcases hcase with ⟨h,hs⟩|⟨h,hs,hxe⟩
  ·exact .inl ⟨h,by rw[hs];rfl⟩
  ·rw[hs,← hxe,← hg]
   cases q
   ·exact .inr (.inl ⟨h,rfl,by simp⟩)
   ·cases g
    ·by_cases hf:4096≤nt
     ·exact .inr (.inr (.inr (.inl ⟨h,rfl,rfl,hf,by rw[if_neg zU]⟩)))
     ·exact .inr (.inr (.inr (.inr ⟨h,rfl,rfl,by omega,by rw[if_pos zU]⟩)))
    ·exact .inr (.inr (.inl ⟨h,rfl,rfl,by simp⟩))
 obtain⟨R,hR⟩:=Nm (kF (S.map (·.1)) T (cQ ver l m lock))
 rw[← hR] at hgo ⊢
 clear hcase hR hq hg
 obtain⟨W,hW⟩:=Nm (((w.alloc (.cells (bS As At An ns cs nt ct nn cn).toArray 26)).alloc (.cells #[.int .u32 (ver:Int),.slice A1 n1 c1,.slice A2 n2 c2,.int .u32 (lock:Int)] 32)).alloc (.cells #[.slice none 0 0,.slice none 0 0,.slice none 0 0] 26))
 obtain⟨H,hH⟩:=Nm (w.heap.size)
 have e:∀ (v:World) (o:Obj),(v.alloc o).heap.size=v.heap.size+1:=fun v o=>by simp
 have bW:Below w.heap.size w W:=by rw[hW];exact(((Below.refl _ _).alloc LR _).alloc zS _).alloc zU _
 have aT:Av W H 26 (bS As At An ns cs nt ct nn cn):=by rw[hW,hH];exact Av.alloc (heap_alloc2_old _ _ _) _
 have aX:Av W (H+1) 32 [.int .u32 (ver:Int),.slice A1 n1 c1,.slice A2 n2 c2,.int .u32 (lock:Int)]:=by rw[hW,hH];exact Av.alloc (heap_alloc2_new _ _ _) _
 have aZ:Av W (H+2) 26 (bS none none none 0 0 0 0 0 0):=by
  have:=heap_alloc_new ((w.alloc (.cells (bS As At An ns cs nt ct nn cn).toArray 26)).alloc (.cells #[.int .u32 (ver:Int),.slice A1 n1 c1,.slice A2 n2 c2,.int .u32 (lock:Int)] 32)) (.cells #[.slice none 0 0,.slice none 0 0,.slice none 0 0] 26)
  rw[e,e] at this
  rw[hW,hH];exact this
 have hHw:w.heap.size≤H+2:=by rw[hH];omega
 have xlen:=Hy (show (x.map bv).length=32 by rw[List.length_map];exact hx)
 have xone:=Hy (List.all_eq_true.2 (dB x))
 have z32:=Hy (show (#[.int .u8 0,.int .u8 0,.int .u8 0,.int .u8 0,.int .u8 0,.int .u8 0,.int .u8 0,.int .u8 0,.int .u8 0,.int .u8 0,.int .u8 0,.int .u8 0,.int .u8 0,.int .u8 0,.int .u8 0,.int .u8 0,.int .u8 0,.int .u8 0,.int .u8 0,.int .u8 0,.int .u8 0,.int .u8 0,.int .u8 0,.int .u8 0,.int .u8 0,.int .u8 0,.int .u8 0,.int .u8 0,.int .u8 0,.int .u8 0,.int .u8 0,.int .u8 0]:Array Value).size=32 from rfl)
 clear e
 replace hW:=Hy hW
 replace hH:=Hy hH
 replace hS:=Hy hS
 replace hT:=Hy hT
 replace HI:=Hy HI
 replace HT:=Hy HT
 replace HH:=Hy HH
 replace hn1:=Hy hn1
 replace hn2:=Hy hn2
 replace hx:=Hy hx
 go_enter func14,ntmps14
 go_upto_region 1 with fail
 rw[← hW.out,← hH.out]
 go_upto_region 2 with (first
  |((with_reducible refine LH aX 4 Ti ?_ ?_);rfl)
  |(go_at_call 41;refine(HI.out W (h1.b bW) (h2.b bW)).mono ?_;rintro e w1 ⟨rfl,b1⟩)
  |((with_reducible refine SN (x.map bv) 32 ?_ ?_ ?_ (hn:=xlen.out) (ho:=z32.out) (h1:=xone.out));rfl;rfl;intro w2 aI b2 k2 z2;clear k2;replace z2:=Hy z2))
 replace b2:=b1.trans (b2.mono b1.size)
 have bw:=bW.trans (b2.mono bW.size)
 replace aT:=aT.b b2
 replace aX:=aX.b b2
 have hZ:Hid (H+2<w2.heap.size):=Hy (Nat.lt_of_lt_of_le aZ.lt b2.size)
 replace aZ:=aZ.b b2
 have rS2:=rS.b bw
 have rT2:=rT.b bw
 have h12:=h1.b bw
 have h22:=h2.b bw
 obtain⟨gi,hgi⟩:=Nm (w1.heap.size)
 rw[← hgi] at aI ⊢
 replace hgi:=Hy hgi
 clear b1 b2 bW
 have c0:=aT.cell 0 (.slice As ns cs) rfl
 have c1':=aT.cell 1 (.slice At nt ct) rfl
 rcases hgo with ⟨rfl,hR⟩|⟨rfl,rfl,hR⟩|⟨rfl,rfl,rfl,hR⟩|⟨rfl,rfl,rfl,hf,hR⟩|⟨rfl,rfl,rfl,hf,hR⟩
 rotate_left 4
 ·replace hR:=Hy hR
  have tf:decide ((4096:Int)≤(nt:Int))=false:=by simp;omega
  go_upto_region 4 with (first
   |((with_reducible refine LG aX 4 Ti ?_ ?_ ?_);rfl;rfl)
   |(go_at_call 42;refine(HT.out w2 h12 h22 rS2 rT2).mono ?_;rintro e w5 ⟨rfl,b5⟩;have c5:=(aT.b b5).cell 1 (.slice At nt ct) rfl)
   |((with_reducible refine LG (aI.b b5) 32 SS ?_ ?_ ?_ (hn:=xlen.out));rfl;rfl)
   |(go_at_call 43;refine(HH.out w5 (rT2.b b5)).mono ?_;rintro e w6 ⟨rfl,b6⟩;have b56:=b5.trans (b6.mono b5.size);have c6:=(aT.b b56).cell 1 (.slice At nt ct) rfl))
  clear c0 c1' c5 c6
  have aT6:=aT.b b56
  have aI6:=aI.b b56
  have aZ6:=aZ.b b56
  have bw6:=bw.trans (b56.mono bw.size)
  have rT6:=rT.b bw6
  have hZ6:H+2<w6.heap.size:=Nat.lt_of_lt_of_le hZ.out b56.size
  clear aT aX aI aZ bw b5 b6 b56 rS2 rT2 h12 h22
  have hmade:(w6.alloc (.cells #[] 35)).ownsRow w6.heap.size 35 32 (.slice (some ⟨w6.heap.size,0,none⟩) 0 0) 0 []:=World.ownsRow_made w6 #[] 0 LR (by simp[maxLen]) rfl
  have bm:Below w6.heap.size w6 (w6.alloc (.cells #[] 35)):=(Below.refl _ _).alloc LR _
  have rm:=(rT6.b bm).1
  have lT:Hid ((Jx T).length=nt*32):=Hy (by rw[xE T rT.2,hT.out])
  have c1'':=(aT6.b bm).cell 1 (.slice At nt ct) rfl
  go_upto_region 5 with (at_builtin;refine bT Tj ET EU DC hmade zS (Jx T) nt ct rm lT.out (Kq T) OM OM rfl (.tmp 38) (.tmp 40) rfl rfl rfl ?_;intro v7 w7 o7 gr7 _)
  have b7:=fK bm hmade gr7 zS
  rw[Nat.zero_add,List.nil_append] at o7
  have b7s:=b7.size
  have aI7:=aI6.b b7
  clear c1'' rm lT hmade bm gr7
  go_upto_region 6 with (first
   |((with_reducible refine LF aI7 32 xlen.out SS ?_ ?_);rfl)
   |((with_reducible refine dQ Tj ET EU DC DC (x.map bv) xlen.out rfl ?_))
   |(at_builtin;refine bT Tj ET EU DC (aJ o7 ((Below.refl w7.heap.size w7).alloc LR _)) zU (x.map bv) 1 1 (Av.rd (t:=35) (heap_alloc_new _ _)) (by rw[xlen.out]) (dB x) OM OM rfl (.tmp 42) (.tmp 44) rfl rfl rfl ?_;intro v8 w8 o8 gr8 _;obtain⟨A8,c8,rfl,hc8,_⟩:=cM o8))
  have b8:=fK (b7.alloc b7.size (.cells (x.map bv).toArray 35)) (aJ o7 ((Below.refl w7.heap.size w7).alloc LR _)) gr8 zU
  have aT8:=aT6.b b8
  have aZ8:=aZ6.b b8
  have bw8:=bw6.trans (b8.mono bw6.size)
  have f0:=aT8.cell 0 (.slice As ns cs) rfl
  have f2:=aT8.cell 2 (.slice An nn cn) rfl
  have o8l:=Hy (World.ownsRow.lt o8)
  clear aT6 aI6 aZ6 bw6 rT6 b7 b7s aI7 o7 gr8 b8
  go_wp2_with ((with_reducible refine SF bw8 aZ8 hHw (bS As A8 An ns cs (nt+1) c8 nn cn) 3 ?_ ?_ ?_);rfl;rfl;intro w9 a9 b9 k9 z9)
  refine bodyPost_ret (v:=.tuple #[.agg (bS As A8 An ns cs (nt+1) c8 nn cn).toArray,.bool true]) ((aK (C:=bS As A8 An ns cs (nt+1) c8 nn cn) bM bM a9 _ SY rfl 3 rfl KR).trans bM) bM ?_
  have fr9:Fr (fun j=>j=H+2) w8 w9:=⟨b9.os.trans bw8.os.symm,b9.tape.trans bw8.tape.symm,b9.output.trans bw8.output.symm,by rw[z9];exact Nat.le_refl _,fun j _ hj=>k9 j hj⟩
  have o9:=bU o8 fr9 (fun j hj e=>by have:=(o8l.out j hj).1;omega)
  refine⟨A8,nt+1,c8,by rw[hR.out],by rw[hR.out,List.length_append,hT.out];rfl,⟨?_,?_⟩,b9⟩
  ·have:=fV o9
   rw[hR.out]
   simpa [Jx] using this
  ·intro e he
   rw[hR.out] at he
   rcases List.mem_append.1 he with he|he
   ·exact rT.2 e he
   ·rw[List.mem_singleton.1 he];exact hx.out
 all_goals
  replace hR:=Hy hR
  first
   |have tf:decide ((4096:Int)≤(nt:Int))=true:=by simp;omega
   |skip
  go_wp2_with (first
   |((with_reducible refine LG aX 4 Ti ?_ ?_ ?_);rfl;rfl)
   |(go_at_call 42;refine(HT.out w2 h12 h22 rS2 rT2).mono ?_;rintro e w5 ⟨rfl,b5⟩;have c5:=(aT.b b5).cell 1 (.slice At nt ct) rfl)
   |((with_reducible refine LG (aI.b b5) 32 SS ?_ ?_ ?_ (hn:=xlen.out));rfl;rfl)
   |(go_at_call 43;refine(HH.out w5 (rT2.b b5)).mono ?_;rintro e w6 ⟨rfl,b6⟩;have b56:=b5.trans (b6.mono b5.size);have c6:=(aT.b b56).cell 1 (.slice At nt ct) rfl)
   |((with_reducible refine LH aT 3 SY ?_ ?_);rfl)
   |((with_reducible refine LH (aT.b b5) 3 SY ?_ ?_);rfl)
   |((with_reducible refine LH (aT.b b56) 3 SY ?_ ?_);rfl)
   |((with_reducible refine SF bw aZ hHw (bS As At An ns cs nt ct nn cn) 3 ?_ ?_ ?_);rfl;rfl;intro w9 a9 b9 k9 z9)
   |((with_reducible refine SF (bw.trans (b5.mono bw.size)) (aZ.b b5) hHw (bS As At An ns cs nt ct nn cn) 3 ?_ ?_ ?_);rfl;rfl;intro w9 a9 b9 k9 z9)
   |((with_reducible refine SF (bw.trans (b56.mono bw.size)) (aZ.b b56) hHw (bS As At An ns cs nt ct nn cn) 3 ?_ ?_ ?_);rfl;rfl;intro w9 a9 b9 k9 z9))
  refine bodyPost_ret (v:=.tuple #[.agg (bS As At An ns cs nt ct nn cn).toArray,.bool false]) ((aK (C:=bS As At An ns cs nt ct nn cn) bM bM a9 _ SY rfl 3 rfl KR).trans bM) bM ?_
  exact⟨At,nt,ct,by rw[hR.out],by rw[hR.out];exact hT.out,by rw[hR.out];exact rT.b b9,b9⟩
end Go.Proofs.YtobjgebojhjhnaaGreatDoor
