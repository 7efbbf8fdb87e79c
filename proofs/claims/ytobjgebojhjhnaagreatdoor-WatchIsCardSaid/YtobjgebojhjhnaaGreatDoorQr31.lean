import Derived.Test.YtobjgebojhjhnaaGreatDoorQr30
namespace Go.Proofs.YtobjgebojhjhnaaGreatDoor
open Go.RowKit
def qX (As At:Option Addr) (ns cs nt ct nn:Nat) (N:List Sn):VP:=fun v w=>∃ A' c',v= .agg (bS As At A' ns cs nt ct nn c').toArray∧dI w A' N
theorem qX.mono {As At:Option Addr} {ns cs nt ct nn:Nat} {N:List Sn} {v:Value} {w w':World} (h:cI w w'):qX As At ns cs nt ct nn N v w→qX As At ns cs nt ct nn N v w':=by
 rintro⟨A',c',rfl,r⟩
 exact⟨A',c',rfl,r.b h⟩
def Fw (As At:Option Addr) (ns cs nt ct:Nat) (L:List Sn) (k e:Nat):VP:=fun v w=>∃ A' n' c',v= .tuple #[.agg (bS As At A' ns cs nt ct n' c').toArray,.int .i64 (k:Int),.int .i64 (e:Int)]∧L.length=n'∧dI w A' L
theorem Fw.mono {As At:Option Addr} {ns cs nt ct:Nat} {L:List Sn} {k e:Nat} {v:Value} {w w':World} (h:cI w w'):Fw As At ns cs nt ct L k e v w→Fw As At ns cs nt ct L k e v w':=by
 rintro⟨A',n',c',rfl,hl,r⟩
 exact⟨A',n',c',rfl,hl,r.b h⟩
def QV (As At:Option Addr) (ns cs nt ct:Nat) (L:List Sn):VP:=fun v w=>∃ A' n' c',v= .agg (bS As At A' ns cs nt ct n' c').toArray∧L.length=n'∧dI w A' L
theorem QV.mono {As At:Option Addr} {ns cs nt ct:Nat} {L:List Sn} {v:Value} {w w':World} (h:cI w w'):QV As At ns cs nt ct L v w→QV As At ns cs nt ct L v w':=by
 rintro⟨A',n',c',rfl,hl,r⟩
 exact⟨A',n',c',rfl,hl,r.b h⟩
def Fx (b:Nat):VP:=fun v w=>∃ g,v= .pointer (some ⟨g,0,none⟩)∧b≤g∧Av w g 51 [.slice none 0 0,.slice none 0 0,.slice none 0 0]
theorem Fx.mono {b:Nat} {v:Value} {w w':World} (h:cI w w'):Fx b v w→Fx b v w':=by
 rintro⟨g,rfl,hg,a⟩
 exact⟨g,rfl,hg,a.b h⟩
theorem dI.off {w w':World} {A:Option Addr} {L:List Sn} {g:Nat} {t:TypeId} (r:dI w A L) (a:Av w g t [.slice none 0 0,.slice none 0 0,.slice none 0 0]) (f:Fr (fun k=>k=g) w w'):dI w' A L:=by
 cases L with
 |nil=>exact dI.nil _ _
 |cons s L=>
  refine⟨f.rd r.1 ?_,r.2⟩
  rintro ad hA hg
  have sok:=r.2 s (List.mem_cons_self ..)
  obtain⟨b,off,hA2⟩:=r.adr zS
  rw[hA] at hA2
  injection hA2 with hA2
  subst hA2
  rw[hA] at r
  have rs:=(r.nth 0 s rfl).1
  have hid:∃ x,s.id[0]? =some x:=⟨_,List.getElem?_eq_getElem (by rw[sok.1];omega)⟩
  obtain⟨x,hx⟩:=hid
  have h1:=nE rs 0 (bv x) (by rw[List.getElem?_map,hx];rfl)
  have hb:b=g:=hg
  subst hb
  rw[cell_of_row w b _ _ t _ a] at h1
  simp only[Nat.zero_mul,Nat.add_zero,List.getElem?_toArray] at h1
  have hm:=List.mem_of_getElem? h1
  simp[bv] at hm
section
variable {P:Program} {ops:Array Oper} {R:World→World→Prop} {Q:Exit→Act→World→Prop} {w0:World} {L:List (Nat × VP)} {i:Nat} {o:Oper} {rest:List Oper} {l l':List Value} {d:List Deferred}
end
end Go.Proofs.YtobjgebojhjhnaaGreatDoor
namespace Go.Proofs.YtobjgebojhjhnaaGreatDoor
set_option maxRecDepth 100000
set_option maxHeartbeats 16000000
open Go.RowKit Tryz
theorem Xc161 {p:Prop} (h:p:=by
 refine bO fun w2 hw2=>aF ?_
 have b2:=br.trans (hw2.drew.mono br.size)
 go_wp2
 refine⟨⟨i+1,by omega,by go_num,b2⟩,?_⟩
 simp only[intOf]
 omega):p:=h
theorem Lm (S1 S2:List (List UInt8 × Sl)) (hSS:S1.map (·.1)=S2.map (·.1)) (T:List (List UInt8)) (N:List Sn) (As At An As2 At2 An2:Option Addr) (ns cs cs2 nt ct ct2 nn cn cn2:Nat) (hS:S1.length=ns) (hns:ns≤1000000) (hT:T.length=nt) (hnt:nt≤100000) (hN:N.length=nn) (hnn:nn≤1000000)
  (w:World) (r1:dU w As S1) (r2:dU w As2 S2) (t1:fD w At T) (t2:fD w At2 T) (q1:dI w An N) (q2:dI w An2 N):
  Calls prog 20 #[.agg (bS As At An ns cs nt ct nn cn).toArray,.agg (bS As2 At2 An2 ns cs2 nt ct2 nn cn2).toArray] w fun e w'=>e= .returned (.bool true)∧Below w.heap.size w w':=by
 have hS2:S2.length=ns:=by rw[← hS];have:=congrArg List.length hSS;simpa using this.symm
 have HS:=fun w' (a:fD w' At T) (b:fD w' At2 T)=>QW T T a.2 b.2 At At2 nt nt ct ct2 hT hT hnt hnt w' a.1 b.1
 simp only[beq_self_eq_true] at HS
 obtain⟨W,hW⟩:=Nm ((w.alloc (.cells (bS As At An ns cs nt ct nn cn).toArray 26)).alloc (.cells (bS As2 At2 An2 ns cs2 nt ct2 nn cn2).toArray 26))
 obtain⟨H,hH⟩:=Nm (w.heap.size)
 have aW:Av W H 26 (bS As At An ns cs nt ct nn cn):=by rw[hW,hH];exact heap_alloc2_old _ _ _
 have zW:Av W (H+1) 26 (bS As2 At2 An2 ns cs2 nt ct2 nn cn2):=by rw[hW,hH];exact heap_alloc2_new _ _ _
 refine Xm82 ?_;intro bW
 have tW1:=t1.b bW
 have tW2:=t2.b bW
 have f0:=aW.cell 0 (.slice As ns cs) rfl
 have f1:=aW.cell 1 (.slice At nt ct) rfl
 have f2:=aW.cell 2 (.slice An nn cn) rfl
 have g0:=zW.cell 0 (.slice As2 ns cs2) rfl
 have g1:=zW.cell 1 (.slice At2 nt ct2) rfl
 have g2:=zW.cell 2 (.slice An2 nn cn2) rfl
 replace HS:=Hy HS
 replace hW:=Hy hW
 replace hH:=Hy hH
 replace hS:=Hy hS
 replace hS2:=Hy hS2
 replace hT:=Hy hT
 replace hN:=Hy hN
 replace hSS:=Hy hSS
 go_enter func20,ntmps20
 go_upto_region 1 with fail
 rw[← hW.out,← hH.out]
 go_upto_region 3 with (go_at_call 54;refine(HS.out W tW1 tW2).mono ?_;rintro e w1 ⟨rfl,b1⟩;have h2:=(aW.b b1).cell 2 (.slice An nn cn) rfl;have k2:=(zW.b b1).cell 2 (.slice An2 nn cn2) rfl)
 have B1:=bW.trans (b1.mono bW.size)
 have a1:=aW.b b1
 have z1:=zW.b b1
 clear f0 f1 f2 g0 g1 g2 h2 k2
 go_wp2
 go_loopw [5] (fun iv wr=>∃ i:Nat,i≤ns∧iv= .int .i64 (i:Int)∧Below w1.heap.size w1 wr) (fun iv _=>ns - (intOf iv).toNat)
 case atStart=>exact⟨0,by omega,rfl,Below.refl _ _⟩
 case round=>
  obtain⟨i,hi,rfl,br⟩:=hrel
  have d1:=(a1.b br).cell 0 (.slice As ns cs) rfl
  by_cases hlt:i<ns
  ·have u1:decide ((i:Int)<(ns:Int))=true:=by simp;omega
   have n0:0≤(i:Int):=by omega
   have n1:(i:Int)<(ns:Int):=by omega
   obtain⟨⟨y,A1,cA1⟩,h1⟩:∃ e,S1[i]? =some e:=⟨_,List.getElem?_eq_getElem (by rw[hS.out];exact hlt)⟩
   obtain⟨⟨y2,A2,cA2⟩,h2⟩:∃ e,S2[i]? =some e:=⟨_,List.getElem?_eq_getElem (by rw[hS2.out];exact hlt)⟩
   obtain rfl:y=y2:=by
    have q:=congrArg (fun l=>l[i]?) hSS.out
    simp only[List.getElem?_map,h1,h2,Option.map_some,Option.some.injEq] at q
    exact q
   obtain⟨b1,o1,rfl⟩:=r1.adr (by rw[hS.out];omega)
   obtain⟨b2,o2,rfl⟩:=r2.adr (by rw[hS2.out];omega)
   have D1:∀ w',Below w1.heap.size w1 w'→w'.cell? ⟨H,0,none⟩=some (.slice (some ⟨b1,o1,none⟩) ns cs):=fun w' b=>(a1.b b).cell 0 _ rfl
   have D2:∀ w',Below w1.heap.size w1 w'→w'.cell? ⟨H+1,0,none⟩=some (.slice (some ⟨b2,o2,none⟩) ns cs2):=fun w' b=>(z1.b b).cell 0 _ rfl
   have E1:∀ w',Below w1.heap.size w1 w'→w'.cell? ⟨b1,o1+i,none⟩=some (.slice A1 y.length cA1):=fun w' b=>(((r1.b B1).b b).nth i _ h1).1
   have E2:∀ w',Below w1.heap.size w1 w'→w'.cell? ⟨b2,o2+i,none⟩=some (.slice A2 y.length cA2):=fun w' b=>(((r2.b B1).b b).nth i _ h2).1
   have G1:∀ w',Below w1.heap.size w1 w'→Rd w' A1 (y.map bv):=fun w' b=>(((r1.b B1).b b).nth i _ h1).2.1
   have G2:∀ w',Below w1.heap.size w1 w'→Rd w' A2 (y.map bv):=fun w' b=>(((r2.b B1).b b).nth i _ h2).2.1
   clear h1 h2
   replace D1:=Hy D1
   replace D2:=Hy D2
   replace E1:=Hy E1
   replace E2:=Hy E2
   replace G1:=Hy G1
   replace G2:=Hy G2
   go_upto_region 6 with fail
   refine ZR ?_
   repeat refine ZP (fun w hw=>by have:=D1.out _ (br.trans (hw.drew.mono br.size));have:=n0;have:=n1;have:=E1.out _ (br.trans (hw.drew.mono br.size));exact zG) ?_
   refine uR rfl rfl rfl rfl _ rfl rfl y rfl (fun w hw=>G1.out _ (br.trans (hw.drew.mono br.size))) zZ ?_
   repeat refine ZP (fun w hw=>by have:=D2.out _ (br.trans (hw.drew.mono br.size));have:=n0;have:=n1;have:=E2.out _ (br.trans (hw.drew.mono br.size));exact zG) ?_
   refine uR rfl rfl rfl rfl _ rfl rfl y rfl (fun w hw=>G2.out _ (br.trans (hw.drew.mono br.size))) zZ ?_
   repeat refine ZQ ?_
   exact Xc161
  ·obtain rfl:i=ns:=by omega
   have u1:decide ((i:Int)<(i:Int))=false:=by simp
   obtain⟨w2,hw2⟩:=Nm (wr)
   subst hw2
   have b2:=br
   clear br
   go_wp2
   clear d1
   go_loopw [6] (fun iv wr=>∃ i:Nat,i≤nn∧iv= .int .i64 (i:Int)∧Below w1.heap.size w1 wr) (fun iv _=>nn - (intOf iv).toNat)
   case atStart=>exact⟨0,by omega,rfl,b2⟩
   case round=>
    clear u1 hi
    obtain⟨i,hi,rfl,br⟩:=hrel
    have d1:=(a1.b br).cell 2 (.slice An nn cn) rfl
    by_cases hlt:i<nn
    ·have u1:decide ((i:Int)<(nn:Int))=true:=by simp;omega
     have n0:0≤(i:Int):=by omega
     have n1:(i:Int)<(nn:Int):=by omega
     obtain⟨x,hx⟩:∃ e,N[i]? =some e:=⟨_,List.getElem?_eq_getElem (by rw[hN.out];exact hlt)⟩
     have xok:=q1.2 x (List.mem_of_getElem? hx)
     have x65:=Hy (dD xok)
     obtain⟨b1,o1,rfl⟩:=q1.adr (by rw[hN.out];omega)
     obtain⟨b2,o2,rfl⟩:=q2.adr (by rw[hN.out];omega)
     have D1:∀ w',Below w1.heap.size w1 w'→w'.cell? ⟨H,2,none⟩=some (.slice (some ⟨b1,o1,none⟩) nn cn):=fun w' b=>(a1.b b).cell 2 _ rfl
     have D2:∀ w',Below w1.heap.size w1 w'→w'.cell? ⟨H+1,2,none⟩=some (.slice (some ⟨b2,o2,none⟩) nn cn2):=fun w' b=>(z1.b b).cell 2 _ rfl
     have R1:∀ w',Below w1.heap.size w1 w'→w'.rangeAt b1 (o1+i*65) (dY x):=fun w' b=>(((q1.b B1).b b).nth i x hx).1
     have R2:∀ w',Below w1.heap.size w1 w'→w'.rangeAt b2 (o2+i*65) (dY x):=fun w' b=>(((q2.b B1).b b).nth i x hx).1
     have EN:=fun p q w=>OS xok xok p q w
     simp only[beq_self_eq_true,Bool.not_true] at EN
     clear hx
     replace D1:=Hy D1
     replace D2:=Hy D2
     replace R1:=Hy R1
     replace R2:=Hy R2
     replace EN:=Hy EN
     go_upto_region 11 with fail
     refine ZR ?_
     repeat first|refine ZP (fun w hw=>by have:=D1.out _ (br.trans (hw.drew.mono br.size));have:=n0;have:=n1;have:=D2.out _ (br.trans (hw.drew.mono br.size));exact zG) ?_|refine ZP (c:=.agg (dY x).toArray) (fun w hw=>bJ _ _ rfl b1 (o1+i*65) rfl (dY x) _ (R1.out _ (br.trans (hw.drew.mono br.size))) Tf rfl (by rw[x65.out];kernel_rfl)) ?_|refine ZP (c:=.agg (dY x).toArray) (fun w hw=>bJ _ _ rfl b2 (o2+i*65) rfl (dY x) _ (R2.out _ (br.trans (hw.drew.mono br.size))) Tf rfl (by rw[x65.out];kernel_rfl)) ?_
     refine jN cI.refl rfl rfl rfl rfl _ _ _ _ _ rfl pB pB (c:=.bool false) (fun w=>EN.out _ _ w) zZ ?_
     exact Xc161
    ·obtain rfl:i=nn:=by omega
     have u1:decide ((i:Int)<(i:Int))=false:=by simp
     go_wp2
     go_ret
     exact⟨rfl,B1.trans (br.mono B1.size)⟩
def Sx (T:List (List UInt8)) (I:List UInt8) (L:List Sn) (m:Nat × List UInt8):Bool:=decide (4096≤L.length) || !(T.contains m.2) || L.contains ⟨m.2,I,(m.1:Int)⟩
def Ln (ver lock n1 n2:Nat) (l:List (lI × Sl)) (m:List (fA × Sl)):VP:=fun v w=>∃ (B1 B2:Option Addr) (d1 d2:Nat),v= .agg #[.int .u32 (ver:Int),.slice B1 n1 d1,.slice B2 n2 d2,.int .u32 (lock:Int)]∧fB w B1 l∧dH w B2 m
theorem Ln.mono {ver lock n1 n2:Nat} {l:List (lI × Sl)} {m:List (fA × Sl)} {v:Value} {w w':World} (h:cI w w'):Ln ver lock n1 n2 l m v w→Ln ver lock n1 n2 l m v w':=by
 rintro⟨B1,B2,d1,d2,rfl,r1,r2⟩
 exact⟨B1,B2,d1,d2,rfl,r1.b h,r2.b h⟩
def Fy (As:Option Addr) (ns cs nn:Nat) (N:List Sn) (T:List (List UInt8)) (ok:Bool):VP:=fun v w=>∃ A' n' c' An' cn',v= .tuple #[.agg (bS As A' An' ns cs n' c' nn cn').toArray,.bool ok]∧T.length=n'∧fD w A' T∧dI w An' N
theorem Fy.mono {As:Option Addr} {ns cs nn:Nat} {N:List Sn} {T:List (List UInt8)} {ok:Bool} {v:Value} {w w':World} (h:cI w w'):Fy As ns cs nn N T ok v w→Fy As ns cs nn N T ok v w':=by
 rintro⟨A',n',c',An',cn',rfl,hl,r,q⟩
 exact⟨A',n',c',An',cn',rfl,hl,r.b h,q.b h⟩
def Lo (As:Option Addr) (ns cs nn:Nat) (N:List Sn) (T:List (List UInt8)):VP:=fun v w=>∃ A' n' c' An' cn',v= .agg (bS As A' An' ns cs n' c' nn cn').toArray∧T.length=n'∧fD w A' T∧dI w An' N
theorem Lo.mono {As:Option Addr} {ns cs nn:Nat} {N:List Sn} {T:List (List UInt8)} {v:Value} {w w':World} (h:cI w w'):Lo As ns cs nn N T v w→Lo As ns cs nn N T v w':=by
 rintro⟨A',n',c',An',cn',rfl,hl,r,q⟩
 exact⟨A',n',c',An',cn',rfl,hl,r.b h,q.b h⟩
theorem fD.off {w w':World} {A:Option Addr} {L:List (List UInt8)} {g:Nat} {t:TypeId} (r:fD w A L) (a:Av w g t [.slice none 0 0,.slice none 0 0,.slice none 0 0]) (f:Fr (fun k=>k=g) w w'):fD w' A L:=by
 cases L with
 |nil=>exact fD.nil _ _
 |cons s L=>
  refine⟨f.rd r.1 ?_,r.2⟩
  rintro ad hA hg
  have sok:=r.2 s (List.mem_cons_self ..)
  obtain⟨b,off,hA2⟩:=r.adr zS
  rw[hA] at hA2
  injection hA2 with hA2
  subst hA2
  rw[hA] at r
  have rs:=r.nth 0 s rfl
  obtain⟨x,hx⟩:∃ x,s[0]? =some x:=⟨_,List.getElem?_eq_getElem (by rw[sok];omega)⟩
  exact Xc126
def Cl (n:Nat) (l:List Cf):VP:=fun v w=>∃ A c,v= .slice A n c∧Rd w A (yK l)
theorem Cl.mono {n:Nat} {l:List Cf} {v:Value} {w w':World} (h:cI w w'):Cl n l v w→Cl n l v w':=by
 rintro⟨A,c,rfl,r⟩
 exact⟨A,c,rfl,r.b h⟩
def Lp (b:Nat):VP:=fun v w=>∃ g,v= .pointer (some ⟨g,0,none⟩)∧b≤g∧Av w g 74 (eT gY)
theorem Lp.mono {b:Nat} {v:Value} {w w':World} (h:cI w w'):Lp b v w→Lp b v w':=by
 rintro⟨g,rfl,hg,a⟩
 exact⟨g,rfl,hg,a.b h⟩
theorem Lq (w:World):Av (w.alloc (.cells zeroCells74 74)) w.heap.size 74 (eT gY):=by
 rw[qQ]
 exact heap_alloc_new _ _
theorem DT (S:List (List UInt8)) (s:List UInt8):(iL S s).1.length≤S.length+1:=by
 unfold iL
 split
 ·exact Nat.le_succ _
 ·split
  ·exact Nat.le_succ _
  ·split
   ·exact Nat.le_succ _
   ·simp
theorem Iy (S T:List (List UInt8)) (t:FZ):(kF S T t).1.length≤T.length+1:=by
 unfold kF
 split <;> simp
theorem AM (T:List (List UInt8)) (I:List UInt8):∀ (ms:List (Nat × List UInt8)) (p:List Sn × Nat),p.1.length≤4096→(ms.foldl (lK T I) p).1.length≤4096
 | [],_,h=>h
 |m :: ms,p,h=>by
  refine AM T I ms _ ?_
  unfold lK
  split
  ·exact h
  ·rename_i k
   simp only[Bool.or_eq_true,decide_eq_true_eq,not_or] at k
   simp
   omega
theorem Fz (ds:List Nd) (T:List (List UInt8)) (N:List Sn) (h:Hd) (tot:Nat) (hs:List (List UInt8)) (fl:List UInt8) (hN:N.length≤4096):(iJ ds T N h tot hs fl).1.length≤4096:=by
 unfold iJ
 split
 ·exact hN
 ·split
  ·exact hN
  ·split
   ·exact AM T _ _ _ hN
   ·exact hN
theorem Nv (S : List (List UInt8 × Sl)) (As At An : Option Addr) (ns cs nt ct nn cn : Nat) (hS : S.length = ns) (hns : ns ≤ maxLen) (T : List (List UInt8)) (hT : T.length = nt) (N : List Sn) (hN : N.length = nn)
    (s : List UInt8) (Bs : Option Addr) (ms d0 : Nat) (hs : s.length = ms)
    (ver lock : Nat) (l1 : List (lI × Sl)) (m1 : List (fA × Sl)) (A1 A2 : Option Addr) (n1 n2 c1 c2 : Nat) (hn1 : l1.length = n1) (hn2 : m1.length = n2) (hm1 : n1 ≤ maxLen) (hm2 : n2 ≤ maxLen)
    (l : List Hd) (B : Option Addr) (m d : Nat) (hm : l.length = m) (h : Hd) (hok : h.ok) (tot : Nat) (hh : List (List UInt8)) (fl : List UInt8) (Ah : Option Addr) (nh ch : Nat) (Af : Option Addr) (nf cf : Nat) (hnh : hh.length = nh) (hnf : fl.length = nf)
    (tip : Int) (x : List UInt8) (hx : x.length = 32)
    (w : World) (ht : fW w) (rS : dU w As S) (rI : fB w A1 l1) (rO : dH w A2 m1)  (hfar : ¬ (DD (S.map (·.1)) nt nn = true ∧ vG (cQ ver l1 m1 lock) = true ∧ m ≤ 20 ∧ nh ≤ 60 ∧ nf ≤ 60 ∧ ms ≤ 400)) :
    Calls prog 3 #[.agg (bS As At An ns cs nt ct nn cn).toArray, .slice Bs ms d0, .agg #[.int .u32 (ver : Int), .slice A1 n1 c1, .slice A2 n2 c2, .int .u32 (lock : Int)], .slice B m d, .agg (kL h tot Ah nh ch Af nf cf).toArray, .int .i64 tip, .agg (x.map bv).toArray] w fun e w' => e = .returned (.bool true) ∧ Below w.heap.size w w' := by
  obtain ⟨q1, hq1⟩ : ∃ q, DD (S.map (·.1)) nt nn = q := ⟨_, rfl⟩
  obtain ⟨q2, hq2⟩ : ∃ q, vG (cQ ver l1 m1 lock) = q := ⟨_, rfl⟩
  have h6 : q1 = false ∨ (q1 = true ∧ q2 = false) ∨ (q1 = true ∧ q2 = true ∧ 20 < m) ∨ (q1 = true ∧ q2 = true ∧ m ≤ 20 ∧ 60 < nh) ∨ (q1 = true ∧ q2 = true ∧ m ≤ 20 ∧ nh ≤ 60 ∧ 60 < nf) ∨ (q1 = true ∧ q2 = true ∧ m ≤ 20 ∧ nh ≤ 60 ∧ nf ≤ 60 ∧ 400 < ms) := by
    rw [hq1, hq2] at hfar
    cases q1
    · exact .inl rfl
    · cases q2
      · exact .inr (.inl ⟨rfl, rfl⟩)
      · simp only [true_and] at hfar ⊢
        simp
        omega
  clear hfar
  rcases h6 with rfl | ⟨rfl, rfl⟩ | ⟨rfl, rfl, g1⟩ | ⟨rfl, rfl, g1, g2⟩ | ⟨rfl, rfl, g1, g2, g3⟩ | ⟨rfl, rfl, g1, g2, g3, g4⟩
  all_goals
    first
      | (have t1 : decide ((20 : Int) < (m : Int)) = false := decide_eq_false OM
         have t1' : decide (20 < m) = false := decide_eq_false OM)
      | (have t1 : decide ((20 : Int) < (m : Int)) = true := decide_eq_true OM
         have t1' : decide (20 < m) = true := decide_eq_true OM)
      | skip
    first
      | (have t2 : decide ((60 : Int) < (nh : Int)) = false := decide_eq_false OM
         have t2' : decide (60 < nh) = false := decide_eq_false OM)
      | (have t2 : decide ((60 : Int) < (nh : Int)) = true := decide_eq_true OM
         have t2' : decide (60 < nh) = true := decide_eq_true OM)
      | skip
    first
      | (have t3 : decide ((60 : Int) < (nf : Int)) = false := decide_eq_false OM
         have t3' : decide (60 < nf) = false := decide_eq_false OM)
      | (have t3 : decide ((60 : Int) < (nf : Int)) = true := decide_eq_true OM
         have t3' : decide (60 < nf) = true := decide_eq_true OM)
      | skip
    first
      | (have t4 : decide ((400 : Int) < (ms : Int)) = true := decide_eq_true OM
         have t4' : decide (400 < ms) = true := decide_eq_true OM)
      | skip
    have HA := fun w' t => Gy w' t
    have HF := fun w' r => QI S As At An ns cs nt ct nn cn hS hns w' r
    have HG := fun w' a b => Qv ver lock l1 m1 A1 A2 n1 n2 c1 c2 hn1 hn2 hm1 hm2 w' a b
    rw [hq1] at HF
    rw [hq2] at HG
    obtain ⟨W, hW⟩ := Nm ((((w.alloc (.cells (bS As At An ns cs nt ct nn cn).toArray 26)).alloc (.cells #[.int .u32 (ver : Int), .slice A1 n1 c1, .slice A2 n2 c2, .int .u32 (lock : Int)] 32)).alloc (.cells (kL h tot Ah nh ch Af nf cf).toArray 39)).alloc (.cells (x.map bv).toArray 35))
    obtain ⟨H, hH⟩ := Nm (w.heap.size)
    have e : ∀ (v : World) (o : Obj), (v.alloc o).heap.size = v.heap.size + 1 := fun v o => by simp
    have bW : Below w.heap.size w W := by rw [hW]; exact ((((Below.refl _ _).alloc LR _).alloc zS _).alloc (by simp; omega) _).alloc (by simp; omega) _
    have aW : Av W H 26 (bS As At An ns cs nt ct nn cn) := by rw [hW, hH]; exact Av.alloc (Av.alloc (heap_alloc2_old _ _ _) _) _
    have xW : Av W (H + 1) 32 [.int .u32 (ver : Int), .slice A1 n1 c1, .slice A2 n2 c2, .int .u32 (lock : Int)] := by rw [hW, hH]; exact Av.alloc (Av.alloc (heap_alloc2_new _ _ _) _) _
    have kW : Av W (H + 2) 39 (kL h tot Ah nh ch Af nf cf) := by
      have := heap_alloc_new ((w.alloc (.cells (bS As At An ns cs nt ct nn cn).toArray 26)).alloc (.cells #[.int .u32 (ver : Int), .slice A1 n1 c1, .slice A2 n2 c2, .int .u32 (lock : Int)] 32)) (.cells (kL h tot Ah nh ch Af nf cf).toArray 39)
      rw [e, e] at this
      rw [hW, hH]; exact Av.alloc this _
    have yW : Av W (H + 3) 35 (x.map bv) := by
      have := heap_alloc_new (((w.alloc (.cells (bS As At An ns cs nt ct nn cn).toArray 26)).alloc (.cells #[.int .u32 (ver : Int), .slice A1 n1 c1, .slice A2 n2 c2, .int .u32 (lock : Int)] 32)).alloc (.cells (kL h tot Ah nh ch Af nf cf).toArray 39)) (.cells (x.map bv).toArray 35)
      rw [e, e, e] at this
      rw [hW, hH]; exact this
    obtain ⟨d68, d69, d70⟩ := yB (h := h) (tot := tot) (Ah := Ah) (nh := nh) (ch := ch) (Af := Af) (nf := nf) (cf := cf) hok
    have htW := ht.b bW
    clear e
    replace HA := Hy HA
    replace HF := Hy HF
    replace HG := Hy HG
    replace hW := Hy hW
    replace hH := Hy hH
    replace d68 := Hy d68
    replace d69 := Hy d69
    replace d70 := Hy d70
    replace hS := Hy hS
    replace hT := Hy hT
    replace hN := Hy hN
    replace hs := Hy hs
    replace hn1 := Hy hn1
    replace hn2 := Hy hn2
    replace hm := Hy hm
    replace hnh := Hy hnh
    replace hnf := Hy hnf
    replace hx := Hy hx
    replace hq1 := Hy hq1
    replace hq2 := Hy hq2
    go_enter func3, ntmps3
    go_upto_region 1 with fail
    rw [← hW.out, ← hH.out]
    go_upto_region 2 with (go_at_call 4; refine (HA.out W htW).mono ?_; rintro e w1 ⟨rfl, b1⟩)
    have aR := aW.b b1
    have xR := xW.b b1
    have kR := kW.b b1
    have yR := yW.b b1
    have bR := bW.trans (b1.mono bW.size)
    clear b1 bW aW xW kW yW htW
    have rS1 := rS.b bR
    have rI1 := rI.b bR
    have rO1 := rO.b bR
    go_wp2_with (first
      | ((with_reducible refine LH aR 3 SY ?_ ?_);rfl)
      | (go_at_call 5; refine (HF.out w1 rS1).mono ?_; rintro e w2 ⟨rfl, b2⟩; have x2 := xR.b b2; have rI2 := rI1.b b2; have rO2 := rO1.b b2)
      | ((with_reducible refine LG x2 4 Ti ?_ ?_ ?_);rfl;rfl)
      | (go_at_call 6; refine (HG.out w2 rI2 rO2).mono ?_; rintro e w3 ⟨rfl, b3⟩; have k3 := kR.b (b2.trans (b3.mono b2.size)); have f69 := k3.cell 69 _ d69.out; have f70 := k3.cell 70 _ d70.out))
    go_ret
    first
      | exact ⟨rfl, bR.trans ((b2.trans (b3.mono b2.size)).mono bR.size)⟩
      | exact ⟨rfl, bR.trans (b2.mono bR.size)⟩
set_option maxHeartbeats 32000000
theorem Xm37 {p q:Prop} (k:q) (h:Hid q→p:=by
 intro hk
 refine ZP (c:=.agg (bS As At An ns cs nt ct nn cn).toArray) (fun w hw=>aE (aR.b hw.drew) _ _ rfl rfl _ 3 rfl SY rfl KR) ?_
 refine cO _ rfl (fun w hw=>aM rfl (bI rfl (cG 10 #[.agg (bS As At An ns cs nt ct nn cn).toArray] (by go_simp) ((HE.out w (rNc.b hw.drew)).mono ?_)))) ?_
 ·rintro e w' ⟨A',c',rfl,r',b'⟩
  exact⟨_,rfl,b',A',c',rfl,r'⟩
 exact hk.out):p:=h (Hy k)
theorem Xm29 {p q:Prop} (k:q) (h:Hid q→p:=by
 intro hk
 have rSc:=rS.b bR
 have rTc:=rT.b bR
 have rNc:=rN.b bR
 have rsc:=rs.b bR
 have rIc:=rI.b bR
 have rOc:=rO.b bR
 have rhc:=rh.b bR
 have rfc:=rf.b bR
 have tc:=ht.b bR
 revert rSc rTc rNc rsc rIc rOc rhc rfc tc;exact hk.out):p:=h (Hy k)
theorem Lr (S:List (List UInt8 × Sl)) (As At An:Option Addr) (ns cs nt ct nn cn:Nat) (hS:S.length=ns) (hns:ns≤maxLen) (T:List (List UInt8)) (hT:T.length=nt) (N:List Sn) (hN:N.length=nn)
  (s:List UInt8) (Bs:Option Addr) (ms d0:Nat) (hs:s.length=ms)
  (ver lock:Nat) (hv:ver<4294967296) (hlk:lock<4294967296) (l1:List (lI × Sl)) (m1:List (fA × Sl)) (A1 A2:Option Addr) (n1 n2 c1 c2:Nat) (hn1:l1.length=n1) (hn2:m1.length=n2) (hm1:n1≤maxLen) (hm2:n2≤maxLen)
  (l:List Hd) (B:Option Addr) (m d:Nat) (hm:l.length=m) (h:Hd) (hok:h.ok) (tot:Nat) (htot:tot<4294967296) (hh:List (List UInt8)) (h32:dV hh) (fl:List UInt8) (Ah:Option Addr) (nh ch:Nat) (Af:Option Addr) (nf cf:Nat) (hnh:hh.length=nh) (hnf:fl.length=nf)
  (tip:Int) (htip: -9223372036854775808≤tip∧tip≤9223372036854775807) (x:List UInt8) (hx:x.length=32)
  (w:World) (ht:fW w) (rS:dU w As S) (rT:fD w At T) (rN:dI w An N) (rs:Rd w Bs (s.map bv)) (rI:fB w A1 l1) (rO:dH w A2 m1) (rl:oS w B l) (rh:Rd w Ah (eB hh)) (rf:Rd w Af (fl.map bv)) (hq1:DD (S.map (·.1)) nt nn=true) (hq2:vG (cQ ver l1 m1 lock)=true) (g1:m≤20) (g2:nh≤60) (g3:nf≤60) (g4:ms≤400):
  Calls prog 3 #[.agg (bS As At An ns cs nt ct nn cn).toArray,.slice Bs ms d0,.agg #[.int .u32 (ver:Int),.slice A1 n1 c1,.slice A2 n2 c2,.int .u32 (lock:Int)],.slice B m d,.agg (kL h tot Ah nh ch Af nf cf).toArray,.int .i64 tip,.agg (x.map bv).toArray] w fun e w'=>e= .returned (.bool true)∧Below w.heap.size w w':=by
 obtain⟨_,hns3,hnt60,hnn60⟩:=oV.1 hq1
 obtain⟨_,_,hi20,ho20⟩:=(AA _).1 hq2
 have hn20:n1≤20:=by rw[← hn1];simpa [cQ] using hi20
 have hm20:n2≤20:=by rw[← hn2];simpa [cQ] using ho20
 have hns300:ns≤300:=by rw[← hS];simpa using hns3
 clear hns3 hi20 ho20
 have t1:decide ((20:Int)<(m:Int))=false:=decide_eq_false OM
 have t1':decide (20<m)=false:=decide_eq_false OM
 have t2:decide ((60:Int)<(nh:Int))=false:=decide_eq_false OM
 have t2':decide (60<nh)=false:=decide_eq_false OM
 have t3:decide ((60:Int)<(nf:Int))=false:=decide_eq_false OM
 have t3':decide (60<nf)=false:=decide_eq_false OM
 have t4:decide ((400:Int)<(ms:Int))=false:=decide_eq_false OM
 have t4':decide (400<ms)=false:=decide_eq_false OM
 have HPl:=fun w' t r=>Gs l B m d hm OM w' t r
 have HM:=fun w' r=>PI l B m d hm OM w' r
 have hlok:∀ q ∈ l,q.ok:=rl.2
 obtain⟨D,hD⟩:=Nm (jP 60 l)
 have okD:nH D:=by rw[hD];exact Bz 60 l hlok
 have hD60:D.length≤60:=by rw[hD];exact AL 60 l
 rw[← hD] at HPl HM
 obtain⟨nD,hnD⟩:=Nm (D.length)
 rw[← hnD] at HM hD60
 have HE:=fun w' r=>SD As At An ns cs nt ct nn cn N hN OM w' r
 have HB:=fun w'=>Pm h hok tot Ah nh ch Af nf cf w'
 have HO:=fun w' a b=>Qw ver lock hv hlk l1 m1 A1 A2 n1 n2 c1 c2 hn1 hn2 OM OM w' a b
 have HSc:=fun A c w' a b=>Gj S As At A ns cs nt ct nn c hS OM s Bs ms d0 hs w' a b
 have HSr:=fun w' a b=>MG S As At An ns cs nt ct nn cn hS OM s Bs ms d0 hs w' a b
 obtain⟨SX,eX,hSX⟩:∃ S' e,iL (S.map (·.1)) s=(S',e):=⟨_,_,rfl⟩
 rw[hSX] at HSc HSr
 dsimp only at HSc HSr
 have HNc:=fun B1 B2 d1 d2 A c w' t a b p q=>NZ ver lock hv hlk l1 m1 B1 B2 n1 n2 d1 d2 hn1 hn2 S As At A ns cs nt ct nn c hS OM T hT OM w' t a b p q
 have HNr:=fun w' a b p q=>QB ver lock hv hlk l1 m1 A1 A2 n1 n2 c1 c2 hn1 hn2 OM OM S As At An ns cs nt ct nn cn hS OM T hT OM w' a b p q
 obtain⟨TN,kN,hTN⟩:∃ T' k,kF (S.map (·.1)) T (cQ ver l1 m1 lock)=(T',k):=⟨_,_,rfl⟩
 rw[hTN] at HNc HNr
 dsimp only at HNc HNr
 obtain⟨LP,kP,eP,hLP⟩:∃ L k e,iJ D T N h tot hh fl=(L,k,e):=⟨_,_,_,rfl⟩
 obtain⟨C,zD,hCz⟩:∃ C z,iT D tip x N=(C,z):=⟨_,_,rfl⟩
 have x71:=Hy (yC (h:=h) (tot:=tot) (Ah:=Ah) (nh:=nh) (ch:=ch) (Af:=Af) (nf:=nf) (cf:=cf) hok)
 have x32:=Hy (show (x.map bv).length=32 by rw[List.length_map];exact hx)
 have HA:=fun w' t=>Gy w' t
 have HF:=fun w' r=>QI S As At An ns cs nt ct nn cn hS hns w' r
 have HG:=fun w' a b=>Qv ver lock l1 m1 A1 A2 n1 n2 c1 c2 hn1 hn2 hm1 hm2 w' a b
 rw[hq1] at HF
 rw[hq2] at HG
 obtain⟨W,hW⟩:=Nm ((((w.alloc (.cells (bS As At An ns cs nt ct nn cn).toArray 26)).alloc (.cells #[.int .u32 (ver:Int),.slice A1 n1 c1,.slice A2 n2 c2,.int .u32 (lock:Int)] 32)).alloc (.cells (kL h tot Ah nh ch Af nf cf).toArray 39)).alloc (.cells (x.map bv).toArray 35))
 refine Xm80 ?_;intro H hH e bW
 have aW:Av W H 26 (bS As At An ns cs nt ct nn cn):=by rw[hW,hH];exact Av.alloc (Av.alloc (heap_alloc2_old _ _ _) _) _
 have xW:Av W (H+1) 32 [.int .u32 (ver:Int),.slice A1 n1 c1,.slice A2 n2 c2,.int .u32 (lock:Int)]:=by rw[hW,hH];exact Av.alloc (Av.alloc (heap_alloc2_new _ _ _) _) _
 have kW:Av W (H+2) 39 (kL h tot Ah nh ch Af nf cf):=by
  have:=heap_alloc_new ((w.alloc (.cells (bS As At An ns cs nt ct nn cn).toArray 26)).alloc (.cells #[.int .u32 (ver:Int),.slice A1 n1 c1,.slice A2 n2 c2,.int .u32 (lock:Int)] 32)) (.cells (kL h tot Ah nh ch Af nf cf).toArray 39)
  rw[e,e] at this
  rw[hW,hH];exact Av.alloc this _
 have yW:Av W (H+3) 35 (x.map bv):=by
  have:=heap_alloc_new (((w.alloc (.cells (bS As At An ns cs nt ct nn cn).toArray 26)).alloc (.cells #[.int .u32 (ver:Int),.slice A1 n1 c1,.slice A2 n2 c2,.int .u32 (lock:Int)] 32)).alloc (.cells (kL h tot Ah nh ch Af nf cf).toArray 39)) (.cells (x.map bv).toArray 35)
  rw[e,e,e] at this
  rw[hW,hH];exact this
 obtain⟨d68,d69,d70⟩:=yB (h:=h) (tot:=tot) (Ah:=Ah) (nh:=nh) (ch:=ch) (Af:=Af) (nf:=nf) (cf:=cf) hok
 have htW:=ht.b bW
 clear e
 replace HA:=Hy HA
 replace HF:=Hy HF
 replace HG:=Hy HG
 replace hW:=Hy hW
 replace hH:=Hy hH
 replace d68:=Hy d68
 replace d69:=Hy d69
 replace d70:=Hy d70
 replace hS:=Hy hS
 replace hT:=Hy hT
 replace hN:=Hy hN
 replace hs:=Hy hs
 replace hn1:=Hy hn1
 replace hn2:=Hy hn2
 replace hm:=Hy hm
 replace hnh:=Hy hnh
 replace hnf:=Hy hnf
 replace hx:=Hy hx
 replace hq1:=Hy hq1
 replace hq2:=Hy hq2
 replace HPl:=Hy HPl
 replace HM:=Hy HM
 replace hD:=Hy hD
 replace hnD:=Hy hnD
 replace HE:=Hy HE
 replace HB:=Hy HB
 replace HO:=Hy HO
 replace HSc:=Hy HSc
 replace HSr:=Hy HSr
 replace hSX:=Hy hSX
 replace HNc:=Hy HNc
 replace HNr:=Hy HNr
 replace hTN:=Hy hTN
 replace hLP:=Hy hLP
 replace hCz:=Hy hCz
 replace okD:=Hy okD
 replace hlok:=Hy hlok
 go_enter func3,ntmps3
 go_upto_region 1 with fail
 rw[← hW.out,← hH.out]
 go_upto_region 2 with (go_at_call 4;refine(HA.out W htW).mono ?_;rintro e w1 ⟨rfl,b1⟩)
 have aR:=aW.b b1
 have xR:=xW.b b1
 have kR:=kW.b b1
 have yR:=yW.b b1
 have bR:=bW.trans (b1.mono bW.size)
 clear b1 bW aW xW kW yW htW
 have rS1:=rS.b bR
 have rI1:=rI.b bR
 have rO1:=rO.b bR
 go_upto_region 4 with (first
   |((with_reducible refine LH aR 3 SY ?_ ?_);rfl)
   |(go_at_call 5;refine(HF.out w1 rS1).mono ?_;rintro e w2 ⟨rfl,b2⟩;have x2:=xR.b b2;have rI2:=rI1.b b2;have rO2:=rO1.b b2)
   |((with_reducible refine LG x2 4 Ti ?_ ?_ ?_);rfl;rfl)
   |(go_at_call 6;refine(HG.out w2 rI2 rO2).mono ?_;rintro e w3 ⟨rfl,b3⟩;have k3:=kR.b (b2.trans (b3.mono b2.size));have f69:=k3.cell 69 _ d69.out;have f70:=k3.cell 70 _ d70.out))
 have b23:=b2.trans (b3.mono b2.size)
 clear f69 f70 x2 rI2 rO2 k3 rS1 rI1 rO1 b2 b3
 replace aR:=aR.b b23
 replace xR:=xR.b b23
 replace kR:=kR.b b23
 replace yR:=yR.b b23
 replace bR:=bR.trans (b23.mono bR.size)
 clear b23
 go_upto_region 5 with (go_at_call 7;refine(HPl.out w3 (ht.b bR) (rl.b bR)).mono ?_;rintro e2 w4 ⟨vt,rfl,hvR,b4⟩)
 replace aR:=aR.b b4
 replace xR:=xR.b b4
 replace kR:=kR.b b4
 replace yR:=yR.b b4
 replace bR:=bR.trans (b4.mono bR.size)
 clear b4
 go_upto_region 6 with (first
  |(go_at_call 8;refine(HM.out w4 (rl.b bR)).mono ?_;rintro e w5 ⟨⟨A5,c5,rfl,hc5,rD⟩,b5⟩)
  |((with_reducible refine SN [.slice A5 nD c5,.int .i64 60] 2 ?_ ?_ ?_);rfl;rfl;intro w6 aU b6 k2 z2;clear k2;replace z2:=Hy z2))
 replace rD:=rD.b b6
 replace b6:=b5.trans (b6.mono b5.size)
 replace aR:=aR.b b6
 replace xR:=xR.b b6
 replace kR:=kR.b b6
 replace yR:=yR.b b6
 replace hvR:=hvR.b b6
 replace bR:=bR.trans (b6.mono bR.size)
 clear b5 b6
 refine Xm29 ?_;intro rSc rTc rNc rsc rIc rOc rhc rfc tc
 go_upto_region 7 with (first
  |((with_reducible refine LH aR 3 SY ?_ ?_);rfl)
  |(go_at_call 10;refine(HE.out w6 rNc).mono ?_;rintro e w7 ⟨A7,c7,rfl,rN7,b7⟩)
  |(go_at_call 9;refine(HSc.out A7 c7 w7 (rSc.b b7) (rsc.b b7)).mono ?_;rintro e w8 ⟨A8,n8,c8,S8,rfl,hS8,rS8,hSe8,b8⟩)
  |((with_reducible refine SN (bS A8 At A7 n8 c8 nt ct nn c7) 3 ?_ ?_ ?_);rfl;rfl;intro w9 a18 b9 k2 z2;clear k2;replace z2:=Hy z2))
 replace rS8:=rS8.b b9
 replace rN7:=(rN7.b b8).b b9
 replace b9:=(b7.trans (b8.mono b7.size)).trans (b9.mono (b7.trans (b8.mono b7.size)).size)
 clear rSc rTc rNc rsc rIc rOc rhc rfc tc
 replace aR:=aR.b b9
 replace xR:=xR.b b9
 replace kR:=kR.b b9
 replace yR:=yR.b b9
 replace hvR:=hvR.b b9
 replace aU:=aU.b b9
 replace rD:=rD.b b9
 replace bR:=bR.trans (b9.mono bR.size)
 clear b7 b8 b9
 refine Xm29 ?_;intro rSc rTc rNc rsc rIc rOc rhc rfc tc
 go_upto_region 8 with (first
  |((with_reducible refine LH aR 3 SY ?_ ?_);rfl)
  |(go_at_call 11;refine(HSr.out w9 rSc rsc).mono ?_;rintro e w10 ⟨A10,n10,c10,S10,rfl,hS10,rS10,hSe10,b10⟩)
  |((with_reducible refine SN (bS A10 At An n10 c10 nt ct nn cn) 3 ?_ ?_ ?_);rfl;rfl;intro w11 a20 b11 k2 z2;clear k2;replace z2:=Hy z2))
 replace rS10:=rS10.b b11
 replace b11:=b10.trans (b11.mono b10.size)
 clear rSc rTc rNc rsc rIc rOc rhc rfc tc
 replace aR:=aR.b b11
 replace xR:=xR.b b11
 replace kR:=kR.b b11
 replace yR:=yR.b b11
 replace hvR:=hvR.b b11
 replace aU:=aU.b b11
 replace rD:=rD.b b11
 replace a18:=a18.b b11
 replace rS8:=rS8.b b11
 replace rN7:=rN7.b b11
 replace bR:=bR.trans (b11.mono bR.size)
 clear b10 b11
 refine Xm29 ?_;intro rSc rTc rNc rsc rIc rOc rhc rfc tc
 refine kI [(7,9)] 9 [(1,qX As At ns cs nt ct nn N),(3,Ln ver lock n1 n2 l1 m1),(4,Fy As ns cs nn N TN kN),(5,Fy As ns cs nn N TN kN),(6,Lo As ns cs nn N TN),(8,Fx w11.heap.size)] cI KR (by simp only[pA,mP,List.push_toArray,List.cons_append,List.nil_append];rfl) KR (fun _ _ _ _ _ h=>h) KR KR KR KR cI.refl cI.trans (by intro p hp v w w' hR;simp only[List.mem_cons,List.not_mem_nil,or_false] at hp;rcases hp with rfl|rfl|rfl|rfl|rfl|rfl;exact qX.mono hR;exact Ln.mono hR;exact Fy.mono hR;exact Fy.mono hR;exact Lo.mono hR;exact Fx.mono hR) ?_
 refine Xm37 ?_
 refine ZP (c:=.agg (([.int .u32 (ver:Int),.slice A1 n1 c1,.slice A2 n2 c2,.int .u32 (lock:Int)]:List Value)).toArray) (fun w hw=>aE (xR.b hw.drew) _ _ rfl rfl _ 4 rfl Ti rfl KR) ?_
 refine cO _ rfl (fun w hw=>aM rfl (bI rfl (cG 13 #[.agg ([.int .u32 (ver:Int),.slice A1 n1 c1,.slice A2 n2 c2,.int .u32 (lock:Int)]:List Value).toArray] (by go_simp) ((HO.out w (rIc.b hw.drew) (rOc.b hw.drew)).mono ?_)))) ?_
 ·rintro e w' ⟨B1,B2,d1,d2,rfl,_,_,r1,r2,b'⟩
  exact⟨_,rfl,b',B1,B2,d1,d2,rfl,r1,r2⟩
 refine cO _ rfl (fun w hw=>aC rfl rfl fun v hv=>aC rfl rfl fun v' hv'=>aM rfl (bI rfl ?_)) ?_
 ·obtain⟨A',c',rfl,r'⟩:=hv
  obtain⟨B1,B2,d1,d2,rfl,r1,r2⟩:=hv'
  refine cG 12 #[.agg (bS As At A' ns cs nt ct nn c').toArray,.agg #[.int .u32 (ver:Int),.slice B1 n1 d1,.slice B2 n2 d2,.int .u32 (lock:Int)]] (by go_simp) ((HNc.out B1 B2 d1 d2 A' c' w (tc.b hw.drew) r1 r2 (rSc.b hw.drew) (rTc.b hw.drew)).mono ?_)
  rintro e w' ⟨A2,n3,c3,rfl,hl2,r3,b3⟩
  exact⟨_,rfl,b3,A2,n3,c3,A',c',rfl,hl2,r3,r'.b b3⟩
 refine cO _ rfl (fun w hw=>bN rfl (bN rfl (aC rfl rfl fun v hv=>aM rfl (bI rfl ?_)))) ?_
 ·exact⟨cI.refl _,hv⟩
 refine cO _ rfl (fun w hw=>bN rfl (bN rfl (bN rfl (aC rfl rfl fun v hv=>aM rfl (bI rfl ?_))))) ?_
 ·obtain⟨A2,n3,c3,A',c',rfl,hl2,r3,r4⟩:=hv
  exact⟨cI.refl _,A2,n3,c3,A',c',rfl,hl2,r3,r4⟩
 refine rY rfl rfl (c:=.bool kN) (fun w hw=>bN rfl (bN rfl (bN rfl (aC rfl rfl fun v hv=>aM rfl (bI rfl ?_))))) zZ ?_
 ·obtain⟨A2,n3,c3,A',c',rfl,hl2,r3,r4⟩:=hv
  exact⟨cI.refl _,rfl⟩
 refine cO _ rfl (fun w hw=>aM rfl (bI rfl ?_)) ?_
 ·exact Xc159
 refine bO fun w12 hw12=>aC rfl rfl fun v1 hv1=>aC rfl rfl fun v2 hv2=>aC rfl rfl fun v3 hv3=>aC rfl rfl fun v4 hv4=>aC rfl rfl fun v5 hv5=>aC rfl rfl fun v6 hv6=>aF ?_
 obtain⟨A12,n12,c12,E12,e12,rfl,hl12,rT12,rN12⟩:=hv5
 obtain⟨G22,rfl,hG22,y22⟩:=hv6
 clear hv1 hv2 hv3 hv4
 refine Xm140 ?_
 have b12:Below w11.heap.size w11 w12:=hw12.drew
 go_upto_region 9 with ((with_reducible refine SF b12 y22 hG22 (bS As A12 E12 ns cs n12 c12 nn e12) 3 ?_ ?_ ?_);rfl;rfl;intro w13 a22 b22 k22 z22)
 have fr:=Fr.mk (S:=fun i=>i=G22) (b22.os.trans b12.os.symm) (b22.tape.trans b12.tape.symm) (b22.output.trans b12.output.symm) (by rw[z22];exact Nat.le_refl _) (fun i _ hi=>k22 i hi)
 replace rT12:=rT12.off y22 fr
 replace rN12:=rN12.off y22 fr
 clear rSc rTc rNc rsc rIc rOc rhc rfc tc
 replace aR:=aR.b b22
 replace xR:=xR.b b22
 replace kR:=kR.b b22
 replace yR:=yR.b b22
 replace hvR:=hvR.b b22
 replace aU:=aU.b b22
 replace rD:=rD.b b22
 replace a18:=a18.b b22
 replace rS8:=rS8.b b22
 replace rN7:=rN7.b b22
 replace a20:=a20.b b22
 replace rS10:=rS10.b b22
 replace bR:=bR.trans (b22.mono bR.size)
 clear b12 b22 k22 z22 fr y22 hG22 hw12
 refine Xm29 ?_;intro rSc rTc rNc rsc rIc rOc rhc rfc tc
 go_upto_region 10 with (first
  |((with_reducible refine LH aR 3 SY ?_ ?_);rfl)
  |((with_reducible refine LH xR 4 Ti ?_ ?_);rfl)
  |(go_at_call 14;refine(HNr.out w13 rIc rOc rSc rTc).mono ?_;rintro e w14 ⟨A13,n13,c13,rfl,hl13,rT13,b14⟩)
  |((with_reducible refine SN (bS As A13 An ns cs n13 c13 nn cn) 3 ?_ ?_ ?_);rfl;rfl;intro w15 a24 b15 k2 z2;clear k2;replace z2:=Hy z2))
 replace rT13:=rT13.b b15
 replace b15:=b14.trans (b15.mono b14.size)
 clear rSc rTc rNc rsc rIc rOc rhc rfc tc
 replace aR:=aR.b b15
 replace xR:=xR.b b15
 replace kR:=kR.b b15
 replace yR:=yR.b b15
 replace hvR:=hvR.b b15
 replace aU:=aU.b b15
 replace rD:=rD.b b15
 replace a18:=a18.b b15
 replace rS8:=rS8.b b15
 replace rN7:=rN7.b b15
 replace a20:=a20.b b15
 replace rS10:=rS10.b b15
 replace a22:=a22.b b15
 replace rT12:=rT12.b b15
 replace rN12:=rN12.b b15
 replace bR:=bR.trans (b15.mono bR.size)
 clear b14 b15
 have HP:=fun A' c' w' t hv rT rN rh rf=>KE As At A' ns cs nt ct nn c' T hT.out OM N hN.out OM vt D h hok tot htot hh h32 fl Ah nh ch Af nf cf hnh.out hnf.out OM OM w' t hv rT rN rh rf
 have HRP:=fun w' rD rT rN rh rf=>Py As At An ns cs nt ct nn cn T hT.out OM N hN.out OM A5 nD c5 60 D hnD.out.symm okD.out OM h hok tot htot hh h32 fl Ah nh ch Af nf cf hnh.out hnf.out OM OM w' rD rT rN rh rf
 rw[hLP.out] at HP HRP
 dsimp only at HP
 replace HP:=Hy HP
 replace HRP:=Hy HRP
 refine Xm29 ?_;intro rSc rTc rNc rsc rIc rOc rhc rfc tc
 refine kI [(8,11),(9,11),(9,12)] 11 [(1,qX As At ns cs nt ct nn N),(5,Fw As At ns cs nt ct LP kP eP),(6,Fw As At ns cs nt ct LP kP eP),(7,QV As At ns cs nt ct LP),(10,Fx w15.heap.size)] cI KR (by simp only[pA,mP,List.push_toArray,List.cons_append,List.nil_append];rfl) KR (fun _ _ _ _ _ h=>h) KR KR KR KR cI.refl cI.trans (by intro p hp v w w' hR;simp only[List.mem_cons,List.not_mem_nil,or_false] at hp;rcases hp with rfl|rfl|rfl|rfl|rfl;exact qX.mono hR;exact Fw.mono hR;exact Fw.mono hR;exact QV.mono hR;exact Fx.mono hR) ?_
 refine Xm37 ?_
 refine ZM ?_
 refine ZP (c:=.agg (kL h tot Ah nh ch Af nf cf).toArray) (fun w hw=>aE (kR.b hw.drew) _ _ rfl rfl _ 71 x71.out underlying39 rfl KR) ?_
 refine ZC (c:=.agg (kL h tot Ah nh ch Af nf cf).toArray) 16 #[.agg (kL h tot Ah nh ch Af nf cf).toArray] (fun w hw=>(HB.out w).mono ?_) ?_
 ·rintro e w' ⟨rfl,b⟩
  exact⟨rfl,b⟩
 refine cO _ rfl (fun w hw=>aC rfl rfl fun v hv=>aM rfl (bI rfl ?_)) ?_
 ·obtain⟨A',c',rfl,r'⟩:=hv
  refine cG 15 #[.agg (bS As At A' ns cs nt ct nn c').toArray,vt,.agg (kL h tot Ah nh ch Af nf cf).toArray] (by go_simp) ((HP.out A' c' w (tc.b hw.drew) (hvR.b hw.drew) (rTc.b hw.drew) r' (rhc.b hw.drew) (rfc.b hw.drew)).mono ?_)
  rintro e w' ⟨A2,n2,c2,rfl,hl2,r2,b2⟩
  exact⟨_,rfl,b2,A2,n2,c2,rfl,hl2,r2⟩
 refine cO _ rfl (fun w hw=>bN rfl (aC rfl rfl fun v hv=>aM rfl (bI rfl ?_))) ?_
 ·exact⟨cI.refl _,hv⟩
 refine cO _ rfl (fun w hw=>bN rfl (bN rfl (aC rfl rfl fun v hv=>aM rfl (bI rfl ?_)))) ?_
 ·obtain⟨A2,n2,c2,rfl,hl2,r2⟩:=hv
  exact⟨cI.refl _,A2,n2,c2,rfl,hl2,r2⟩
 refine rY rfl rfl (c:=.int .i64 (kP:Int)) (fun w hw=>bN rfl (bN rfl (aC rfl rfl fun v hv=>aM rfl (bI rfl ?_)))) zZ ?_
 ·obtain⟨A2,n2,c2,rfl,hl2,r2⟩:=hv
  exact⟨cI.refl _,rfl⟩
 refine rY rfl rfl (c:=.int .i64 (eP:Int)) (fun w hw=>bN rfl (bN rfl (aC rfl rfl fun v hv=>aM rfl (bI rfl ?_)))) zZ ?_
 ·obtain⟨A2,n2,c2,rfl,hl2,r2⟩:=hv
  exact⟨cI.refl _,rfl⟩
 refine cO _ rfl (fun w hw=>aM rfl (bI rfl ?_)) ?_
 ·exact Xc159
 refine bO fun w16 hw16=>aC rfl rfl fun v1 hv1=>aC rfl rfl fun v2 hv2=>aC rfl rfl fun v3 hv3=>aC rfl rfl fun v4 hv4=>aC rfl rfl fun v5 hv5=>aF ?_
 obtain⟨A15,n15,c15,rfl,hl15,rN15⟩:=hv4
 obtain⟨G26,rfl,hG26,y26⟩:=hv5
 clear hv1 hv2 hv3
 refine Xm140 ?_
 have b16:Below w15.heap.size w15 w16:=hw16.drew
 go_upto_region 11 with ((with_reducible refine SF b16 y26 hG26 (bS As At A15 ns cs nt ct n15 c15) 3 ?_ ?_ ?_);rfl;rfl;intro w17 a26 b26 k26 z26)
 have fr:=Fr.mk (S:=fun i=>i=G26) (b26.os.trans b16.os.symm) (b26.tape.trans b16.tape.symm) (b26.output.trans b16.output.symm) (by rw[z26];exact Nat.le_refl _) (fun i _ hi=>k26 i hi)
 replace rN15:=rN15.off y26 fr
 clear rSc rTc rNc rsc rIc rOc rhc rfc tc
 replace aR:=aR.b b26
 replace xR:=xR.b b26
 replace kR:=kR.b b26
 replace yR:=yR.b b26
 replace hvR:=hvR.b b26
 replace aU:=aU.b b26
 replace rD:=rD.b b26
 replace a18:=a18.b b26
 replace rS8:=rS8.b b26
 replace rN7:=rN7.b b26
 replace a20:=a20.b b26
 replace rS10:=rS10.b b26
 replace a22:=a22.b b26
 replace rT12:=rT12.b b26
 replace rN12:=rN12.b b26
 replace a24:=a24.b b26
 replace rT13:=rT13.b b26
 replace bR:=bR.trans (b26.mono bR.size)
 clear b16 b26 k26 z26 fr y26 hG26 hw16 HP
 refine Xm29 ?_;intro rSc rTc rNc rsc rIc rOc rhc rfc tc
 go_upto_region 12 with (first
  |((with_reducible refine LH aR 3 SY ?_ ?_);rfl)
  |((with_reducible refine LH aU 2 Ta ?_ ?_);rfl)
  |((with_reducible refine LF kR 71 x71.out underlying39 ?_ ?_);rfl)
  |(go_at_call 17;refine(HRP.out w17 rD rTc rNc rhc rfc).mono ?_;rintro e w18 ⟨A17,n17,c17,rfl,hl17,rN17,b18⟩)
  |((with_reducible refine SN (bS As At A17 ns cs nt ct n17 c17) 3 ?_ ?_ ?_);rfl;rfl;intro w19 a29 b19 k2 z2;clear k2;replace z2:=Hy z2))
 replace rN17:=rN17.b b19
 replace b19:=b18.trans (b19.mono b18.size)
 clear rSc rTc rNc rsc rIc rOc rhc rfc tc
 replace aR:=aR.b b19
 replace xR:=xR.b b19
 replace kR:=kR.b b19
 replace yR:=yR.b b19
 replace hvR:=hvR.b b19
 replace aU:=aU.b b19
 replace rD:=rD.b b19
 replace a18:=a18.b b19
 replace rS8:=rS8.b b19
 replace rN7:=rN7.b b19
 replace a20:=a20.b b19
 replace rS10:=rS10.b b19
 replace a22:=a22.b b19
 replace rT12:=rT12.b b19
 replace rN12:=rN12.b b19
 replace a24:=a24.b b19
 replace rT13:=rT13.b b19
 replace a26:=a26.b b19
 replace rN15:=rN15.b b19
 replace bR:=bR.trans (b19.mono bR.size)
 clear b18 b19 HRP
 have HDc:=fun A c w' hv r=>JS As At A ns cs nt ct nn c N hN.out OM vt D okD.out tip htip x hx.out w' hv r
 have HDr:=fun w' r r2=>Pn A5 nD c5 60 D hnD.out.symm okD.out OM tip As At An ns cs nt ct nn cn N hN.out OM x hx.out w' r r2
 rw[hCz.out] at HDc HDr
 dsimp only at HDc HDr
 have hCok:C.ok:=by
  have e:C=(iT D tip x N).1:=by rw[hCz.out]
  rw[e,iT]
  split
  ·rename_i sn hsn
   exact kD (rN.2 sn (List.mem_of_find?_eq_some hsn))
  ·exact jV
 have C66:=Hy (cH hCok)
 have Cone:=Hy (List.all_eq_true.2 (jA C))
 have zlen:=Hy (cH jV)
 replace HDc:=Hy HDc
 replace HDr:=Hy HDr
 have hzc:=qQ
 have hzr:=rQ
 refine Xm29 ?_;intro rSc rTc rNc rsc rIc rOc rhc rfc tc
 refine kI [(8,10)] 10 [(1,qX As At ns cs nt ct nn N),(9,Lp w19.heap.size)] cI KR (by simp only[pA,mP,List.push_toArray,List.cons_append,List.nil_append];rfl) KR (fun _ _ _ _ _ h=>h) KR KR KR KR cI.refl cI.trans (by intro p hp v w w' hR;simp only[List.mem_cons,List.not_mem_nil,or_false] at hp;rcases hp with rfl|rfl;exact qX.mono hR;exact Lp.mono hR) ?_
 refine Xm37 ?_
 refine ZM ?_
 refine ZM ?_
 refine ZP (c:=.agg (x.map bv).toArray) (fun w hw=>aE (yR.b hw.drew) _ _ rfl rfl _ 32 x32.out SS rfl KR) ?_
 refine rY rfl rfl (c:=.tuple #[.agg (eT C).toArray,.bool zD]) (fun w hw=>aC rfl rfl fun v hv=>aM rfl (bI rfl ?_)) zZ ?_
 ·obtain⟨A',c',rfl,r'⟩:=hv
  refine cG 18 #[.agg (bS As At A' ns cs nt ct nn c').toArray,vt,.int .i64 tip,.agg (x.map bv).toArray] (by go_simp) ((HDc.out A' c' w (hvR.b hw.drew) r').mono ?_)
  rintro e w' ⟨rfl,b'⟩
  exact⟨_,rfl,b',rfl⟩
 refine ZM ?_
 refine ZQ (c:=.agg (eT C).toArray) ?_
 refine ZQ (c:=.bool zD) ?_
 refine cO _ rfl (fun w hw=>aM rfl (bI rfl ?_)) ?_
 ·exact⟨(Below.refl _ _).alloc LR _,w.heap.size,rfl,hw.drew.size,Lq _⟩
 refine bO fun w20 hw20=>aC rfl rfl fun v1 hv1=>aC rfl rfl fun v2 hv2=>aF ?_
 obtain⟨G32,rfl,hG32,y32⟩:=hv2
 clear hv1
 refine Xm140 ?_
 have b20:Below w19.heap.size w19 w20:=hw20.drew
 go_upto_region 13 with ((with_reducible refine SF b20 y32 hG32 (eT C) 66 ?_ ?_ ?_ (hn:=C66.out) (ho:=zlen.out) (h1:=Cone.out));rfl;rfl;intro w21 a32 b32 k32 z32)
 clear rSc rTc rNc rsc rIc rOc rhc rfc tc
 replace aR:=aR.b b32
 replace xR:=xR.b b32
 replace kR:=kR.b b32
 replace yR:=yR.b b32
 replace hvR:=hvR.b b32
 replace aU:=aU.b b32
 replace rD:=rD.b b32
 replace a18:=a18.b b32
 replace rS8:=rS8.b b32
 replace rN7:=rN7.b b32
 replace a20:=a20.b b32
 replace rS10:=rS10.b b32
 replace a22:=a22.b b32
 replace rT12:=rT12.b b32
 replace rN12:=rN12.b b32
 replace a24:=a24.b b32
 replace rT13:=rT13.b b32
 replace a26:=a26.b b32
 replace rN15:=rN15.b b32
 replace a29:=a29.b b32
 replace rN17:=rN17.b b32
 replace bR:=bR.trans (b32.mono bR.size)
 clear b20 b32 k32 z32 y32 hG32 hw20 HDc
 refine Xm29 ?_;intro rSc rTc rNc rsc rIc rOc rhc rfc tc
 go_upto_region 14 with (first
  |((with_reducible refine LH aR 3 SY ?_ ?_);rfl)
  |((with_reducible refine LH aU 2 Ta ?_ ?_);rfl)
  |((with_reducible refine LF yR 32 x32.out SS ?_ ?_);rfl)
  |(go_at_call 19;refine(HDr.out w21 rD rNc).mono ?_;rintro e w22 ⟨rfl,b22⟩)
  |((with_reducible refine SN (eT C) 66 ?_ ?_ ?_ (hn:=C66.out) (ho:=by with_unfolding_all exact zlen.out) (h1:=Cone.out));rfl;rfl;intro w23 a34 b23 k2 z2;clear k2;replace z2:=Hy z2))
 replace b23:=b22.trans (b23.mono b22.size)
 clear rSc rTc rNc rsc rIc rOc rhc rfc tc
 replace aR:=aR.b b23
 replace xR:=xR.b b23
 replace kR:=kR.b b23
 replace yR:=yR.b b23
 replace hvR:=hvR.b b23
 replace aU:=aU.b b23
 replace rD:=rD.b b23
 replace a18:=a18.b b23
 replace rS8:=rS8.b b23
 replace rN7:=rN7.b b23
 replace a20:=a20.b b23
 replace rS10:=rS10.b b23
 replace a22:=a22.b b23
 replace rT12:=rT12.b b23
 replace rN12:=rN12.b b23
 replace a24:=a24.b b23
 replace rT13:=rT13.b b23
 replace a26:=a26.b b23
 replace rN15:=rN15.b b23
 replace a29:=a29.b b23
 replace rN17:=rN17.b b23
 replace a32:=a32.b b23
 replace bR:=bR.trans (b23.mono bR.size)
 clear b22 b23 HDr
 have e1:=congrArg List.length (hSe8.trans hSe10.symm)
 simp only[List.length_map] at e1
 obtain rfl:n8=n10:=by omega
 obtain rfl:n12=n13:=by omega
 obtain rfl:n15=n17:=by omega
 have f1:=DT (S.map (·.1)) s
 rw[hSX.out,List.length_map,hS.out,← hSe8,List.length_map] at f1
 have f2:=Iy (S.map (·.1)) T (cQ ver l1 m1 lock)
 rw[hTN.out,hT.out] at f2
 have f3:=Fz D T N h tot hh fl (by rw[hN.out];omega)
 rw[hLP.out] at f3
 dsimp only at f1 f2 f3
 have HS1:=Hy (fun A' c' w' a b c d e f=>Lm S8 S10 (hSe8.trans hSe10.symm) T N A8 At A' A10 At An n8 c8 c10 nt ct ct nn c' cn hS8 OM hT.out OM hN.out OM w' a b c d e f)
 have HS2:=Hy (fun A' c' w' a b c d e f=>Lm S S rfl TN N As A12 A' As A13 An ns cs cs n12 c12 c13 nn c' cn hS.out OM hl12 OM hN.out OM w' a b c d e f)
 have HS3:=Hy (fun A' c' w' a b c d e f=>Lm S S rfl T LP As At A' As At A17 ns cs cs nt ct ct n15 c' c17 hS.out OM hT.out OM hl15 OM w' a b c d e f)
 rw[hl15] at f3
 rw[hl12] at f2
 replace hl12:=Hy hl12
 replace hl15:=Hy hl15
 replace hS8:=Hy hS8
 clear hS10 hSe8 hSe10 hl13 hl17 e1
 refine Xm29 ?_;intro rSc rTc rNc rsc rIc rOc rhc rfc tc
 refine nS [(1,qX A8 At n8 c8 nt ct nn N),(12,qX As A12 ns cs n12 c12 nn N),(24,qX As At ns cs nt ct n15 LP)] cI KR KR KR cI.refl cI.trans (by intro p hp v w w' hR;simp only[List.mem_cons,List.not_mem_nil,or_false] at hp;rcases hp with rfl|rfl|rfl;exact qX.mono hR;exact qX.mono hR;exact qX.mono hR) ?_
 refine ZP (c:=.agg (bS A8 At A7 n8 c8 nt ct nn c7).toArray) (fun w hw=>aE (a18.b hw.drew) _ _ rfl rfl _ 3 rfl SZ rfl KR) ?_
 refine cO _ rfl (fun w hw=>aM rfl (bI rfl (cG 21 #[.agg (bS A8 At A7 n8 c8 nt ct nn c7).toArray] (by go_simp) ((KI A8 At A7 n8 c8 nt ct nn c7 N hN.out OM w (rN7.b hw.drew)).mono ?_)))) ?_
 ·rintro e w' ⟨A',c',rfl,r',b'⟩
  exact⟨_,rfl,b',A',c',rfl,r'⟩
 refine ZP (c:=.agg (bS A10 At An n8 c10 nt ct nn cn).toArray) (fun w hw=>aE (a20.b hw.drew) _ _ rfl rfl _ 3 rfl SY rfl KR) ?_
 refine rY rfl rfl (c:=.bool true) (fun w hw=>aC rfl rfl fun v hv=>aM rfl (bI rfl ?_)) zZ ?_
 ·obtain⟨A',c',rfl,r'⟩:=hv
  refine cG 20 #[.agg (bS A8 At A' n8 c8 nt ct nn c').toArray,.agg (bS A10 At An n8 c10 nt ct nn cn).toArray] (by go_simp) ((HS1.out A' c' w (rS8.b hw.drew) (rS10.b hw.drew) (rTc.b hw.drew) (rTc.b hw.drew) r' (rNc.b hw.drew)).mono ?_)
  rintro e w' ⟨rfl,b'⟩
  exact⟨_,rfl,b',rfl⟩
 refine ZQ (c:=.bool false) ?_
 refine ZM ?_
 refine ZM ?_
 refine ZM ?_
 refine ZQ (c:=.bool false) ?_
 refine ZK ?_
 refine ZM ?_
 refine ZP (c:=.agg (bS As A12 E12 ns cs n12 c12 nn e12).toArray) (fun w hw=>aE (a22.b hw.drew) _ _ rfl rfl _ 3 rfl SZ rfl KR) ?_
 refine cO _ rfl (fun w hw=>aM rfl (bI rfl (cG 21 #[.agg (bS As A12 E12 ns cs n12 c12 nn e12).toArray] (by go_simp) ((KI As A12 E12 ns cs n12 c12 nn e12 N hN.out OM w (rN12.b hw.drew)).mono ?_)))) ?_
 ·rintro e w' ⟨A',c',rfl,r',b'⟩
  exact⟨_,rfl,b',A',c',rfl,r'⟩
 refine ZP (c:=.agg (bS As A13 An ns cs n12 c13 nn cn).toArray) (fun w hw=>aE (a24.b hw.drew) _ _ rfl rfl _ 3 rfl SY rfl KR) ?_
 refine rY rfl rfl (c:=.bool true) (fun w hw=>bN rfl (aC rfl rfl fun v hv=>aM rfl (bI rfl ?_))) zZ ?_
 ·obtain⟨A',c',rfl,r'⟩:=hv
  refine cG 20 #[.agg (bS As A12 A' ns cs n12 c12 nn c').toArray,.agg (bS As A13 An ns cs n12 c13 nn cn).toArray] (by go_simp) ((HS2.out A' c' w (rSc.b hw.drew) (rSc.b hw.drew) (rT12.b hw.drew) (rT13.b hw.drew) r' (rNc.b hw.drew)).mono ?_)
  rintro e w' ⟨rfl,b'⟩
  exact⟨_,rfl,b',rfl⟩
 refine ZQ (c:=.bool false) ?_
 refine ZK ?_
 refine ZM ?_
 refine ZM ?_
 refine ZM ?_
 refine ZQ (c:=.bool false) ?_
 refine ZK ?_
 refine ZM ?_
 refine ZP (c:=.agg (bS As At A15 ns cs nt ct n15 c15).toArray) (fun w hw=>aE (a26.b hw.drew) _ _ rfl rfl _ 3 rfl SZ rfl KR) ?_
 refine cO _ rfl (fun w hw=>aM rfl (bI rfl (cG 21 #[.agg (bS As At A15 ns cs nt ct n15 c15).toArray] (by go_simp) ((KI As At A15 ns cs nt ct n15 c15 LP hl15.out OM w (rN15.b hw.drew)).mono ?_)))) ?_
 ·rintro e w' ⟨A',c',rfl,r',b'⟩
  exact⟨_,rfl,b',A',c',rfl,r'⟩
 refine ZP (c:=.agg (bS As At A17 ns cs nt ct n15 c17).toArray) (fun w hw=>aE (a29.b hw.drew) _ _ rfl rfl _ 3 rfl SY rfl KR) ?_
 refine rY rfl rfl (c:=.bool true) (fun w hw=>bN rfl (bN rfl (aC rfl rfl fun v hv=>aM rfl (bI rfl ?_)))) zZ ?_
 ·obtain⟨A',c',rfl,r'⟩:=hv
  refine cG 20 #[.agg (bS As At A' ns cs nt ct n15 c').toArray,.agg (bS As At A17 ns cs nt ct n15 c17).toArray] (by go_simp) ((HS3.out A' c' w (rSc.b hw.drew) (rSc.b hw.drew) (rTc.b hw.drew) (rTc.b hw.drew) r' (rN17.b hw.drew)).mono ?_)
  rintro e w' ⟨rfl,b'⟩
  exact⟨_,rfl,b',rfl⟩
 refine ZQ (c:=.bool false) ?_
 refine ZK ?_
 refine ZM ?_
 refine ZM ?_
 refine ZM ?_
 refine ZQ (c:=.bool false) ?_
 refine ZK ?_
 refine ZM ?_
 refine ZM ?_
 refine ZM ?_
 refine ZQ (c:=.bool false) ?_
 refine ZK ?_
 refine bO fun w24 hw24=>aC rfl rfl fun v1 hv1=>aC rfl rfl fun v2 hv2=>aC rfl rfl fun v3 hv3=>aF ?_
 simp only[List.set_cons_succ,List.set_cons_zero]
 clear hv1 hv2 hv3
 have b24:Below w23.heap.size w23 w24:=hw24.drew
 clear rSc rTc rNc rsc rIc rOc rhc rfc tc
 replace aR:=aR.b b24
 replace xR:=xR.b b24
 replace kR:=kR.b b24
 replace yR:=yR.b b24
 replace hvR:=hvR.b b24
 replace aU:=aU.b b24
 replace rD:=rD.b b24
 replace a18:=a18.b b24
 replace rS8:=rS8.b b24
 replace rN7:=rN7.b b24
 replace a20:=a20.b b24
 replace rS10:=rS10.b b24
 replace a22:=a22.b b24
 replace rT12:=rT12.b b24
 replace rN12:=rN12.b b24
 replace a24:=a24.b b24
 replace rT13:=rT13.b b24
 replace a26:=a26.b b24
 replace rN15:=rN15.b b24
 replace a29:=a29.b b24
 replace rN17:=rN17.b b24
 replace a32:=a32.b b24
 replace a34:=a34.b b24
 replace bR:=bR.trans (b24.mono bR.size)
 clear b24 hw24
 go_upto_region 16 with fail
 obtain⟨LL,hLL⟩:=Nm (N.map (fF D tip))
 have hLn:LL.length=nn:=by rw[hLL,List.length_map];exact hN.out
 have hLk:∀ c ∈ LL,c.ok:=by
  intro c hc
  rw[hLL] at hc
  obtain⟨q,hq,rfl⟩:=List.mem_map.1 hc
  exact kD (rN.2 q hq)
 have HL:=Hy (fun w'=>Oc C hCok w')
 have EC:=Hy (fun p q w'=>OT hCok hCok p q w')
 rw[show (C==C)=true from beq_self_eq_true C] at EC
 have HAc:=fun A' c' w' hv r=>RI As At A' ns cs nt ct nn c' N hN.out OM vt D okD.out tip htip w' hv r
 have HAr:=fun w' r r2=>Od A5 nD c5 60 D hnD.out.symm okD.out OM tip As At An ns cs nt ct nn cn N hN.out OM w' r r2
 rw[← hLL] at HAc HAr
 have HLC:=Hy (fun A' c' w' r=>PG LL hLk nn hLn OM A' c' w' r)
 have HCC:=Hy (fun A' A2 c' c2 w' r r2=>PE LL hLk nn hLn OM A' A2 c' c2 w' r r2)
 replace HAc:=Hy HAc
 replace HAr:=Hy HAr
 clear hLL hLn
 refine Xm29 ?_;intro rSc rTc rNc rsc rIc rOc rhc rfc tc
 refine nS [(14,qX As At ns cs nt ct nn N),(17,Cl nn LL),(18,Cl nn LL),(22,Cl nn LL)] cI KR KR KR cI.refl cI.trans (by intro p hp v w w' hR;simp only[List.mem_cons,List.not_mem_nil,or_false] at hp;rcases hp with rfl|rfl|rfl|rfl;exact qX.mono hR;exact Cl.mono hR;exact Cl.mono hR;exact Cl.mono hR) ?_
 refine ZM ?_
 refine ZM ?_
 refine ZP (c:=.agg (eT C).toArray) (fun w hw=>aE (a32.b hw.drew) _ _ rfl rfl _ 66 C66.out Tk rfl KR) ?_
 refine ZC (c:=.agg (eT C).toArray) 22 #[.agg (eT C).toArray] (fun w hw=>(HL.out w).mono ?_) ?_
 ·rintro e w' ⟨rfl,b⟩
  exact⟨rfl,b⟩
 refine ZP (c:=.agg (eT C).toArray) (fun w hw=>aE (a34.b hw.drew) _ _ rfl rfl _ 66 C66.out Tn rfl KR) ?_
 refine jN cI.refl rfl rfl rfl rfl _ _ _ _ _ rfl pB pB (c:=.bool true) (fun w=>EC.out _ _ w) zZ ?_
 refine ZK ?_
 refine ZM ?_
 refine ZM ?_
 refine ZM ?_
 refine ZQ (c:=.bool true) ?_
 refine ZK ?_
 refine ZM ?_
 refine Xm37 ?_
 refine ZM ?_
 refine ZM ?_
 refine cO _ rfl (fun w hw=>aC rfl rfl fun v hv=>aM rfl (bI rfl ?_)) ?_
 ·obtain⟨A',c',rfl,r'⟩:=hv
  refine cG 25 #[.agg (bS As At A' ns cs nt ct nn c').toArray,vt,.int .i64 tip] (by go_simp) ((HAc.out A' c' w (hvR.b hw.drew) r').mono ?_)
  rintro e w' ⟨u,rfl,o',b'⟩
  obtain⟨A2,c2,rfl,_⟩:=cM o'
  exact⟨_,rfl,b',A2,c2,rfl,fV o'⟩
 refine cO _ rfl (fun w hw=>bN rfl (aC rfl rfl fun v hv=>aM rfl (bI rfl ?_))) ?_
 ·obtain⟨A',c',rfl,r'⟩:=hv
  refine cG 24 #[.slice A' nn c'] (by go_simp) ((HLC.out A' c' w r').mono ?_)
  rintro e w' ⟨⟨A2,c2,rfl,r2⟩,b'⟩
  exact⟨_,rfl,b',A2,c2,rfl,r2⟩
 refine ZP (c:=.agg (bS As At An ns cs nt ct nn cn).toArray) (fun w hw=>aE (aR.b hw.drew) _ _ rfl rfl _ 3 rfl SY rfl KR) ?_
 refine ZP (c:=.agg ([.slice A5 nD c5,.int .i64 60]).toArray) (fun w hw=>aE (aU.b hw.drew) _ _ rfl rfl _ 2 rfl Ta rfl KR) ?_
 refine ZM ?_
 refine cO _ rfl (fun w hw=>aM rfl (bI rfl (cG 26 #[.agg (bS As At An ns cs nt ct nn cn).toArray,.agg #[.slice A5 nD c5,.int .i64 60],.int .i64 tip] (by go_simp) ((HAr.out w (rD.b hw.drew) (rNc.b hw.drew)).mono ?_)))) ?_
 ·rintro e w' ⟨⟨u,rfl,o'⟩,b'⟩
  obtain⟨A2,c2,rfl,_⟩:=cM o'
  exact⟨_,rfl,b',A2,c2,rfl,fV o'⟩
 refine rY rfl rfl (c:=.bool true) (fun w hw=>bN rfl (bN rfl (aC rfl rfl fun v hv=>aC rfl rfl fun v' hv'=>aM rfl (bI rfl ?_)))) zZ ?_
 ·obtain⟨A',c',rfl,r'⟩:=hv
  obtain⟨A2,c2,rfl,r2⟩:=hv'
  refine cG 23 #[.slice A' nn c',.slice A2 nn c2] (by go_simp) ((HCC.out A' A2 c' c2 w r' r2).mono ?_)
  rintro e w' ⟨rfl,b'⟩
  exact⟨_,rfl,b',rfl⟩
 refine ZK ?_
 refine ZM ?_
 refine bO fun w25 hw25=>aC rfl rfl fun v1 hv1=>aC rfl rfl fun v2 hv2=>aC rfl rfl fun v3 hv3=>aC rfl rfl fun v4 hv4=>aF ?_
 simp only[List.set_cons_succ,List.set_cons_zero]
 clear hv1 hv2 hv3 hv4
 have b25:Below w24.heap.size w24 w25:=hw25.drew
 clear rSc rTc rNc rsc rIc rOc rhc rfc tc
 replace aR:=aR.b b25
 replace xR:=xR.b b25
 replace kR:=kR.b b25
 replace yR:=yR.b b25
 replace hvR:=hvR.b b25
 replace aU:=aU.b b25
 replace rD:=rD.b b25
 replace a18:=a18.b b25
 replace rS8:=rS8.b b25
 replace rN7:=rN7.b b25
 replace a20:=a20.b b25
 replace rS10:=rS10.b b25
 replace a22:=a22.b b25
 replace rT12:=rT12.b b25
 replace rN12:=rN12.b b25
 replace a24:=a24.b b25
 replace rT13:=rT13.b b25
 replace a26:=a26.b b25
 replace rN15:=rN15.b b25
 replace a29:=a29.b b25
 replace rN17:=rN17.b b25
 replace a32:=a32.b b25
 replace a34:=a34.b b25
 replace bR:=bR.trans (b25.mono bR.size)
 go_wp2
 go_ret
 exact⟨rfl,bR⟩
theorem DU (S:List (List UInt8 × Sl)) (As At An:Option Addr) (ns cs nt ct nn cn:Nat) (hS:S.length=ns) (hns:ns≤maxLen) (T:List (List UInt8)) (hT:T.length=nt) (N:List Sn) (hN:N.length=nn)
  (s:List UInt8) (Bs:Option Addr) (ms d0:Nat) (hs:s.length=ms)
  (ver lock:Nat) (hv:ver<4294967296) (hlk:lock<4294967296) (l1:List (lI × Sl)) (m1:List (fA × Sl)) (A1 A2:Option Addr) (n1 n2 c1 c2:Nat) (hn1:l1.length=n1) (hn2:m1.length=n2) (hm1:n1≤maxLen) (hm2:n2≤maxLen)
  (l:List Hd) (B:Option Addr) (m d:Nat) (hm:l.length=m) (h:Hd) (hok:h.ok) (tot:Nat) (htot:tot<4294967296) (hh:List (List UInt8)) (h32:dV hh) (fl:List UInt8) (Ah:Option Addr) (nh ch:Nat) (Af:Option Addr) (nf cf:Nat) (hnh:hh.length=nh) (hnf:fl.length=nf)
  (tip:Int) (htip: -9223372036854775808≤tip∧tip≤9223372036854775807) (x:List UInt8) (hx:x.length=32)
  (w:World) (ht:fW w) (rS:dU w As S) (rT:fD w At T) (rN:dI w An N) (rs:Rd w Bs (s.map bv)) (rI:fB w A1 l1) (rO:dH w A2 m1) (rl:oS w B l) (rh:Rd w Ah (eB hh)) (rf:Rd w Af (fl.map bv)):
  Calls prog 3 #[.agg (bS As At An ns cs nt ct nn cn).toArray,.slice Bs ms d0,.agg #[.int .u32 (ver:Int),.slice A1 n1 c1,.slice A2 n2 c2,.int .u32 (lock:Int)],.slice B m d,.agg (kL h tot Ah nh ch Af nf cf).toArray,.int .i64 tip,.agg (x.map bv).toArray] w fun e w'=>e= .returned (.bool true)∧Below w.heap.size w w':=by
 by_cases hc:DD (S.map (·.1)) nt nn=true∧vG (cQ ver l1 m1 lock)=true∧m≤20∧nh≤60∧nf≤60∧ms≤400
 ·obtain⟨hq1,hq2,g1,g2,g3,g4⟩:=hc
  exact Lr S As At An ns cs nt ct nn cn hS hns T hT N hN s Bs ms d0 hs ver lock hv hlk l1 m1 A1 A2 n1 n2 c1 c2 hn1 hn2 hm1 hm2 l B m d hm h hok tot htot hh h32 fl Ah nh ch Af nf cf hnh hnf tip htip x hx w ht rS rT rN rs rI rO rl rh rf hq1 hq2 g1 g2 g3 g4
 ·exact Nv S As At An ns cs nt ct nn cn hS hns T hT N hN s Bs ms d0 hs ver lock l1 m1 A1 A2 n1 n2 c1 c2 hn1 hn2 hm1 hm2 l B m d hm h hok tot hh fl Ah nh ch Af nf cf hnh hnf tip x hx w ht rS rI rO hc
end Go.Proofs.YtobjgebojhjhnaaGreatDoor
