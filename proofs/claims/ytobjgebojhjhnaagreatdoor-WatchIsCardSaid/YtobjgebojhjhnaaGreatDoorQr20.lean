import Derived.Test.YtobjgebojhjhnaaGreatDoorQr19
import Derived.Conc.MuLone
namespace Go.Proofs.YtobjgebojhjhnaaGreatDoor
set_option maxRecDepth 100000
set_option maxHeartbeats 16000000
open Go.RowKit Tryz
attribute [local go_sem high] eO gO gP iV
theorem xH:(prog.info? 112).map (fun i=>(i.size,i.bytes))=some (65,72):=by kernel_rfl
theorem xI:(prog.info? 112).map (fun i=>(i.zero.map (·.cells.size)))=some (some 65):=by kernel_rfl
theorem xJ:(prog.info? 27).map (fun i=>(i.size,i.bytes))=some (1,24):=by kernel_rfl
theorem xK:(prog.info? 27).map (fun i=>(i.zero.map (·.cells.size)))=some (some 1):=by kernel_rfl
theorem Gg (l:List (List UInt8 × Sl)):∀ u ∈ yU l,u.oneCell'=true:=by
 intro u hu
 obtain⟨e,_,rfl⟩:=List.mem_map.1 hu
 rfl
theorem JJ (A:Option Addr) (n c n' c':Nat) (w:World):(binOp .eql 49 (.slice A n c) (.slice none n' c')).run prog w= .ok (.bool A.isNone) w:=
 Lib.run_eql_slice_nil w _ _ A n c n' c' Tw
theorem JK (A:Option Addr) (n c n' c':Nat) (w:World):(binOp .eql 22 (.slice A n c) (.slice none n' c')).run prog w= .ok (.bool A.isNone) w:=
 Lib.run_eql_slice_nil w _ _ A n c n' c' To
attribute [local go_sem high] JJ JK
theorem OV (l:List Sn) (A:Option Addr) (n c:Nat) (w:World) (hr:dI w A l) (hn:l.length=n) (hm:n≤100000):
  Calls prog 47 #[.slice A n c] w fun e w'=>∃ v,e= .returned v∧w'.ownsRow w.heap.size 112 65 v n (uJ l)∧Below w.heap.size w w':=by
 cases A with
 |none=>
  have hb:l= []:=by
   by_cases h:0<l.length
   ·obtain⟨_,_,h⟩:=hr.adr h
    cases h
   ·exact List.eq_nil_of_length_eq_zero OM
  subst hb
  subst hn
  clear hm hr
  have hnn:(none:Option Addr).isNone=true:=rfl
  go_enter func47,ntmps47
  go_wp2
  go_ret
  exact⟨_,rfl,World.ownsRow_nil _ _ _ _,Below.refl _ _⟩
 |some a=>
  have hmade:(w.alloc (.cells #[] 112)).ownsRow w.heap.size 112 65 (.slice (some ⟨w.heap.size,0,none⟩) 0 0) 0 (uJ []):=World.ownsRow_made w #[] 0 LR (by simp[maxLen]) rfl
  have hb1:=(Below.refl w.heap.size w).alloc LR (.cells #[] 112)
  have hr1:=(hr.b hb1).1
  have hnn:(some a:Option Addr).isNone=false:=rfl
  have hl:(uJ l).length=n*65:=by rw[sU hr.2,hn]
  have Hl:=Hy hl
  have one:=Hy (Ge l)
  clear hn hl
  go_enter func47,ntmps47
  go_wp2_with (at_builtin;refine bT Tw xH xI DC hmade zS (uJ l) n c hr1 Hl.out one.out OM OM rfl (.tmp 5) (.tmp 6) rfl rfl rfl ?_;intro v1 w1 o1 g1 _)
  go_ret
  rw[show uJ []++uJ l=uJ l from rfl,Nat.zero_add] at o1
  exact⟨_,rfl,o1,fK hb1 hmade g1 zS⟩
theorem OW (l:List (List UInt8 × Sl)) (A:Option Addr) (n c:Nat) (w:World) (hr:dU w A l) (hn:l.length=n) (hm:n≤100000):
  Calls prog 35 #[.slice A n c] w fun e w'=>∃ v,e= .returned v∧w'.ownsRow w.heap.size 27 1 v n (yU l)∧Below w.heap.size w w':=by
 cases A with
 |none=>
  have hb:l= []:=by
   by_cases h:0<l.length
   ·obtain⟨_,_,h⟩:=hr.adr h
    cases h
   ·exact List.eq_nil_of_length_eq_zero OM
  subst hb
  subst hn
  clear hm hr
  have hnn:(none:Option Addr).isNone=true:=rfl
  go_enter func35,ntmps35
  go_wp2
  go_ret
  exact⟨_,rfl,World.ownsRow_nil _ _ _ _,Below.refl _ _⟩
 |some a=>
  have hmade:(w.alloc (.cells #[] 27)).ownsRow w.heap.size 27 1 (.slice (some ⟨w.heap.size,0,none⟩) 0 0) 0 (yU []):=World.ownsRow_made w #[] 0 LR (by simp[maxLen]) rfl
  have hb1:=(Below.refl w.heap.size w).alloc LR (.cells #[] 27)
  have hr1:=(hr.b hb1).1
  have hnn:(some a:Option Addr).isNone=false:=rfl
  have hl:(yU l).length=n*1:=by rw[yU,List.length_map,hn,Nat.mul_one]
  have Hl:=Hy hl
  have one:=Hy (Gg l)
  clear hn hl
  go_enter func35,ntmps35
  go_wp2_with (at_builtin;refine bT To xJ xK DC hmade zS (yU l) n c hr1 Hl.out one.out OM OM rfl (.tmp 5) (.tmp 6) rfl rfl rfl ?_;intro v1 w1 o1 g1 _)
  go_ret
  rw[show yU []++yU l=yU l from rfl,Nat.zero_add] at o1
  exact⟨_,rfl,o1,fK hb1 hmade g1 zS⟩
theorem Xc149 {p:Prop} (h:p:=by
 obtain rfl:j=n:=by omega
 have t2:decide ((j:Int)<(j:Int))=false:=by simp
 go_wp2
 go_ret
 have eR:R= -1:=by rw[hR.out,Qp (by rw[hn.out];exact hf.out)]
 exact⟨by rw[eR];rfl,bw⟩):p:=h
theorem Xc63 {p:Prop} (h:p:=by
 refine jN cI.refl rfl rfl rfl rfl _ _ _ _ _ rfl pB pB (c:=.bool q) (fun w=>N1.out _ _ w) zZ ?_
 refine bO fun w2 hw2=>aF ?_
 have b2:=bw.trans (hw2.drew.mono bw.size)
 have a2:=aB.b hw2.drew
 cases q
 ·have hf2:Hid (∀ i,i<j+1→ ∀ z,l[i]? =some z→(x==z)=false):=Hy (fun i hi z hz=>by
   by_cases e:i=j
   ·subst e
    rw[hy.out] at hz
    rw[← Option.some.inj hz]
    exact hq.symm
   ·exact hf.out i OM z hz)
  go_wp2
  refine⟨⟨j+1,by omega,by go_num,b2,a2,hf2⟩,?_⟩
  simp[intOf]
  omega
 ·go_wp2
  go_ret
  have eR:R=(j:Int):=by rw[hR.out,OR hy.out hq.symm hf.out]
  exact⟨by rw[eR];rfl,b2⟩):p:=h
theorem RD (l:List (List UInt8)) (x:(List UInt8)) (xok:x.length=32) (A:Option Addr) (n c:Nat) (w:World) (hr:fD w A l) (hn:l.length=n) (hm:n≤1000000):
  Calls prog 95 #[.slice A n c,.agg (List.map bv x).toArray] w fun e w'=>e= .returned (.int .i64 (vN l x))∧Below w.heap.size w w':=by
 obtain⟨R,hR⟩:=Nm (vN l x)
 rw[← hR]
 obtain⟨W,hW⟩:=Nm (w.alloc (.cells (List.map bv x).toArray 35))
 obtain⟨H,hH⟩:=Nm (w.heap.size)
 have aW:Av W H 35 (List.map bv x):=by rw[hW,hH];exact heap_alloc_new _ _
 refine Xm90 ?_;intro bW
 have x32:=Hy (show (x.map bv).length=32 by rw[List.length_map,xok])
 replace hR:=Hy hR
 replace hW:=Hy hW
 replace hH:=Hy hH
 replace hn:=Hy hn
 go_enter func95,ntmps95
 go_upto_region 1 with fail
 rw[← hW.out,← hH.out]
 go_wp2
 go_loopw [8] (fun i wr=>∃ j:Nat,j≤n∧i= .int .i64 (j:Int)∧Below w.heap.size w wr∧Av wr H 35 (List.map bv x)∧Hid (∀ i,i<j→ ∀ z,l[i]? =some z→(x==z)=false)) (fun i _=>n - (intOf i).toNat)
 case atStart=>exact⟨0,by omega,rfl,bW,aW,Hy (fun i hi=>by omega)⟩
 case round=>
  clear aW
  obtain⟨j,hj,rfl,bw,aB,hf⟩:=hrel
  by_cases hlt:j<n
  ·have t2:decide ((j:Int)<(n:Int))=true:=by simp;omega
   obtain⟨y,hy⟩:∃ y,l[j]? =some y:=⟨_,List.getElem?_eq_getElem (by rw[hn.out];exact hlt)⟩
   obtain⟨b,off,rfl⟩:=hr.adr (by rw[hn.out];omega)
   have G1:Hid (∀ w',Below w.heap.size w w'→w'.rangeAt b (off+j*32) (List.map bv y)):=Hy fun w' h=>(hr.b h).nth j y hy
   have yok:y.length=32:=hr.2 y (List.mem_of_getElem? hy)
   have y32:=Hy (show (y.map bv).length=32 by rw[List.length_map,yok])
   obtain⟨q,hq⟩:=Nm ((x==y))
   have N1:=CX x y xok yok
   rw[← hq] at N1
   replace N1:=Hy N1
   have m0:0≤(j:Int):=by omega
   have m1:(j:Int)<(n:Int):=by omega
   replace hy:=Hy hy
   go_upto_region 4 with fail
   refine ZR ?_
   repeat first|refine ZQ ?_|refine ZP (c:=.agg (List.map bv x).toArray) (fun w hw=>aE (aB.b hw.drew) _ _ rfl rfl _ 32 x32.out SS rfl KR) ?_|refine ZP (c:=.agg (List.map bv y).toArray) (fun w hw=>bJ _ _ rfl b (off+j*32) rfl (List.map bv y) _ (G1.out _ (bw.trans (hw.drew.mono bw.size))) SS rfl (by rw[y32.out];kernel_rfl)) ?_
   exact Xc63
  ·exact Xc149
theorem RE (l:List Sn) (x:Sn) (xok:x.ok) (A:Option Addr) (n c:Nat) (w:World) (hr:dI w A l) (hn:l.length=n) (hm:n≤1000000):
  Calls prog 72 #[.slice A n c,.agg (dY x).toArray] w fun e w'=>e= .returned (.int .i64 (vN l x))∧Below w.heap.size w w':=by
 obtain⟨R,hR⟩:=Nm (vN l x)
 rw[← hR]
 obtain⟨W,hW⟩:=Nm (w.alloc (.cells (dY x).toArray 112))
 obtain⟨H,hH⟩:=Nm (w.heap.size)
 have aW:Av W H 112 (dY x):=by rw[hW,hH];exact heap_alloc_new _ _
 refine Xm90 ?_;intro bW
 have x65:=Hy (dD (s:=x) xok)
 replace hR:=Hy hR
 replace hW:=Hy hW
 replace hH:=Hy hH
 replace hn:=Hy hn
 go_enter func72,ntmps72
 go_upto_region 1 with fail
 rw[← hW.out,← hH.out]
 go_wp2
 go_loopw [8] (fun i wr=>∃ j:Nat,j≤n∧i= .int .i64 (j:Int)∧Below w.heap.size w wr∧Av wr H 112 (dY x)∧Hid (∀ i,i<j→ ∀ z,l[i]? =some z→(x==z)=false)) (fun i _=>n - (intOf i).toNat)
 case atStart=>exact⟨0,by omega,rfl,bW,aW,Hy (fun i hi=>by omega)⟩
 case round=>
  clear aW
  obtain⟨j,hj,rfl,bw,aB,hf⟩:=hrel
  by_cases hlt:j<n
  ·have t2:decide ((j:Int)<(n:Int))=true:=by simp;omega
   obtain⟨y,hy⟩:∃ y,l[j]? =some y:=⟨_,List.getElem?_eq_getElem (by rw[hn.out];exact hlt)⟩
   obtain⟨b,off,rfl⟩:=hr.adr (by rw[hn.out];omega)
   have G1:Hid (∀ w',Below w.heap.size w w'→w'.rangeAt b (off+j*65) (dY y)):=Hy fun w' h=>((hr.b h).nth j y hy).1
   have yok:y.ok:=hr.2 y (List.mem_of_getElem? hy)
   have y65:=Hy (dD (s:=y) yok)
   obtain⟨q,hq⟩:=Nm ((x==y))
   have N1:=Qq xok yok
   rw[← hq] at N1
   replace N1:=Hy N1
   have m0:0≤(j:Int):=by omega
   have m1:(j:Int)<(n:Int):=by omega
   replace hy:=Hy hy
   go_upto_region 4 with fail
   refine ZR ?_
   repeat first|refine ZQ ?_|refine ZP (c:=.agg (dY x).toArray) (fun w hw=>aE (aB.b hw.drew) _ _ rfl rfl _ 65 x65.out Td rfl KR) ?_|refine ZP (c:=.agg (dY y).toArray) (fun w hw=>bJ _ _ rfl b (off+j*65) rfl (dY y) _ (G1.out _ (bw.trans (hw.drew.mono bw.size))) Td rfl (by rw[y65.out];kernel_rfl)) ?_
   exact Xc63
  ·exact Xc149
theorem RF (l:List (List UInt8)) (x:(List UInt8)) (xok:x.length=32) (A:Option Addr) (n c:Nat) (w:World) (hr:fD w A l) (hn:l.length=n) (hm:n≤1000000):
  Calls prog 65 #[.slice A n c,.agg (List.map bv x).toArray] w fun e w'=>e= .returned (.bool (l.contains x))∧Below w.heap.size w w':=by
 have HI:=fun w' h=>RD l x xok A n c w' h hn hm
 rw[← NU]
 obtain⟨R,hR⟩:=Nm (vN l x)
 rw[← hR] at HI ⊢
 obtain⟨W,hW⟩:=Nm (w.alloc (.cells (List.map bv x).toArray 35))
 obtain⟨H,hH⟩:=Nm (w.heap.size)
 have aW:Av W H 35 (List.map bv x):=by rw[hW,hH];exact heap_alloc_new _ _
 refine Xm90 ?_;intro bW
 have x32:=Hy (show (x.map bv).length=32 by rw[List.length_map,xok])
 have hrW:=hr.b bW
 replace HI:=Hy HI
 replace hR:=Hy hR
 replace hW:=Hy hW
 replace hH:=Hy hH
 go_enter func65,ntmps65
 go_upto_region 1 with fail
 rw[← hW.out,← hH.out]
 go_wp2_with (first
  |((with_reducible refine LF aW 32 x32.out SS ?_ ?_);rfl)
  |(go_at_call 95;refine(HI.out W hrW).mono ?_;rintro e w2 ⟨rfl,b2⟩))
 go_ret
 refine⟨?_,bW.trans (b2.mono bW.size)⟩
 first|rfl|simp
theorem RG (l:List Sn) (x:Sn) (xok:x.ok) (A:Option Addr) (n c:Nat) (w:World) (hr:dI w A l) (hn:l.length=n) (hm:n≤1000000):
  Calls prog 48 #[.slice A n c,.agg (dY x).toArray] w fun e w'=>e= .returned (.bool (l.contains x))∧Below w.heap.size w w':=by
 have HI:=fun w' h=>RE l x xok A n c w' h hn hm
 rw[← NU]
 obtain⟨R,hR⟩:=Nm (vN l x)
 rw[← hR] at HI ⊢
 obtain⟨W,hW⟩:=Nm (w.alloc (.cells (dY x).toArray 112))
 obtain⟨H,hH⟩:=Nm (w.heap.size)
 have aW:Av W H 112 (dY x):=by rw[hW,hH];exact heap_alloc_new _ _
 refine Xm90 ?_;intro bW
 have x65:=Hy (dD (s:=x) xok)
 have hrW:=hr.b bW
 replace HI:=Hy HI
 replace hR:=Hy hR
 replace hW:=Hy hW
 replace hH:=Hy hH
 go_enter func48,ntmps48
 go_upto_region 1 with fail
 rw[← hW.out,← hH.out]
 go_wp2_with (first
  |((with_reducible refine LF aW 65 x65.out Td ?_ ?_);rfl)
  |(go_at_call 72;refine(HI.out W hrW).mono ?_;rintro e w2 ⟨rfl,b2⟩))
 go_ret
 refine⟨?_,bW.trans (b2.mono bW.size)⟩
 first|rfl|simp
theorem JL (A:Option Addr) (n c:Nat) (w:World):
  Calls prog 39 #[.slice A n c] w fun e w'=>e= .returned (.func (.func 64) #[] #[.pointer (some ⟨w.heap.size,0,none⟩)])∧w'=w.alloc (.cells #[.slice A n c] 23):=by
 go_enter func39,ntmps39
 go_wp2
 go_ret
 exact⟨rfl,rfl⟩
theorem BJ (l:List (List UInt8)) (x:List UInt8) (xok:x.length=32) (A:Option Addr) (n c G:Nat) (w:World) (hr:fD w A l) (hn:l.length=n) (hm:n≤1000000) (aG:Av w G 23 [.slice A n c]):
  Calls prog 64 #[.agg (x.map bv).toArray,.pointer (some ⟨G,0,none⟩)] w fun e w'=>e= .returned (.bool (l.contains x))∧Below w.heap.size w w':=by
 have HI:=fun w' h=>RF l x xok A n c w' h hn hm
 obtain⟨R,hR⟩:=Nm (l.contains x)
 rw[← hR] at HI ⊢
 obtain⟨W,hW⟩:=Nm (w.alloc (.cells (x.map bv).toArray 35))
 obtain⟨H,hH⟩:=Nm (w.heap.size)
 have aW:Av W H 35 (x.map bv):=by rw[hW,hH];exact heap_alloc_new _ _
 refine Xm90 ?_;intro bW
 have x32:=Hy (show (x.map bv).length=32 by rw[List.length_map,xok])
 have hrW:=hr.b bW
 have gW:=(aG.b bW).cell 0 _ rfl
 replace HI:=Hy HI
 replace hR:=Hy hR
 replace hW:=Hy hW
 replace hH:=Hy hH
 clear aG
 go_enter func64,ntmps64
 go_upto_region 1 with fail
 rw[← hW.out,← hH.out]
 go_wp2_with (first
  |((with_reducible refine LF aW 32 x32.out SS ?_ ?_);rfl)
  |(go_at_call 65;refine(HI.out W hrW).mono ?_;rintro e w2 ⟨rfl,b2⟩))
 go_ret
 exact⟨rfl,bW.trans (b2.mono bW.size)⟩
theorem JM (y s:List UInt8) (A:Option Addr) (n c:Nat) (B:Option Addr) (m d G:Nat) (w:World) (ry:Rd w A (y.map bv)) (hy:y.length=n) (rs:Rd w B (s.map bv)) (hs:s.length=m) (aG:Av w G 27 [.slice B m d]):
  Calls prog 33 #[.slice A n c,.pointer (some ⟨G,0,none⟩)] w fun e w'=>e= .returned (.bool (y==s))∧w=w':=by
 have HI:=Jz y s A B n m c d hy hs w ry rs _ rfl
 obtain⟨R,hR⟩:=Nm ((y==s))
 rw[← hR] at HI ⊢
 have gW:=aG.cell 0 _ rfl
 replace HI:=Hy HI
 replace hR:=Hy hR
 clear aG
 go_enter func33,ntmps33
 go_wp2_with (go_at_call 34;refine(HI.out).mono ?_;rintro e w2 ⟨rfl,rfl⟩)
 go_ret
 exact⟨rfl,rfl⟩
def MA (l:List (List UInt8)) (s:List UInt8):Int:=match l.findIdx? (fun y=>y==s) with
 |some i=>(i:Int)
 |none=>-1
theorem MB {l:List (List UInt8)} {s y:List UInt8} {j:Nat} (hy:l[j]? =some y) (h:(y==s)=true) (hl:∀ i,i<j→ ∀ z,l[i]? =some z→(z==s)=false):MA l s=(j:Int):=by
 unfold MA
 exact Xc148
theorem OX {l:List (List UInt8)} {s:List UInt8} (hl:∀ i,i<l.length→ ∀ z,l[i]? =some z→(z==s)=false):MA l s= -1:=by
 unfold MA
 rw[List.findIdx?_eq_none_iff.2 fun z hz=>by
  obtain⟨i,hi,rfl⟩:=List.getElem_of_mem hz
  exact hl i hi _ (List.getElem?_eq_getElem hi)]
theorem OY (l:List (List UInt8)) (s:List UInt8):decide ((0:Int)≤MA l s)=l.contains s:=by
 unfold MA
 rw[Bool.eq_iff_iff,List.contains_iff_mem,decide_eq_true_eq]
 cases h:l.findIdx? (fun y=>y==s) with
 |none=>
  rw[List.findIdx?_eq_none_iff] at h
  simp only
  constructor
  ·intro h2;omega
  ·intro h2
   have:=h s h2
   simp at this
 |some i=>
  simp only
  obtain⟨h1,h2,_⟩:=List.findIdx?_eq_some_iff_getElem.1 h
  have e:l[i]=s:=by simpa using h2
  constructor
  ·intro _;rw[← e];exact List.getElem_mem h1
  ·intro _;omega
theorem RH (l:List (List UInt8 × Sl)) (s:List UInt8) (A:Option Addr) (n c:Nat) (B:Option Addr) (m d G:Nat) (w:World) (hr:dU w A l) (hn:l.length=n) (hm:n≤1000000) (rs:Rd w B (s.map bv)) (hs:s.length=m) (aG:Av w G 27 [.slice B m d]):
  Calls prog 63 #[.slice A n c,.func (.func 33) #[] #[.pointer (some ⟨G,0,none⟩)]] w fun e w'=>e= .returned (.int .i64 (MA (l.map (·.1)) s))∧w'=w:=by
 obtain⟨R,hR⟩:=Nm (MA (l.map (·.1)) s)
 rw[← hR]
 replace hR:=Hy hR
 replace hn:=Hy hn
 go_enter func63,ntmps63
 go_wp2
 go_loopw [8] (fun i wr=>∃ j:Nat,j≤n∧i= .int .i64 (j:Int)∧wr=w∧Hid (∀ i,i<j→ ∀ z,(l.map (·.1))[i]? =some z→(z==s)=false)) (fun i _=>n - (intOf i).toNat)
 case atStart=>exact⟨0,by omega,rfl,rfl,Hy (fun i hi=>by omega)⟩
 case round=>
  obtain⟨j,hj,rfl,rfl,hf⟩:=hrel
  by_cases hlt:j<n
  ·have t2:decide ((j:Int)<(n:Int))=true:=by simp;omega
   obtain⟨y,hy⟩:∃ y,l[j]? =some y:=⟨_,List.getElem?_eq_getElem (by rw[hn.out];exact hlt)⟩
   obtain⟨b,off,rfl⟩:=hr.adr (by rw[hn.out];omega)
   obtain⟨g1,g2,g3⟩:=hr.nth j y hy
   obtain⟨ys,ya,yc⟩:=y
   dsimp only at g2 g3
   obtain⟨yl,hyl⟩:=Nm (ys.length)
   have HC:=JM ys s ya yl yc B m d G wr g2 hyl.symm rs hs aG
   have g1':wr.cell? ⟨b,off+j,none⟩=some (.slice ya yl yc):=by rw[hyl];exact g1
   obtain⟨q,hq⟩:=Nm ((ys==s))
   rw[← hq] at HC
   replace hq:=Hy hq
   have hy2:(l.map (·.1))[j]? =some ys:=by rw[List.getElem?_map,hy];rfl
   have m0:0≤(j:Int):=by omega
   have m1:(j:Int)<(n:Int):=by omega
   replace HC:=Hy HC
   replace hy:=Hy hy
   replace hy2:=Hy hy2
   replace hyl:=Hy hyl
   clear g1 g2 g3
   cases q
   ·have hf2:Hid (∀ i,i<j+1→ ∀ z,(l.map (·.1))[i]? =some z→(z==s)=false):=Hy (fun i hi z hz=>by
     by_cases e:i=j
     ·subst e
      rw[hy2.out] at hz
      rw[← Option.some.inj hz]
      exact hq.out.symm
     ·exact hf.out i OM z hz)
    go_wp2_with (go_at_call 33;refine(HC.out).mono ?_;rintro e w2 ⟨rfl,rfl⟩)
    refine⟨⟨j+1,by omega,by go_num,trivial,hf2⟩,?_⟩
    simp[intOf]
    omega
   ·go_wp2_with (go_at_call 33;refine(HC.out).mono ?_;rintro e w2 ⟨rfl,rfl⟩)
    go_ret
    have eR:R=(j:Int):=by rw[hR.out,MB hy2.out hq.out.symm hf.out]
    exact⟨by rw[eR];rfl,rfl⟩
  ·obtain rfl:j=n:=by omega
   have t2:decide ((j:Int)<(j:Int))=false:=by simp
   go_wp2
   go_ret
   have eR:R= -1:=by rw[hR.out,OX (by rw[List.length_map,hn.out];exact hf.out)]
   exact⟨by rw[eR];rfl,rfl⟩
theorem Qs (l:List (List UInt8 × Sl)) (s:List UInt8) (A:Option Addr) (n c:Nat) (B:Option Addr) (m d G:Nat) (w:World) (hr:dU w A l) (hn:l.length=n) (hm:n≤1000000) (rs:Rd w B (s.map bv)) (hs:s.length=m) (aG:Av w G 27 [.slice B m d]):
  Calls prog 32 #[.slice A n c,.func (.func 33) #[] #[.pointer (some ⟨G,0,none⟩)]] w fun e w'=>e= .returned (.bool ((l.map (·.1)).contains s))∧w'=w:=by
 have HI:=RH l s A n c B m d G w hr hn hm rs hs aG
 rw[← OY]
 obtain⟨R,hR⟩:=Nm (MA (l.map (·.1)) s)
 rw[← hR] at HI ⊢
 replace HI:=Hy HI
 replace hR:=Hy hR
 go_enter func32,ntmps32
 go_wp2_with (go_at_call 63;refine(HI.out).mono ?_;rintro e w2 ⟨rfl,rfl⟩)
 go_ret
 refine⟨?_,rfl⟩
 first|rfl|simp
end Go.Proofs.YtobjgebojhjhnaaGreatDoor
namespace Go.Proofs.YtobjgebojhjhnaaGreatDoor
set_option maxRecDepth 100000
set_option maxHeartbeats 16000000
open Go.RowKit Tryz
def NW (ns:List Nd) (tip:Int) (i:Nat):Bool:=decide (0≤tip∧tip<ns.length∧dP ns i≤dP ns tip.toNat∧jE ns tip.toNat (dP ns tip.toNat - dP ns i)=i)
def rV (ns:List Nd) (tip:Int) (i:Nat):Nat:=if NW ns tip i then dP ns tip.toNat - dP ns i+1 else 0
theorem mB.len_le {w:World} {v:Value} {ns:List Nd} (h:mB w v ns):ns.length≤1048576:=by
 rcases h with ⟨_,rfl⟩|⟨R,most,A,n,c,M,_,T⟩
 ·simp
 ·have:=T.len
  have:=T.small
  omega
theorem Xc169 {p:Prop} (h:p:=by
 clear a2 b1 b2
 go_wp2_with (go_at_call 112;refine(HA.out w2 v2).mono ?_;rintro e w4 ⟨rfl,b4⟩)
 go_ret2
 exact⟨rfl,b3.trans (b4.mono b3.size)⟩):p:=h
theorem Xm101 {p q:Prop} (k:q) (h:Hid q→p:=by
 intro hk
 rw[tO hnd] at HN
 have nok:=ok.nds nd (List.mem_of_getElem? hnd)
 have l106:=Hy (dN nok)
 have one2:=Hy (List.all_eq_true.2 (kA nd))
 obtain⟨_,q101⟩:=sR nok
 have hth:=rJ hnd
 obtain⟨G,hG⟩:=Nm (nd.hgt)
 rw[← hG] at hth q101
 rename_i zq0
 revert HN nok l106 one2 zq0 G q101 hth hG;exact hk.out):p:=h (Hy k)
theorem Xm45 {p q:Prop} (k:q) (h:Hid q→p:=by
 intro hk
 replace HN:=Hy HN
 replace HA:=Hy HA
 replace hG:=Hy hG
 replace q101:=Hy q101
 replace hnd:=Hy hnd
 replace hth:=Hy hth
 skip
 go_enter func77,ntmps77
 go_upto_region 2 with (first
  |(go_at_call 111;refine(HN.out).mono ?_;rintro e w1 ⟨rfl,b1⟩)
  |((with_reducible refine SN (gF nd) 106 ?_ ?_ ?_ (hn:=l106.out) (h1:=one2.out));rfl;rfl;intro w2 a2 b2 z2;clear z2;intro z2;replace z2:=Hy z2))
 have b3:=b1.trans (b2.mono b1.size)
 have v2:=hv.b b3
 have c101:=a2.cell 101 _ q101.out
 rename_i zq0 zq1 zq2 zq3 zq4
 revert HN HA hG q101 hnd hth zq0 w1 b1 w2 a2 b2 z2 zq1 zq2 zq3 zq4 b3 v2 c101;exact hk.out):p:=h (Hy k)
theorem EH (v:Value) (ns:List Nd) (ok:nH ns) (tip:Int) (ht: -9223372036854775808≤tip∧tip≤9223372036854775807) (i:Nat) (hi:i<ns.length) (w:World) (hv:mB w v ns) (h0:¬ (0≤tip∧tip<ns.length∧(dP ns i:Int)≤dP ns tip.toNat)):
  Calls prog 77 #[v,.int .i64 tip,.int .i64 (i:Int)] w fun e w'=>e= .returned (.tuple #[.int .i64 0,.bool false])∧Below w.heap.size w w':=by
 have hzc:=wT
 have hlen:=hv.len_le
 obtain⟨nd,hnd⟩:∃ nd,ns[i]? =some nd:=⟨_,List.getElem?_eq_getElem hi⟩
 have HN:=CC v ns (i:Int) OM w hv
 refine Xm101 ?_;try clear HN;intro HN nok l106 one2 _ G q101 hth hG
 have HA:=fun w' r=>Ew v ns ok tip (G:Int) ht w' r
 have hz:nA ns tip (G:Int)= .tuple #[.int .i64 0,.bool false]:=by
  rw[nA,if_neg (by rw[hth] at h0;omega)]
 rw[hz] at HA
 refine Xm45 ?_;try clear nok HN HA hG q101 hnd hth;intro HN HA hG q101 hnd hth _ w1 b1 w2 a2 b2 z2 _ _ _ _ b3 v2 c101
 exact Xc169
theorem CY (v:Value) (ns:List Nd) (ok:nH ns) (tip:Int) (ht: -9223372036854775808≤tip∧tip≤9223372036854775807) (i:Nat) (hi:i<ns.length) (w:World) (hv:mB w v ns) (h0:0≤tip∧tip<ns.length∧(dP ns i:Int)≤dP ns tip.toNat) (h1:jE ns tip.toNat (dP ns tip.toNat - dP ns i)≠i):
  Calls prog 77 #[v,.int .i64 tip,.int .i64 (i:Int)] w fun e w'=>e= .returned (.tuple #[.int .i64 0,.bool false])∧Below w.heap.size w w':=by
 have hzc:=wT
 have hlen:=hv.len_le
 obtain⟨nd,hnd⟩:∃ nd,ns[i]? =some nd:=⟨_,List.getElem?_eq_getElem hi⟩
 have HN:=CC v ns (i:Int) OM w hv
 refine Xm101 ?_;try clear HN;intro HN nok l106 one2 _ G q101 hth hG
 have HA:=fun w' r=>Ew v ns ok tip (G:Int) ht w' r
 obtain⟨on,hon⟩:=Nm (jE ns tip.toNat (dP ns tip.toNat - dP ns i))
 have hz:nA ns tip (G:Int)= .tuple #[.int .i64 (on:Int),.bool true]:=by
  rw[nA,if_pos (by rw[hth] at h0;omega),hon,hth,Int.toNat_natCast]
 rw[hz] at HA
 rw[← hon] at h1
 have t1:((on:Int)!=(i:Int))=true:=by simp;omega
 replace hon:=Hy hon
 refine Xm45 ?_;try clear nok HN HA hG q101 hnd hth;intro HN HA hG q101 hnd hth _ w1 b1 w2 a2 b2 z2 _ _ _ _ b3 v2 c101
 exact Xc169
theorem Hi (v:Value) (ns:List Nd) (ok:nH ns) (tip:Int) (ht: -9223372036854775808≤tip∧tip≤9223372036854775807) (i:Nat) (hi:i<ns.length) (w:World) (hv:mB w v ns) (k:Nat) (hk:tip=(k:Int)) (h0:k<ns.length) (h2:dP ns i≤dP ns k) (h1:jE ns k (dP ns k - dP ns i)=i):
  Calls prog 77 #[v,.int .i64 tip,.int .i64 (i:Int)] w fun e w'=>e= .returned (.tuple #[.int .i64 ((dP ns k - dP ns i+1:Nat):Int),.bool true])∧Below w.heap.size w w':=by
 subst hk
 have hzc:=wT
 have hlen:=hv.len_le
 obtain⟨nd,hnd⟩:∃ nd,ns[i]? =some nd:=⟨_,List.getElem?_eq_getElem hi⟩
 have HN:=CC v ns (i:Int) (by have:=hv.len_le;omega) w hv
 refine Xm101 ?_;try clear HN;intro HN nok l106 one2 _ G q101 hth hG
 have HA:=fun w' r=>Ew v ns ok (k:Int) (G:Int) ht w' r
 obtain⟨md,hmd⟩:∃ nd,ns[k]? =some nd:=⟨_,List.getElem?_eq_getElem h0⟩
 have HT:=fun w' r=>CC v ns (k:Int) ht w' r
 rw[tO hmd] at HT
 have mok:=ok.nds md (List.mem_of_getElem? hmd)
 have m106:=Hy (dN mok)
 have onem:=Hy (List.all_eq_true.2 (kA md))
 obtain⟨_,p101⟩:=sR mok
 have hkh:=rJ hmd
 have hle:=ok.hgt_le h0
 obtain⟨T,hT⟩:=Nm (md.hgt)
 rw[← hT] at hkh p101
 have hz:nA ns (k:Int) (G:Int)= .tuple #[.int .i64 (i:Int),.bool true]:=by
  rw[nA,if_pos (by rw[hth] at h2;simp only[Int.toNat_natCast];omega),Int.toNat_natCast,Int.toNat_natCast,← hth,h1]
 rw[hz] at HA
 rw[hth,hkh] at h2
 rw[hkh] at hle
 obtain⟨F,hF⟩:=Nm (T - G)
 have eA:((dP ns k - dP ns i+1:Nat):Int)=((F+1:Nat):Int):=by rw[hth,hkh,← hF]
 rw[eA]
 have e1:IntKind.i64.wrap ((T:Int) - (G:Int))=(F:Int):=by rw[IntKind.wrap_i64];omega
 have e2:IntKind.i64.wrap ((F:Int)+1)=((F+1:Nat):Int):=by rw[IntKind.wrap_i64];omega
 have t1:((i:Int)!=(i:Int))=false:=by simp
 replace HT:=Hy HT
 replace hT:=Hy hT
 replace hF:=Hy hF
 replace p101:=Hy p101
 replace hmd:=Hy hmd
 replace hkh:=Hy hkh
 replace eA:=Hy eA
 clear mok h1
 refine Xm45 ?_;try clear nok HN HA hG q101 hnd hth;intro HN HA hG q101 hnd hth _ w1 b1 w2 a2 b2 z2 _ _ _ _ b3 v2 c101
 go_upto_region 7 with (go_at_call 112;refine(HA.out w2 v2).mono ?_;rintro e w4 ⟨rfl,b4⟩)
 have b5:=b3.trans (b4.mono b3.size)
 have v4:=hv.b b5
 have a4:=a2.b b4
 clear c101
 go_upto_region 8 with (first
  |(go_at_call 111;refine(HT.out w4 v4).mono ?_;rintro e w6 ⟨rfl,b6⟩)
  |((with_reducible refine SN (gF md) 106 ?_ ?_ ?_ (hn:=m106.out) (h1:=onem.out));rfl;rfl;intro w7 a7 b7 z7;clear z7;intro z7;replace z7:=Hy z7))
 have b8:=b6.trans (b7.mono b6.size)
 have b9:=b5.trans (b8.mono b5.size)
 have c1:=(a4.b b8).cell 101 _ q101.out
 have c2:=a7.cell 101 _ p101.out
 clear a2 a4 a7
 go_wp2
 go_ret2
 exact⟨rfl,b9⟩
theorem OZ (v:Value) (ns:List Nd) (ok:nH ns) (tip:Int) (ht: -9223372036854775808≤tip∧tip≤9223372036854775807) (i:Nat) (hi:i<ns.length) (w:World) (hv:mB w v ns):
  Calls prog 77 #[v,.int .i64 tip,.int .i64 (i:Int)] w fun e w'=>e= .returned (.tuple #[.int .i64 (rV ns tip i:Int),.bool (NW ns tip i)])∧Below w.heap.size w w':=by
 by_cases h0:0≤tip∧tip<ns.length∧(dP ns i:Int)≤dP ns tip.toNat
 ·by_cases h1:jE ns tip.toNat (dP ns tip.toNat - dP ns i)=i
  ·have e1:NW ns tip i=true:=decide_eq_true ⟨h0.1,h0.2.1,by have:=h0.2.2;omega,h1⟩
   have e2:rV ns tip i=dP ns tip.toNat - dP ns i+1:=by rw[rV,if_pos e1]
   rw[e1,e2]
   exact Hi v ns ok tip ht i hi w hv tip.toNat OM OM (by have:=h0.2.2;omega) h1
  ·have e1:NW ns tip i=false:=decide_eq_false fun h=>h1 h.2.2.2
   have e2:rV ns tip i=0:=by rw[rV,e1];rfl
   rw[e1,e2]
   exact CY v ns ok tip ht i hi w hv h0 h1
 ·have e1:NW ns tip i=false:=decide_eq_false fun h=>h0 ⟨h.1,h.2.1,by have:=h.2.2.1;omega⟩
  have e2:rV ns tip i=0:=by rw[rV,e1];rfl
  rw[e1,e2]
  exact EH v ns ok tip ht i hi w hv h0
def yV (L:List Nat) (i:Nat):Nat × Bool:=match L.findIdx? (fun x=>x==i) with
 |some k=>(L.length - k,true)
 |none=>(0,false)
theorem Gh {L:List Nat} {i k:Nat} (hk:L[k]? =some i) (h:∀ j,j<k→L[j]? ≠some i):yV L i=(L.length - k,true):=by
 obtain⟨hl,hn⟩:=List.getElem?_eq_some_iff.1 hk
 have:L.findIdx? (fun x=>x==i)=some k:=by
  rw[List.findIdx?_eq_some_iff_getElem]
  refine⟨hl,by rw[hn];simp,fun j hj=>?_⟩
  have:=h j hj
  rw[List.getElem?_eq_getElem OM] at this
  simpa using this
 rw[yV,this]
theorem CZ {L:List Nat} {i:Nat} (h:∀ j,j<L.length→L[j]? ≠some i):yV L i=(0,false):=by
 have:L.findIdx? (fun x=>x==i)=none:=by
  rw[List.findIdx?_eq_none_iff]
  intro m hm
  obtain⟨j,hj,rfl⟩:=List.getElem_of_mem hm
  have:=h j hj
  rw[List.getElem?_eq_getElem hj] at this
  simpa using this
 rw[yV,this]
theorem Hj {ns:List Nd} (ok:nH ns) (tip:Int) {i:Nat} (_:i<ns.length):(yV (nB ns tip) i).1=rV ns tip i:=by
 by_cases h:0≤tip∧tip<ns.length
 ·obtain⟨t,rfl⟩:∃ k:Nat,tip=(k:Int):=⟨tip.toNat,by omega⟩
  have ht:t<ns.length:=by omega
  rw[nB,if_pos h,rV,NW,Int.toNat_natCast]
  have hat:∀ k,k≤dP ns t→dP ns (jE ns t (dP ns t - k))=k:=fun k hk=>by
   have:=(ok.anc ht (dP ns t - k) OM).2.1
   omega
  by_cases ho:dP ns i≤dP ns t∧jE ns t (dP ns t - dP ns i)=i
  ·have hk:(wS ns t)[dP ns i]? =some i:=by rw[tL ns t _ ho.1,ho.2]
   rw[Gh hk (fun j hj e=>by
    rw[tL ns t j OM] at e
    have:=hat j OM
    rw[Option.some.inj e] at this
    omega),mL]
   simp[h.2,ho.1,ho.2]
   omega
  ·rw[CZ (fun j hj e=>by
    rw[mL] at hj
    rw[tL ns t j OM] at e
    have:=hat j OM
    rw[Option.some.inj e] at this
    rw[this] at ho
    exact ho ⟨by omega,Option.some.inj e⟩)]
   rw[if_neg (by simp only[decide_eq_true_eq];exact fun hx=>ho ⟨hx.2.2.1,hx.2.2.2⟩)]
 ·rw[nB,if_neg h,rV,NW,if_neg (by simp only[decide_eq_true_eq];exact fun hx=>h ⟨hx.1,hx.2.1⟩)]
  rfl
theorem JP (A:Option Addr) (n c most:Nat) (ns:List Nd) (hn:ns.length=n) (ok:nH ns) (hs:n≤1048576) (tip:Int) (i:Nat) (w:World) (hr:Rd w A (qF ns)):
  Calls prog 78 #[.agg #[.slice A n c,.int .i64 (most:Int)],.int .i64 tip,.int .i64 (i:Int)] w fun e w'=>e= .returned (.tuple #[.int .i64 ((yV (nB ns tip) i).1:Int),.bool (yV (nB ns tip) i).2])∧Below w.heap.size w w':=by
 have hLn:(nB ns tip).length≤n+1:=by
  unfold nB
  split
  ·rename_i h
   have:=ok.hgt_le (i:=tip.toNat) OM
   rw[mL];omega
  ·simp
 obtain⟨L,hL⟩:=Nm (nB ns tip)
 obtain⟨D,hD⟩:=Nm (yV L i)
 have HL:=fun (w':World) (r:Rd w' A (qF ns))=>Qr A n c most ns hn ok hs tip w' r
 rw[← hL] at HL hLn ⊢
 rw[← hD]
 obtain⟨W,hW⟩:=Nm (w.alloc (.cells #[.slice A n c,.int .i64 (most:Int)] 47))
 obtain⟨H,hH⟩:=Nm (w.heap.size)
 refine Xm90 ?_;intro bW
 have aT:Av W H 47 [.slice A n c,.int .i64 (most:Int)]:=by rw[hW,hH];exact heap_alloc_new _ _
 have rW:=hr.b bW
 replace HL:=Hy HL
 replace hL:=Hy hL
 replace hD:=Hy hD
 replace hW:=Hy hW
 replace hH:=Hy hH
 go_enter func78,ntmps78
 go_upto_region 1 with fail
 rw[← hW.out,← hH.out]
 go_upto_region 2 with (first
  |((with_reducible refine LH aT 2 Ta ?_ ?_);rfl)
  |(go_at_call 113;refine(HL.out W rW).mono ?_;rintro e w1 ⟨⟨v,rfl,iw⟩,b1⟩;obtain⟨B,m,d,rfl,hm,rb⟩:=iw))
 have bw:=bW.trans (b1.mono bW.size)
 clear b1 bW rW aT
 go_upto_region 3 with fail
 go_loopw [9] (fun kv wr=>∃ k:Nat,k≤m∧kv= .int .i64 (k:Int)∧(∀ j,j<k→L[j]? ≠some i)∧wr=w1) (fun kv _=>m - (intOf kv).toNat)
 case atStart=>exact⟨0,by omega,rfl,fun j h=>absurd h OM,rfl⟩
 case round=>
  obtain⟨k,hk,rfl,hno,rfl⟩:=hrel
  by_cases hlt:k<m
  ·obtain⟨x,hx⟩:∃ x,L[k]? =some x:=⟨_,List.getElem?_eq_getElem OM⟩
   obtain⟨b,off,rfl,cb⟩:=rb.atI hx
   have t1:decide ((k:Int)<(m:Int))=true:=by simp;omega
   have t2:decide (k<m)=true:=by simp;omega
   have k0:(0:Int)≤(k:Int):=by omega
   have k1:(k:Int)<(m:Int):=by omega
   by_cases he:x=i
   ·subst he
    have hd:=Hy (Gh hx hno)
    have u1:((x:Int)==(x:Int))=true:=by simp
    clear hno hx
    go_wp2
    go_ret2
    refine⟨?_,bw⟩
    rw[hD.out,hd.out,hm]
    simp
    omega
   ·have u1:((x:Int)==(i:Int))=false:=by simp;omega
    have u2:(x==i)=false:=by simp;omega
    have hno2:∀ j,j<k+1→L[j]? ≠some i:=fun j hj e=>by
     by_cases ej:j=k
     ·subst ej;rw[hx] at e;exact he (Option.some.inj e)
     ·exact hno j OM e
    replace hno2:=Hy hno2
    clear hno hx
    go_wp2
    refine⟨⟨k+1,by omega,by go_num,hno2.out,trivial⟩,?_⟩
    simp[intOf]
    omega
  ·obtain rfl:k=m:=by omega
   have t1:decide ((k:Int)<(k:Int))=false:=by simp
   have hd:=Hy (CZ (fun j hj=>hno j OM))
   clear hno
   go_wp2
   go_ret2
   refine⟨?_,bw⟩
   rw[hD.out,hd.out]
   rfl
theorem Pa {x y:Sn} (hx:x.ok) (hy:y.ok) (p q:Operand) (w:World):(do eqGuard .eql 111 p q (.agg (dY x).toArray) (.agg (dY y).toArray);binOp .eql 111 (.agg (dY x).toArray) (.agg (dY y).toArray):Sem Value).run prog w= .ok (.bool (x==y)) w:=by
 rw[Sem.run_bind,show (eqGuard .eql 111 p q (.agg (dY x).toArray) (.agg (dY y).toArray)).run prog w= .ok () w by go_simp,Result.andThen_ok,run_eql_struct,EG 111 KR KR KR hx hy]
 rfl
theorem Xc98 {p:Prop} (h:p:=by
 obtain rfl:j=n:=by omega
 have t2:decide ((j:Int)<(j:Int))=false:=by simp
 go_wp2
 go_ret
 have eR:R=false:=by
  cases e:R with
  |false=>rfl
  |true=>
   rw[hR.out,List.contains_iff_mem] at e
   obtain⟨i,hi,rfl⟩:=List.getElem_of_mem e
   have:=hf.out i (by rw[← hn.out];exact hi) _ (List.getElem?_eq_getElem hi)
   simp at this
 exact⟨by rw[eR];rfl,bw⟩):p:=h
theorem Xc56 {p:Prop} (h:p:=by
 refine jN cI.refl rfl rfl rfl rfl _ _ _ _ _ rfl pB pB (c:=.bool q) (fun w=>N1.out _ _ w) zZ ?_
 refine bO fun w2 hw2=>aF ?_
 have b2:=bw.trans (hw2.drew.mono bw.size)
 have a2:=aB.b hw2.drew
 clear hw2 bw aB
 cases q
 ·have hf2:Hid (∀ i,i<j+1→ ∀ z,l[i]? =some z→(z==x)=false):=Hy (fun i hi z hz=>by
   by_cases e:i=j
   ·subst e
    rw[hy.out] at hz
    rw[← Option.some.inj hz]
    exact hq.out.symm
   ·exact hf.out i OM z hz)
  go_wp2
  refine⟨⟨j+1,by omega,by go_num,b2,a2,hf2⟩,?_⟩
  simp[intOf]
  omega
 ·go_wp2
  go_ret
  have eR:R=true:=by rw[hR.out,List.contains_iff_mem,← eq_of_beq hq.out.symm];exact List.mem_of_getElem? hy.out
  exact⟨by rw[eR];rfl,b2⟩):p:=h
theorem Qt (l:List (List UInt8)) (x:(List UInt8)) (xok:x.length=32) (A:Option Addr) (n c:Nat) (w:World) (hr:fD w A l) (hn:l.length=n) (hm:n≤1000000):
  Calls prog 43 #[.slice A n c,.agg (x.map bv).toArray] w fun e w'=>e= .returned (.bool (l.contains x))∧Below w.heap.size w w':=by
 obtain⟨R,hR⟩:=Nm (l.contains x)
 rw[← hR]
 obtain⟨W,hW⟩:=Nm (w.alloc (.cells (x.map bv).toArray 35))
 obtain⟨H,hH⟩:=Nm (w.heap.size)
 have aW:Av W H 35 (x.map bv):=by rw[hW,hH];exact heap_alloc_new _ _
 refine Xm90 ?_;intro bW
 have xlen:=Hy (show (x.map bv).length=32 by rw[List.length_map];exact xok)
 replace hR:=Hy hR
 replace hW:=Hy hW
 replace hH:=Hy hH
 replace hn:=Hy hn
 go_enter func43,ntmps43
 go_upto_region 1 with fail
 rw[← hW.out,← hH.out]
 go_wp2
 go_loopw [5] (fun i wr=>∃ j:Nat,j≤n∧i= .int .i64 (j:Int)∧Below w.heap.size w wr∧Av wr H 35 (x.map bv)∧Hid (∀ i,i<j→ ∀ z,l[i]? =some z→(z==x)=false)) (fun i _=>n - (intOf i).toNat)
 case atStart=>exact⟨0,by omega,rfl,bW,aW,Hy (fun i hi=>by omega)⟩
 case round=>
  clear aW
  obtain⟨j,hj,rfl,bw,aB,hf⟩:=hrel
  by_cases hlt:j<n
  ·have t2:decide ((j:Int)<(n:Int))=true:=by simp;omega
   obtain⟨y,hy⟩:∃ y,l[j]? =some y:=⟨_,List.getElem?_eq_getElem (by rw[hn.out];exact hlt)⟩
   obtain⟨b,off,rfl⟩:=hr.adr (by rw[hn.out];omega)
   have G1:Hid (∀ w',Below w.heap.size w w'→w'.rangeAt b (off+j*32) (y.map bv)):=Hy fun w' h=>(hr.b h).nth j y hy
   have yok:y.length=32:=hr.2 y (List.mem_of_getElem? hy)
   have ylen:=Hy (show (y.map bv).length=32 by rw[List.length_map];exact yok)
   obtain⟨q,hq⟩:=Nm ((y==x))
   have N1:=CX y x yok xok
   rw[← hq] at N1
   replace N1:=Hy N1
   have m0:0≤(j:Int):=by omega
   have m1:(j:Int)<(n:Int):=by omega
   replace hy:=Hy hy
   replace hq:=Hy hq
   go_upto_region 4 with fail
   refine ZR ?_
   refine ZM ?_
   refine ZM ?_
   refine ZQ (c:=.pointer (some ⟨b,off+j*32,none⟩)) ?_
   refine ZP (c:=.agg (y.map bv).toArray) (fun w hw=>bJ _ _ rfl b (off+j*32) rfl (y.map bv) _ (G1.out _ (bw.trans (hw.drew.mono bw.size))) SS rfl (by rw[ylen.out];kernel_rfl)) ?_
   refine ZP (c:=.agg (x.map bv).toArray) (fun w hw=>aE (aB.b hw.drew) _ _ rfl rfl _ 32 xlen.out SS rfl KR) ?_
   exact Xc56
  ·exact Xc98
theorem Qu (l:List Sn) (x:Sn) (xok:x.ok) (A:Option Addr) (n c:Nat) (w:World) (hr:dI w A l) (hn:l.length=n) (hm:n≤1000000):
  Calls prog 52 #[.slice A n c,.agg (dY x).toArray] w fun e w'=>e= .returned (.bool (l.contains x))∧Below w.heap.size w w':=by
 obtain⟨R,hR⟩:=Nm (l.contains x)
 rw[← hR]
 obtain⟨W,hW⟩:=Nm (w.alloc (.cells (dY x).toArray 111))
 obtain⟨H,hH⟩:=Nm (w.heap.size)
 have aW:Av W H 111 (dY x):=by rw[hW,hH];exact heap_alloc_new _ _
 refine Xm90 ?_;intro bW
 have xlen:=Hy (dD (s:=x) xok)
 replace hR:=Hy hR
 replace hW:=Hy hW
 replace hH:=Hy hH
 replace hn:=Hy hn
 go_enter func52,ntmps52
 go_upto_region 1 with fail
 rw[← hW.out,← hH.out]
 go_wp2
 go_loopw [5] (fun i wr=>∃ j:Nat,j≤n∧i= .int .i64 (j:Int)∧Below w.heap.size w wr∧Av wr H 111 (dY x)∧Hid (∀ i,i<j→ ∀ z,l[i]? =some z→(z==x)=false)) (fun i _=>n - (intOf i).toNat)
 case atStart=>exact⟨0,by omega,rfl,bW,aW,Hy (fun i hi=>by omega)⟩
 case round=>
  clear aW
  obtain⟨j,hj,rfl,bw,aB,hf⟩:=hrel
  by_cases hlt:j<n
  ·have t2:decide ((j:Int)<(n:Int))=true:=by simp;omega
   obtain⟨y,hy⟩:∃ y,l[j]? =some y:=⟨_,List.getElem?_eq_getElem (by rw[hn.out];exact hlt)⟩
   obtain⟨b,off,rfl⟩:=hr.adr (by rw[hn.out];omega)
   have G1:Hid (∀ w',Below w.heap.size w w'→w'.rangeAt b (off+j*65) (dY y)):=Hy fun w' h=>((hr.b h).nth j y hy).1
   have yok:y.ok:=hr.2 y (List.mem_of_getElem? hy)
   have ylen:=Hy (dD (s:=y) yok)
   obtain⟨q,hq⟩:=Nm ((y==x))
   have N1:=Pa yok xok
   rw[← hq] at N1
   replace N1:=Hy N1
   have m0:0≤(j:Int):=by omega
   have m1:(j:Int)<(n:Int):=by omega
   replace hy:=Hy hy
   replace hq:=Hy hq
   go_upto_region 4 with fail
   refine ZR ?_
   refine ZM ?_
   refine ZM ?_
   refine ZQ (c:=.pointer (some ⟨b,off+j*65,none⟩)) ?_
   refine ZP (c:=.agg (dY y).toArray) (fun w hw=>bJ _ _ rfl b (off+j*65) rfl (dY y) _ (G1.out _ (bw.trans (hw.drew.mono bw.size))) Tf rfl (by rw[ylen.out];kernel_rfl)) ?_
   refine ZP (c:=.agg (dY x).toArray) (fun w hw=>aE (aB.b hw.drew) _ _ rfl rfl _ 65 xlen.out Tf rfl KR) ?_
   exact Xc56
  ·exact Xc98
end Go.Proofs.YtobjgebojhjhnaaGreatDoor
