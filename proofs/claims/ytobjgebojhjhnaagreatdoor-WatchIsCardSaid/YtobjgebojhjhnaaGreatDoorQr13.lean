import Derived.Test.YtobjgebojhjhnaaGreatDoorQr12
import Derived.Test.YtobjgebojhjhnaaGreatDoorQr18
namespace Go.Proofs.YtobjgebojhjhnaaGreatDoor
set_option maxRecDepth 100000
set_option maxHeartbeats 16000000
open Go.RowKit Tryz
attribute [local go_sem high] QY wT
attribute [local simp] BA
theorem vZ {w:World} {base:Nat} {e t:TypeId} {size n g:Nat} {v:Value} {xs l:List Value} (h:w.ownsRow base e size v n xs) (ha:Av w g t l) (ht:e≠t):v.ownBlock≠some g:=by
 intro hb
 rcases h.2 with ⟨e1,e0⟩|⟨g',cap,cur,e1,hb',hg,_⟩
 ·rw[e1] at hb;cases hb
 ·rw[e1] at hb
  injection hb with hb
  subst hb
  rw[Av] at ha
  rw[hg] at ha
  injection ha with ha
  injection ha with _ h2 _
  exact ht h2
theorem FY {w:World} {base:Nat} {e:TypeId} {size n g:Nat} {v:Value} {xs:List Value} {ns:List Nd} (h:w.ownsRow base e size v n xs) (ha:mZ w (some g) ns):v.ownBlock≠some g:=by
 intro hb
 obtain⟨_,_,⟨es,clock,e3,_⟩,_⟩:=ha
 rcases h.2 with ⟨e1,e0⟩|⟨g',cap,cur,e1,hb',hg,_⟩
 ·rw[e1] at hb;cases hb
 ·rw[e1] at hb
  injection hb with hb
  subst hb
  rw[hg] at e3
  cases e3
theorem wW {w:World} {g:Nat} {t:TypeId} {l:List Value} {b:Nat} {ns:List Nd} (h:Av w g t l) (ha:mZ w (some b) ns):g≠b:=by
 rintro rfl
 obtain⟨_,_,⟨es,clock,e3,_⟩,_⟩:=ha
 rw[Av,e3] at h
 cases h
structure sS (w:World) (base R most:Nat) (v:Value) (M:Nat) (ns:List Nd):Prop where
 av:Av w R 149 [.int .i64 (most:Int),v,.map (some M)]
 own:w.ownsRow base 154 106 v ns.length (qF ns)
 map:mZ w (some M) ns
 small:ns.length≤most
 lim:most≤1048576
 hR:base≤R
 hM:base≤M
 ok:nH ns
theorem Ms {w:World} {base:Nat} {v:Value} {ns:List Nd} (h:w.ownsRow base 154 106 v ns.length (qF ns)):∃ A c,v= .slice A ns.length c∧Rd w A (qF ns):=by
 rcases h.2 with ⟨e,e0⟩|⟨g,cap,cur,e,hb,hg,_⟩
 ·have hl:=h.1
  have:qF ns= []:=by
   have:(qF ns).length=0:=by rw[hl,e0]
   exact List.eq_nil_of_length_eq_zero this
  exact⟨none,0,by rw[e,e0],.inl this⟩
 ·refine⟨some ⟨g,0,none⟩,cap,e,.inr ⟨g,0,rfl,fun j u hu=>?_⟩⟩
  have:=h.cells (g:=g) (by rw[e];rfl) j u hu
  rwa [iM] at this
theorem sS.rv {w:World} {base R most:Nat} {v:Value} {M:Nat} {ns:List Nd} (h:sS w base R most v M ns):∃ A c,v= .slice A ns.length c∧Mq w R most A ns.length c (some M) ns:=by
 obtain⟨A,c,e,r⟩:=Ms h.own
 refine⟨A,c,e,by rw[← e];exact h.av,rfl,Nat.le_trans h.small h.lim,r,h.map,h.ok.nds⟩
theorem sS.ref {w:World} {base R most:Nat} {v:Value} {M:Nat} {ns:List Nd} (h:sS w base R most v M ns):mB w (.pointer (some ⟨R,0,none⟩)) ns:=by
 obtain⟨A,c,e,r⟩:=h.rv
 exact .inr ⟨R,most,A,_,c,_,rfl,r⟩
theorem sS.b {w w':World} {base R most:Nat} {v:Value} {M:Nat} {ns:List Nd} (h:sS w base R most v M ns) (b:Below w.heap.size w w'):sS w' base R most v M ns:=
 ⟨h.av.b b,aJ h.own b,h.map.b b,h.small,h.lim,h.hR,h.hM,h.ok⟩
theorem sS.low {w:World} {b base R most:Nat} {v:Value} {M:Nat} {ns:List Nd} (h:sS w base R most v M ns) (hb:b≤base):sS w b R most v M ns:=by
 refine⟨h.av,?_,h.map,h.small,h.lim,Nat.le_trans hb h.hR,Nat.le_trans hb h.hM,h.ok⟩
 refine⟨h.own.1,h.own.2.imp id ?_⟩
 rintro⟨g,cap,cur,e,hg,hrest⟩
 exact⟨g,cap,cur,e,Nat.le_trans hb hg,hrest⟩
theorem sS.fr {w w':World} {base R most:Nat} {v:Value} {M:Nat} {ns:List Nd} (h:sS w base R most v M ns) {g:Nat} (f:Fr (fun k=>k=g) w w') (hR:g≠R) (hv:v.ownBlock≠some g) (hM:g≠M):sS w' base R most v M ns:=
 ⟨f.av h.av (Ne.symm hR),bU h.own f (fun k hk e=>hv (by rw[hk,e])),h.map.block fun b e=>f.block b (by cases e;exact h.map.lt) (by cases e;exact Ne.symm hM),h.small,h.lim,h.hR,h.hM,h.ok⟩
def wZ (m:Int):Nat:=(min (max m 0) 1048576).toNat
theorem Ry (m:Int) (w:World):Calls prog 28 #[.int .i64 m] w fun e w'=>(∃ R M,e= .returned (.pointer (some ⟨R,0,none⟩))∧sS w' w.heap.size R (wZ m) (.slice none 0 0) M [])∧Below w.heap.size w w':=by
 have hmm:=@run_makeMap prog
 obtain⟨C,hC⟩:=Nm (wZ m)
 rw[← hC]
 have eC:min (max m 0) 1048576=(C:Int):=by rw[hC,wZ];omega
 have lC:C≤1048576:=by rw[hC,wZ];omega
 have eC':=eC
 replace hC:=Hy hC
 replace eC':=Hy eC'
 go_enter func28,ntmps28
 go_wp2
 go_ret
 refine⟨⟨_,_,rfl,⟨?_,World.ownsRow_nil _ _ _ _,?_,Nat.zero_le _,lC,by omega,Nat.le_refl _,nH.nil⟩⟩,((Below.refl _ _).alloc LR _).alloc zS _⟩
 ·have:=heap_alloc_new (w.alloc (.map #[] 0)) (.cells #[Value.int .i64 C,.slice none 0 0,.map (some w.heap.size)] 149)
  simp only[World.size_alloc] at this
  exact this
 ·exact(mZ.made w).b ((Below.refl _ _).alloc LR _)
theorem CJ:(match prog.underlying 154 with|some (.struct fs)=>fs.toList.mapM (fun f=>(prog.info? f.type).map fun i=>(f.offset,i.size))|_=>none)=some [(0,32),(32,68),(100,1),(101,1),(102,4)]:=by kernel_rfl
theorem GZ:(prog.info? 154).map (·.zero)=some (some (.agg Ea)):=by kernel_rfl
theorem Ey (x:List UInt8) (h:Hd) (y:Nat) (hx:x.length=32) (hh:h.ok):prog.built 154 [(0,.agg (cK x)),(1,.agg (fC h).toArray),(2,.int .i64 (-1)),(4,.agg (uc y).toArray)]=some (gF ⟨x,h,-1,0,y⟩).toArray:=by
 have hp:=CJ
 rw[Tr] at hp
 rw[fL Tr GZ hp]
 have h68:=cJ hh
 have z68:(fC dO.head).length=68:=rfl
 have z32:(dO.id.map bv).length=32:=rfl
 show Instr.fill _ (([]++(dO.id.map bv++(fC dO.head++([.int .i64 0,.int .i64 0]++uc 0)))):List Value).toArray _=_
 generalize fC dO.head=Z1 at*
 generalize dO.id.map bv=Z0 at*
 refine Eq.trans (dA [] Z0 (x.map bv) _ (off:=0) (size:=32) ?_ ?_ ?_ ?_ ?_) ?_
 ·exact rfl
 ·exact rfl
 ·exact(by simpa using hx)
 ·exact rfl
 ·exact z32
 rw[show ([]++(x.map bv++(Z1++([.int .i64 0,.int .i64 0]++uc 0))):List Value)=x.map bv++(Z1++([.int .i64 0,.int .i64 0]++uc 0)) from rfl]
 refine Eq.trans (dA (x.map bv) Z1 (fC h) _ (off:=32) (size:=68) ?_ ?_ ?_ ?_ ?_) ?_
 ·exact rfl
 ·exact rfl
 ·exact h68
 ·exact(by simpa using hx)
 ·exact z68
 rw[show (x.map bv++(fC h++([.int .i64 0,.int .i64 0]++uc 0)):List Value)=(x.map bv++fC h)++([.int .i64 0]++([.int .i64 0]++uc 0)) by simp]
 refine Eq.trans (dA (x.map bv++fC h) [.int .i64 0] [.int .i64 (-1)] _ (off:=100) (size:=1) ?_ ?_ ?_ ?_ ?_) ?_
 ·exact rfl
 ·exact rfl
 ·exact rfl
 ·exact(by simp[hx,h68])
 ·exact rfl
 rw[show ((x.map bv++fC h)++([.int .i64 (-1)]++([.int .i64 0]++uc 0)):List Value)=(x.map bv++fC h++ [.int .i64 (-1),.int .i64 0])++(uc 0++ []) by simp]
 refine Eq.trans (dA (x.map bv++fC h++ [.int .i64 (-1),.int .i64 0]) (uc 0) (uc y) [] (off:=102) (size:=4) ?_ ?_ ?_ ?_ ?_) ?_
 ·exact rfl
 ·exact rfl
 ·exact rfl
 ·exact(by simp[hx,h68])
 ·exact rfl
 rw[Instr.fill]
 congr 2
 simp[gF]
theorem Xc166 {p:Prop} (h:p:=by
 have h1:=h.id
 have h2:=cJ h.head
 unfold gF
 rw[List.set_append_right _ _ (by simp[h1]),List.set_append_right _ _ (by simp[h1,h2])]
 simp[h1,h2]):p:=h
theorem Mt (n:Nd) (h:uT n) (p:Int):(gF n).set 100 (.int .i64 p)=gF {n with par:=p}:=by
 exact Xc166
theorem Mv (n:Nd) (h:uT n) (g:Nat):(gF n).set 101 (.int .i64 (g:Int))=gF {n with hgt:=g}:=by
 exact Xc166
theorem Ak (n:Nd):gF n=(n.id.map bv++(fC n.head++ [.int .i64 n.par,.int .i64 (n.hgt:Int)]))++uc n.wrk++ []:=by simp[gF]
theorem Ju:(prog.info? 154).map (fun i=>(i.size,i.bytes))=some (106,160):=by kernel_rfl
theorem Jv:(prog.info? 154).map (fun i=>(i.zero.map (·.cells.size)))=some (some 106):=by kernel_rfl
def gU (w w':World):Prop:=∀ (g:Nat) (t:TypeId) (l:List Value),Av w g t l→149≠t→154≠t→Av w' g t l
theorem gU.ofBelow {w w':World} (h:Below w.heap.size w w'):gU w w':=fun _ _ _ a _ _=>a.b h
theorem gU.trans {a b c:World} (h:gU a b) (k:gU b c):gU a c:=fun g t l x h1 h2=>k g t l (h g t l x h1 h2) h1 h2
theorem gU.grown {w w':World} {base size n:Nat} {v:Value} {xs:List Value} (o:w.ownsRow base 154 size v n xs) (gr:w.grownBy w' v.ownBlock):gU w w':=fun _ _ _ a _ h2=>(Fr.of_grown gr).av a (fun e=>vZ o a h2 e.symm)
theorem gU.setR {w:World} {R i:Nat} {l:List Value} (h:Av w R 149 l) (x:Value):gU w (w.setCell ⟨R,i,none⟩ x):=fun g t k a h1 _=>a.other _ _ (by
 rintro rfl
 have:=a.symm.trans h
 injection Option.some.inj this with _ h2
 exact h1 h2.symm)
theorem gU.map {w w':World} {M:Nat} {ns:List Nd} (h:mZ w (some M) ns) (gr:w.grownBy w' (some M)):gU w w':=fun _ _ _ a _ _=>(Fr.of_grown gr).av a (fun e=>wW a h (Option.some.inj e))
theorem CL {w:World} {b:Nat} {ns:List Nd} (h:mZ w (some b) ns) (hn:ns.length≤1048576) (nd:Nd) (hid:nd.id.length=32) (hf:bZ ns nd.id=none) {ops:Array Oper} {rest:List Oper} {a:Act} {Q:Exit→Act→World→Prop} {d tp pos af} {m x y:Operand}
  (hm:a.eval m= .map (some b)) (hx:a.eval x= .agg (cK nd.id)) (hy:a.eval y= .int .i64 (ns.length:Int)) (k:∀ w',mZ w' (some b) (ns++ [nd])→w.grownBy w' (some b)→wpList prog ops Q rest (a.put d undef) w'):wpList prog ops Q (⟨d,.mapUpdate 146 m x y,tp,pos,af,none⟩ :: rest) a w:=by
 refine wpList_plain rfl fun _ hK=>?_
 obtain⟨w',hrun,r1,r2⟩:=h.put hn hid hf
 unfold Oper.wp
 simp[execOp,hm,hx,hy,hrun,Result.andThen]
 exact hK _ _ (k w' r1 r2)
theorem Qn {P:Program} {w:World} {o:Oper} {ρ:Operand→Value} {b i:Nat} {t:TypeId} {L L':List Value} (h0:Av w b t L) (hi:i<L.length) (ty:TypeId) (kk:IntKind) (z:Int) (x y:Operand) (ho:o.op= .store ty x y) (hx:ρ x= .pointer (some ⟨b,i,none⟩)) (hy:ρ y= .int kk z) (hs:(P.info? ty).map (·.size)=some 1) (e:L.set i (.int kk z)=L'):
  ∃ w',(execOp ρ o).run P w= .ok .skip w'∧Av w' b t L'∧Fr (fun k=>k=b) w w':=
 ⟨_,pK ty h0 hi kk z ho hx hy hs,by rw[← e];exact h0.set i _,Fr.setCell w ⟨b,i,none⟩ _⟩
theorem Av.range0 {w:World} {g:Nat} {t:TypeId} {l:List Value} (h:Av w g t l):w.rangeAt g 0 l:=fun j u hu=>by rw[Nat.zero_add];exact h.cell j u hu
theorem xA {P:Program} (ty:TypeId) {w:World} {b off:Nat} (vs:List Value) (hth:w.there b off vs.length) {ops:Array Oper} {rest:List Oper} {a:Act} {Q:Exit→Act→World→Prop} {d tp pos af} {x y:Operand}
  (hx:a.eval x= .pointer (some ⟨b,off,none⟩)) (hy:a.eval y= .agg vs.toArray) (hi:(P.info? ty).map (·.size)=some vs.length) (h1:vs.all (·.oneCell')=true) (k:wpList P ops Q rest (a.put d undef) (w.setCells b off vs)):wpList P ops Q (⟨d,.store ty x y,tp,pos,af,none⟩ :: rest) a w:=
 wpList_store_mid rfl ty x y rfl b off vs.toArray hx hy (by simpa using hth) (by simpa using hi) (by simpa using h1) (by simpa using k)
def O9 (g:Nat) (L:List Value) (p q:Int):oL:=⟨g,154,[5,7],fun f=>(fun L2=>if f 7=true then L2.set 101 (.int .i64 q) else L2) (if f 5=true then L.set 100 (.int .i64 p) else L)⟩
theorem OK (g:Nat) (L:List Value) (p q:Int) (f f':Nat→Bool) (h:∀ k ∈ (O9 g L p q).ks,f k=f' k):(O9 g L p q).C f=(O9 g L p q).C f':=by
 have h5:=h 5 (by simp[O9])
 have h7:=h 7 (by simp[O9])
 simp[O9,h5,h7]
theorem Jw (g:Nat) (L:List Value) (p q:Int) (f:Nat→Bool):((O9 g L p q).C f).length=L.length:=by
 simp only[O9]
 split <;> split <;> simp
theorem Rz (g:Nat) (L:List Value) (p q:Int) (f:Nat→Bool) (hf:f 5=false):((O9 g L p q).C f).set 100 (.int .i64 p)=(O9 g L p q).C fun k=>k==5 || f k:=by
 simp only[O9,hf]
 cases f 7 <;> simp[List.set_comm]
theorem RA (g:Nat) (L:List Value) (p q:Int) (f:Nat→Bool) (hf:f 7=false):((O9 g L p q).C f).set 101 (.int .i64 q)=(O9 g L p q).C fun k=>k==7 || f k:=by
 simp[O9,hf]
theorem Ez (base R most:Nat) (v:Value) (Mp:Nat) (ns:List Nd) (h:Hd) (hh:h.ok) (w:World) (ht:fW w) (T:sS w base R most v Mp ns) (hbase:base≤w.heap.size) (i:Nat) (hk:bZ ns (dS h)=some i):
  Calls prog 29 #[.pointer (some ⟨R,0,none⟩),.agg (fC h).toArray] w fun e w'=>e= .returned (.tuple #[.int .i64 (i:Int),.int .i64 10])∧(∃ v',sS w' base R most v' Mp (ns))∧Below base w w'∧gU w w':=by
 obtain⟨W,hW⟩:=Nm (w.alloc (.cells (fC h).toArray 37))
 obtain⟨H,hH⟩:=Nm (w.heap.size)
 refine Xm90 ?_;intro bW
 have aH:Av W H 37 (fC h):=by rw[hW,hH];exact heap_alloc_new _ _
 have h68:=Hy (cJ hh)
 have HI:=OJ h hh W (ht.b bW)
 have hX:=fZ h
 obtain⟨X,hXe⟩:=Nm (dS h)
 rw[← hXe] at HI hX hk
 have l32:Hid ((X.map bv).length=32):=Hy (by rw[List.length_map];exact hX)
 have one32:=Hy (List.all_eq_true.2 (dB X))
 have HF:=fun w' (q:mB w' (.pointer (some ⟨R,0,none⟩)) ns)=>Ae _ ns X hX w' q
 rw[hk] at HF
 have z32:=Hy (show ((#[.int .u8 0,.int .u8 0,.int .u8 0,.int .u8 0,.int .u8 0,.int .u8 0,.int .u8 0,.int .u8 0,.int .u8 0,.int .u8 0,.int .u8 0,.int .u8 0,.int .u8 0,.int .u8 0,.int .u8 0,.int .u8 0,.int .u8 0,.int .u8 0,.int .u8 0,.int .u8 0,.int .u8 0,.int .u8 0,.int .u8 0,.int .u8 0,.int .u8 0,.int .u8 0,.int .u8 0,.int .u8 0,.int .u8 0,.int .u8 0,.int .u8 0,.int .u8 0]:Array Value)).size=32 from rfl)
 replace hXe:=Hy hXe
 replace HI:=Hy HI
 replace HF:=Hy HF
 replace hk:=Hy hk
 replace hX:=Hy hX
 replace hW:=Hy hW
 replace hH:=Hy hH
 go_enter func29,ntmps29
 go_upto_region 1 with fail
 rw[← hW.out,← hH.out]
 go_upto_region 2 with (first
  |((with_reducible refine LF aH 68 h68.out Tb ?_ ?_);rfl)
  |(go_at_call 44;refine(HI.out).mono ?_;rintro e w1 ⟨rfl,b1⟩)
  |((with_reducible refine SN (X.map bv) 32 ?_ ?_ ?_ (hn:=l32.out) (ho:=z32.out) (h1:=one32.out));rfl;rfl;intro w2 a2 b2 k2 z2;clear k2;replace z2:=Hy z2))
 have b02:=bW.trans ((b1.mono bW.size).trans (b2.mono (Nat.le_trans bW.size b1.size)))
 have aH2:=(aH.b b1).b b2
 have T2:=T.b b02
 clear b1 b2 aH bW
 obtain⟨g6,hg6⟩:=Nm (w1.heap.size)
 rw[← hg6] at a2 ⊢
 replace hg6:=Hy hg6
 go_upto_region 3 with (first
  |((with_reducible refine LF a2 32 l32.out SS ?_ ?_);rfl)
  |(go_at_call 45;refine(HF.out w2 T2.ref).mono ?_;rintro e w3 ⟨rfl,b3⟩))
 have b03:=b02.trans (b3.mono b02.size)
 have aH3:=aH2.b b3
 have aX3:=a2.b b3
 have T3:=T2.b b3
 clear b3 a2 aH2 T2 b02
 go_wp2
 go_ret2
 exact⟨rfl,⟨v,T3⟩,b03.mono hbase,gU.ofBelow b03⟩
theorem Xm134 {p q:Prop} (k:q) (h:Hid q→p:=by
 intro hk
 have nok:uT nd:=by rw[hnd.out,← hXe.out,← hbb.out,← hWk.out,← hnd0.out];exact nok0
 have hnn:nd=nd0:=by rw[hnd0.out,hnd.out,hXe.out,hWk.out,hbb.out]
 have nid:Hid (nd.id=X):=Hy (by rw[hnd.out,hXe.out])
 have l106n:Hid ((gF nd).length=106):=Hy (dN nok)
 have one106n:=Hy (kA nd)
 replace hnn:=Hy hnn
 replace nok:=nok
 revert nid l106n one106n hnn nok;exact hk.out):p:=h (Hy k)
theorem Xc43 {p:Prop} (h:p:=by
 obtain⟨A,c,hv,Rv⟩:=Tq.rv
 obtain⟨N,hN⟩:=Nm (ns.length)
 have Tq0:=Tq
 rw[hv] at Tq
 have avq:=Tq.av
 have oq:=Tq.own
 rw[← hN] at oq avq
 have mq:=Tq.map
 have hMR:=wW avq mq
 have hlim:most≤1048576:=Tq.lim
 have hsml:N≤most:=by rw[hN];exact Tq.small
 have hfull:most≤N:=by rw[hN];exact hfull
 have tF:decide ((most:Int)≤(N:Int))=true:=by simp;omega
 have tF2:decide (most≤N)=true:=by simp;omega
 replace hv:=Hy hv
 replace hN:=Hy hN
 clear Tq Rv mq oq
 refine ZR ?_
 repeat refine ZP (fun w hw=>by have:=(avq.b hw.drew).cell 1 _ rfl;have:=(avq.b hw.drew).cell 0 _ rfl;have:=tF;have:=tF2;exact zG) ?_
 refine bO fun w9 hw9=>aF ?_
 have b9:=bq.trans (hw9.drew.mono bq.size)
 have T9:=Hy (Tq0.b hw9.drew)
 clear avq Tq0 aN aXq
 go_wp2
 go_ret2
 exact⟨rfl,⟨v,T9.out⟩,b9.mono hbase,gU.ofBelow b9⟩):p:=h
theorem Xm0 {p q:Prop} (k:q) (h:Hid q→p:=by
 intro hk
 go_enter func29,ntmps29
 go_upto_region 1 with fail
 rw[← hW.out,← hH.out]
 go_upto_region 2 with (first
  |((with_reducible refine LF aH 68 h68.out Tb ?_ ?_);rfl)
  |(go_at_call 44;refine(HI.out).mono ?_;rintro e w1 ⟨rfl,b1⟩)
  |((with_reducible refine SN (X.map bv) 32 ?_ ?_ ?_ (hn:=l32.out) (ho:=z32.out) (h1:=one32.out));rfl;rfl;intro w2 a2 b2 k2 z2;clear k2;replace z2:=Hy z2))
 have b02:=bW.trans ((b1.mono bW.size).trans (b2.mono (Nat.le_trans bW.size b1.size)))
 have aH2:=(aH.b b1).b b2
 have T2:=T.b b02
 clear b1 b2
 obtain⟨g6,hg6⟩:=Nm (w1.heap.size)
 rw[← hg6] at a2 ⊢
 replace hg6:=Hy hg6
 go_upto_region 3 with (first
  |((with_reducible refine LF a2 32 l32.out SS ?_ ?_);rfl)
  |(go_at_call 45;refine(HF.out w2 T2.ref).mono ?_;rintro e w3 ⟨rfl,b3⟩))
 have b03:=b02.trans (b3.mono b02.size)
 have aH3:=aH2.b b3
 have aX3:=a2.b b3
 have T3:=T2.b b3
 clear b3 a2 aH2 T2 b02
 go_upto_region 5 with fail
 refine dG [⟨6,9,7,154,gF dO,gF nd0⟩] [] KR KR KR KR KR (by intro e he;cases he) zS (by intro e he;cases he) ?_
 repeat first|refine dK rfl rfl rfl rfl (fun w hw=>by have:=(aH3.b hw.nil).cell 66 _ c66.out;exact zG) zZ ?_|refine dK rfl rfl rfl rfl (c:=.agg (X.map bv).toArray) (fun w hw=>aE (aX3.b hw.nil) _ _ rfl rfl _ 32 l32.out SS rfl KR) zZ ?_|refine dK rfl rfl rfl rfl (c:=.agg (fC h).toArray) (fun w hw=>aE (aH3.b hw.nil) _ _ rfl rfl _ 68 h68.out Tb rfl KR) zZ ?_
 refine jO rfl rfl rfl rfl (c:=.agg (uc Wk).toArray) 58 #[.int .u32 (bb:Int)] (fun w=>by go_simp) (fun w hw=>(HW.out w).mono (by rintro e w' ⟨rfl,b⟩;exact⟨rfl,b⟩)) zZ ?_
 refine dK rfl rfl rfl rfl (c:=.agg (gF nd0).toArray) (fun w hw=>dC (cs:=gF nd0) (ops:=[(0,.tmp 24),(1,.tmp 25),(2,.const (.int .i64 (-1))),(4,.tmp 28)]) rfl hbt.out) zZ ?_
 refine mU rfl rfl (fun ρ w=>by unfold execOp;go_simp;rfl) ?_
 refine mV rfl rfl (fun w hw=>aC rfl rfl fun v _=>aF fun b hb h0=>?_) ?_
 ·simp at hb
  subst hb
  exact iY h0 (tN.trans l106.out.symm) _ _ _ rfl rfl rfl 106 l106.out KR one106.out
 refine wM fun w5 hw5=>aC rfl rfl fun v9 _=>aF fun hJ _=>?_
 obtain⟨g9,hb,hB,a9⟩:=hJ.at_ ⟨6,9,7,154,gF dO,gF nd0⟩ (List.mem_cons_self ..) rfl
 simp at hb
 subst hb
 replace a9:Av w5 g9 154 (gF nd0):=a9
 have b5:=hw5.nil
 have b05:=b03.trans (b5.mono b03.size)
 have aX5:=aX3.b b5
 have aH5:=aH3.b b5
 have T5:=T3.b b5
 have hg9:w.heap.size≤g9:=Nat.le_trans b03.size hB
 have hg69:g6<g9:=Nat.lt_of_lt_of_le aX3.lt hB
 have hH9:H<g9:=Nat.lt_of_lt_of_le aH3.lt hB
 clear hw5 hJ T3 b03 b5 aX3 aH3 hB
 simp only[List.set_cons_succ,List.set_cons_zero]
 have HL:=Hy (Ql _ ns w5 T5.ref)
 rename_i zq0 zq1 zq2 zq3 zq4
 revert zq0 w1 w2 z2 g6 hg6 w3 zq1 zq2 w5 zq3 zq4 g9 a9 b05 aX5 aH5 T5 hg9 hg69 hH9 HL;exact hk.out):p:=h (Hy k)
theorem EA (base R most:Nat) (v:Value) (Mp:Nat) (ns:List Nd) (h:Hd) (hh:h.ok) (w:World) (ht:fW w) (T:sS w base R most v Mp ns) (hbase:base≤w.heap.size) (hk:bZ ns (dS h)=none) (hn0:ns= []) (hfull:most≤ns.length):
  Calls prog 29 #[.pointer (some ⟨R,0,none⟩),.agg (fC h).toArray] w fun e w'=>e= .returned (.tuple #[.int .i64 (-1),.int .i64 12])∧(∃ v',sS w' base R most v' Mp (ns))∧Below base w w'∧gU w w':=by
 have hnew0:gS ns h=some ⟨dS h,h,-1,0,fE h.bits⟩:=by rw[gS,if_pos (by rw[hn0];rfl)]
 have hRb:=T.hR
 have hMb:=T.hM
 have hn1:ns.length=0:=by rw[hn0];rfl
 obtain⟨nd,hnd⟩:∃ nd:Nd,nd=⟨dS h,h,-1,0,fE h.bits⟩:=⟨_,rfl⟩
 rw[← hnd] at hnew0 
 have hnew:=Hy hnew0
 clear hnew0 hn0
 replace hnd:=Hy hnd
 obtain⟨W,hW⟩:=Nm (w.alloc (.cells (fC h).toArray 37))
 obtain⟨H,hH⟩:=Nm (w.heap.size)
 have bW:Below w.heap.size w W:=by rw[hW];exact(Below.refl _ _).alloc LR _
 have aH:Av W H 37 (fC h):=by rw[hW,hH];exact heap_alloc_new _ _
 have h68:=Hy (cJ hh)
 have HI:=OJ h hh W (ht.b bW)
 have hX:=fZ h
 obtain⟨X,hXe⟩:=Nm (dS h)
 rw[← hXe] at HI hX hk
 have l32:Hid ((X.map bv).length=32):=Hy (by rw[List.length_map];exact hX)
 have one32:=Hy (List.all_eq_true.2 (dB X))
 have HF:=fun w' (q:mB w' (.pointer (some ⟨R,0,none⟩)) ns)=>Ae _ ns X hX w' q
 rw[hk] at HF
 have z32:=Hy (show ((#[.int .u8 0,.int .u8 0,.int .u8 0,.int .u8 0,.int .u8 0,.int .u8 0,.int .u8 0,.int .u8 0,.int .u8 0,.int .u8 0,.int .u8 0,.int .u8 0,.int .u8 0,.int .u8 0,.int .u8 0,.int .u8 0,.int .u8 0,.int .u8 0,.int .u8 0,.int .u8 0,.int .u8 0,.int .u8 0,.int .u8 0,.int .u8 0,.int .u8 0,.int .u8 0,.int .u8 0,.int .u8 0,.int .u8 0,.int .u8 0,.int .u8 0,.int .u8 0]:Array Value)).size=32 from rfl)
 replace hXe:=Hy hXe
 replace HI:=Hy HI
 replace HF:=Hy HF
 replace hk:=Hy hk
 replace hX:=Hy hX
 replace hW:=Hy hW
 replace hH:=Hy hH
 have c66:=Hy (Bu hh).2.2.1
 obtain⟨bb,hbb⟩:=Nm (h.bits)
 rw[← hbb] at c66
 have HW:=Qk bb (by rw[hbb];exact hh.2.2.2.2.1)
 obtain⟨Wk,hWk⟩:=Nm (fE bb)
 rw[← hWk] at HW
 have hWl:Wk<115792089237316195423570985008687907853269984665640564039457584007913129639936:=by rw[hWk];exact wR bb
 obtain⟨nd0,hnd0⟩:∃ n:Nd,n=⟨X,h,-1,0,Wk⟩:=⟨_,rfl⟩
 have nok0:uT nd0:=by rw[hnd0];exact⟨hX.out,hh,hWl⟩
 have hbt:=Ey X h Wk hX.out hh
 rw[← hnd0] at hbt
 have l106:=Hy (dN nok0)
 have one106:=Hy (List.all_eq_true.2 (kA nd0))
 replace hbt:=Hy hbt
 replace HW:=Hy HW
 replace hbb:=Hy hbb
 replace hWk:=Hy hWk
 replace hnd0:=Hy hnd0
 refine Xm134 ?_;intro nid l106n one106n hnn nok
 refine Xm0 ?_;try clear bW aH;intro _ w1 w2 z2 g6 hg6 w3 _ _ w5 _ _ g9 a9 b05 aX5 aH5 T5 hg9 hg69 hH9 HL
 rw[hn1] at HL
 go_upto_region 13 with (go_at_call 59;refine(HL.out).mono ?_;rintro e w6 ⟨rfl,rfl⟩)
 rw[← hnn.out] at a9
 obtain⟨wq,hwq⟩:=Nm (w5)
 rw[← hwq] at a9 aX5 T5 b05 ⊢
 have Tq:=T5
 have aN:=a9
 have aXq:=aX5
 have bq:=b05
 clear T5 a9 aX5 b05 aH5 HL hwq
 exact Xc43
theorem Xc5 {p:Prop} (h:p:=by
 have hsml:N≤most:=by rw[hN];exact Tq.small
 have hfull:¬ most≤N:=by rw[hN];exact hfull
 have tF:decide ((most:Int)≤(N:Int))=false:=by simp;omega
 have tF2:decide (most≤N)=false:=by simp;omega
 have okq:nH (ns++ [nd]):=Tq.ok.snoc hh hnew.out (by rw[← hXe.out];exact hk.out)
 have tfn:bZ ns nd.id=none:=by rw[nid.out];exact hk.out
 replace okq:=Hy okq
 replace tfn:=Hy tfn
 replace hv:=Hy hv
 replace hN:=Hy hN
 clear Tq Rv Tq0
 refine ZR ?_
 repeat refine ZP (fun w hw=>by have:=(avq.b hw.drew).cell 1 _ rfl;have:=(avq.b hw.drew).cell 0 _ rfl;have:=tF;have:=tF2;exact zG) ?_
 refine bO fun w9 hw9=>aF ?_
 have e9:=hw9.drew
 have bq:=bq.trans (e9.mono bq.size)
 have avq:=avq.b e9
 have oq:=aJ oq e9
 have mq:=mq.b e9
 have aN:=aN.b e9
 have aXq:=aXq.b e9
 clear hw9 e9
 have c1:=avq.cell 1 _ rfl
 go_upto_region 16 with fail
 clear c1
 refine qN 7 7 [(6,fun v w'=>∃ g,v= .slice (some ⟨g,0,none⟩) 1 1∧w9.heap.size≤g∧Av w' g 154 (gF nd))] cI KR (by simp only[fM,List.push_toArray,List.cons_append,List.nil_append];rfl) rfl DC KR KR (fun _ _ _ h=>h) KR KR KR KR cI.refl cI.trans (by
   intro p hp v w w' hR
   simp only[List.mem_singleton] at hp
   subst hp
   rintro⟨g,e,h1,h2⟩
   exact⟨g,e,h1,h2.b hR⟩) ?_
 repeat first|refine ZP (fun w hw=>by have:=(avq.b hw.drew).cell 1 _ rfl;exact zG) ?_|refine ZP (c:=.agg (gF nd).toArray) (fun w hw=>aE (aN.b hw.drew) _ _ rfl rfl _ 106 l106n.out Tr rfl KR) ?_
 refine cO _ rfl (fun w hw=>aM rfl (bI rfl ?_)) ?_
 ·rw[lD underlying147 Ju Jv DC DC _ (gF nd) l106n.out _ rfl rfl]
  exact⟨(Below.refl _ _).alloc LR _,_,rfl,hw.drew.size,heap_alloc_new _ _⟩
 refine bO fun w6 hw6=>aC rfl rfl fun v hv=>aF ?_
 obtain⟨q,rfl,hq,aq⟩:=hv
 simp only[List.set_cons_succ,List.set_cons_zero,List.drop_succ_cons,List.drop_zero]
 have e6:=hw6.drew
 have bq:=bq.trans (e6.mono bq.size)
 have av6:=avq.b e6
 have o6:=aJ oq e6
 have m6:=mq.b e6
 have aX6:=aXq.b e6
 have hbs:base≤w6.heap.size:=Nat.le_trans hbase bq.size
 have hb6:=bq.mono hbase
 have K6:=gU.ofBelow bq
 have hle:(N+1)*160≤140737488355328:=by omega
 clear hw6 e6 aXq avq oq mq aN hq bq
 go_upto_region 17 with (at_builtin;refine bT underlying147 Ju Jv DC o6 hbs (gF nd) 1 1 aq.rd (by rw[l106n.out]) one106n.out OM hle rfl (.tmp 87) (.tmp 89) rfl rfl rfl ?_;intro M2 w7 o7 gr7 ob7;obtain⟨A2,c2,rfl,hcq,_⟩:=cM o7;have hbl:=fun k hk=>(World.ownsRow.lt o6 k hk).1;have b7:=hb6.grown gr7 hbs hbl;have fr7:=Fr.of_grown gr7;have ne6:=vZ o6 av6 DC;have K7:=K6.trans (gU.grown o6 gr7);have av7:=fr7.av av6 (fun e=>ne6 e.symm);have m7:=m6.block (fun b e=>gr7.block b (by cases e;exact m6.lt) (by cases e;exact fun e=>FY o6 m6 e.symm));have aX7:=fr7.av aX6 (fun e=>vZ o6 aX6 DC e.symm);have f7:=frozen_of_row _ _ 1 _ _ av7;have c7:=av7.cell 1 _ rfl)
 have av8:=av7.set 1 (.slice A2 (N+1) c2)
 have K8:=K7.trans (gU.setR (i:=1) av7 (.slice A2 (N+1) c2))
 have fr8:=Fr.setCell w7 ⟨R,1,none⟩ (.slice A2 (N+1) c2)
 have o8:=bU o7 fr8 (fun j e h=>vZ o7 av7 DC (by rw[e,h]))
 have m8:=m7.block (w':=w7.setCell ⟨R,1,none⟩ (.slice A2 (N+1) c2)) (fun b e=>heap_setCell_other _ _ _ _ (by cases e;exact fun e=>hMR e.symm))
 have hgR:g6≠R:=by rintro rfl;have:=aX7.symm.trans av7;injection Option.some.inj this with _ h2;revert h2;decide
 have aX8:=fr8.av aX7 hgR
 have b8:Below base w (w7.setCell ⟨R,1,none⟩ (.slice A2 (N+1) c2)):=b7.setCell (p:=⟨R,1,none⟩) hRb _
 obtain⟨w8,hw8⟩:=Nm (w7.setCell ⟨R,1,none⟩ (.slice A2 (N+1) c2))
 rw[← hw8] at av8 o8 m8 aX8 b8 K8 ⊢
 clear K6 K7 f7 c7 fr8 fr7 av7 m7 aX7 gr7 ob7 o7 o6 m6 av6 aX6 b7 hb6 hle aq hw8 hbl ne6
 refine bL 6 [] cI KR KR KR KR KR cI.refl cI.trans zI ?_
 repeat first|refine ZP (fun w hw=>by have:=(av8.b hw.drew).cell 2 _ rfl;exact zG) ?_|refine ZP (c:=.agg (cK X)) (fun w hw=>aE (l:=X.map bv) (aX8.b hw.drew) _ _ rfl rfl _ 32 l32.out SS rfl KR) ?_
 refine bO fun wa hwa=>aF ?_
 simp only[List.drop_succ_cons,List.drop_zero]
 have ea:=hwa.drew
 have ava:=av8.b ea
 have oa:=aJ o8 ea
 have ma:=m8.b ea
 have Ka:=K8.trans (gU.ofBelow ea)
 have ba:Below base w wa:=b8.trans (ea.mono (Nat.le_trans hbase b8.size))
 clear av8 o8 m8 b8 ea hwa aX8 K8
 refine CL ma (by rw[← hN.out];omega) nd nok.id tfn.out rfl (by rw[nid.out];rfl) (by rw[← hN.out];rfl) ?_
 intro wb mb grb
 have frb:=Fr.of_grown grb
 have avb:=frb.av ava (fun e=>hMR (Option.some.inj e))
 have ob:=bU oa frb (fun k hk e=>FY oa ma (by rw[hk,e]))
 have bb:=ba.grown grb (Nat.le_trans hbase ba.size) (fun k hk=>by cases hk;exact hMb)
 have hfin:sS wb base R most (.slice A2 (N+1) c2) Mp (ns++ [nd]):=by
  refine⟨avb,?_,mb,?_,hlim,hRb,hMb,okq.out⟩
  ·rw[List.length_append,List.length_singleton,← hN.out]
   have:qF (ns++ [nd])=qF ns++gF nd:=by simp[qF]
   rw[this]
   exact ob
  ·rw[List.length_append,List.length_singleton,← hN.out];omega
 have Kb:=Hy (Ka.trans (gU.map ma grb))
 replace hfin:=Hy hfin
 replace bb:=Hy bb
 clear avb ob mb frb ava oa ma ba grb Ka
 go_wp2
 go_ret2
 exact⟨by rw[← hN.out];rfl,⟨_,hfin.out⟩,bb.out,Kb.out⟩):p:=h
theorem Ha (base R most:Nat) (v:Value) (Mp:Nat) (ns:List Nd) (h:Hd) (hh:h.ok) (w:World) (ht:fW w) (T:sS w base R most v Mp ns) (hbase:base≤w.heap.size) (hk:bZ ns (dS h)=none) (hn0:ns= []) (hfull:¬ most≤ns.length):
  Calls prog 29 #[.pointer (some ⟨R,0,none⟩),.agg (fC h).toArray] w fun e w'=>e= .returned (.tuple #[.int .i64 (ns.length:Int),.int .i64 0])∧(∃ v',sS w' base R most v' Mp (ns++ [⟨dS h,h,-1,0,fE h.bits⟩]))∧Below base w w'∧gU w w':=by
 have hnew0:gS ns h=some ⟨dS h,h,-1,0,fE h.bits⟩:=by rw[gS,if_pos (by rw[hn0];rfl)]
 have hRb:=T.hR
 have hMb:=T.hM
 have hn1:ns.length=0:=by rw[hn0];rfl
 obtain⟨nd,hnd⟩:∃ nd:Nd,nd=⟨dS h,h,-1,0,fE h.bits⟩:=⟨_,rfl⟩
 rw[← hnd] at hnew0 ⊢
 have hnew:=Hy hnew0
 clear hnew0 hn0
 replace hnd:=Hy hnd
 obtain⟨W,hW⟩:=Nm (w.alloc (.cells (fC h).toArray 37))
 obtain⟨H,hH⟩:=Nm (w.heap.size)
 have bW:Below w.heap.size w W:=by rw[hW];exact(Below.refl _ _).alloc LR _
 have aH:Av W H 37 (fC h):=by rw[hW,hH];exact heap_alloc_new _ _
 have h68:=Hy (cJ hh)
 have HI:=OJ h hh W (ht.b bW)
 have hX:=fZ h
 obtain⟨X,hXe⟩:=Nm (dS h)
 rw[← hXe] at HI hX hk
 have l32:Hid ((X.map bv).length=32):=Hy (by rw[List.length_map];exact hX)
 have one32:=Hy (List.all_eq_true.2 (dB X))
 have HF:=fun w' (q:mB w' (.pointer (some ⟨R,0,none⟩)) ns)=>Ae _ ns X hX w' q
 rw[hk] at HF
 have z32:=Hy (show ((#[.int .u8 0,.int .u8 0,.int .u8 0,.int .u8 0,.int .u8 0,.int .u8 0,.int .u8 0,.int .u8 0,.int .u8 0,.int .u8 0,.int .u8 0,.int .u8 0,.int .u8 0,.int .u8 0,.int .u8 0,.int .u8 0,.int .u8 0,.int .u8 0,.int .u8 0,.int .u8 0,.int .u8 0,.int .u8 0,.int .u8 0,.int .u8 0,.int .u8 0,.int .u8 0,.int .u8 0,.int .u8 0,.int .u8 0,.int .u8 0,.int .u8 0,.int .u8 0]:Array Value)).size=32 from rfl)
 replace hXe:=Hy hXe
 replace HI:=Hy HI
 replace HF:=Hy HF
 replace hk:=Hy hk
 replace hX:=Hy hX
 replace hW:=Hy hW
 replace hH:=Hy hH
 have c66:=Hy (Bu hh).2.2.1
 obtain⟨bb,hbb⟩:=Nm (h.bits)
 rw[← hbb] at c66
 have HW:=Qk bb (by rw[hbb];exact hh.2.2.2.2.1)
 obtain⟨Wk,hWk⟩:=Nm (fE bb)
 rw[← hWk] at HW
 have hWl:Wk<115792089237316195423570985008687907853269984665640564039457584007913129639936:=by rw[hWk];exact wR bb
 obtain⟨nd0,hnd0⟩:∃ n:Nd,n=⟨X,h,-1,0,Wk⟩:=⟨_,rfl⟩
 have nok0:uT nd0:=by rw[hnd0];exact⟨hX.out,hh,hWl⟩
 have hbt:=Ey X h Wk hX.out hh
 rw[← hnd0] at hbt
 have l106:=Hy (dN nok0)
 have one106:=Hy (List.all_eq_true.2 (kA nd0))
 replace hbt:=Hy hbt
 replace HW:=Hy HW
 replace hbb:=Hy hbb
 replace hWk:=Hy hWk
 replace hnd0:=Hy hnd0
 refine Xm134 ?_;intro nid l106n one106n hnn nok
 refine Xm0 ?_;try clear bW aH;intro _ w1 w2 z2 g6 hg6 w3 _ _ w5 _ _ g9 a9 b05 aX5 aH5 T5 hg9 hg69 hH9 HL
 rw[hn1] at HL
 go_upto_region 13 with (go_at_call 59;refine(HL.out).mono ?_;rintro e w6 ⟨rfl,rfl⟩)
 rw[← hnn.out] at a9
 obtain⟨wq,hwq⟩:=Nm (w5)
 rw[← hwq] at a9 aX5 T5 b05 ⊢
 have Tq:=T5
 have aN:=a9
 have aXq:=aX5
 have bq:=b05
 clear T5 a9 aX5 b05 aH5 HL hwq
 obtain⟨A,c,hv,Rv⟩:=Tq.rv
 obtain⟨N,hN⟩:=Nm (ns.length)
 have Tq0:=Tq
 rw[hv] at Tq
 have avq:=Tq.av
 have oq:=Tq.own
 rw[← hN] at oq avq
 have mq:=Tq.map
 have hMR:=wW avq mq
 have hlim:most≤1048576:=Tq.lim
 exact Xc5
theorem CM (base R most:Nat) (v:Value) (Mp:Nat) (ns:List Nd) (h:Hd) (hh:h.ok) (w:World) (ht:fW w) (T:sS w base R most v Mp ns) (hbase:base≤w.heap.size) (hk:bZ ns (dS h)=none) (hn0:0<ns.length) (hp:bZ ns h.prev=none):
  Calls prog 29 #[.pointer (some ⟨R,0,none⟩),.agg (fC h).toArray] w fun e w'=>e= .returned (.tuple #[.int .i64 (-1),.int .i64 9])∧(∃ v',sS w' base R most v' Mp (ns))∧Below base w w'∧gU w w':=by
 obtain⟨W,hW⟩:=Nm (w.alloc (.cells (fC h).toArray 37))
 obtain⟨H,hH⟩:=Nm (w.heap.size)
 have bW:Below w.heap.size w W:=by rw[hW];exact(Below.refl _ _).alloc LR _
 have aH:Av W H 37 (fC h):=by rw[hW,hH];exact heap_alloc_new _ _
 have h68:=Hy (cJ hh)
 have HI:=OJ h hh W (ht.b bW)
 have hX:=fZ h
 obtain⟨X,hXe⟩:=Nm (dS h)
 rw[← hXe] at HI hX hk
 have l32:Hid ((X.map bv).length=32):=Hy (by rw[List.length_map];exact hX)
 have one32:=Hy (List.all_eq_true.2 (dB X))
 have HF:=fun w' (q:mB w' (.pointer (some ⟨R,0,none⟩)) ns)=>Ae _ ns X hX w' q
 rw[hk] at HF
 have z32:=Hy (show ((#[.int .u8 0,.int .u8 0,.int .u8 0,.int .u8 0,.int .u8 0,.int .u8 0,.int .u8 0,.int .u8 0,.int .u8 0,.int .u8 0,.int .u8 0,.int .u8 0,.int .u8 0,.int .u8 0,.int .u8 0,.int .u8 0,.int .u8 0,.int .u8 0,.int .u8 0,.int .u8 0,.int .u8 0,.int .u8 0,.int .u8 0,.int .u8 0,.int .u8 0,.int .u8 0,.int .u8 0,.int .u8 0,.int .u8 0,.int .u8 0,.int .u8 0,.int .u8 0]:Array Value)).size=32 from rfl)
 replace hXe:=Hy hXe
 replace HI:=Hy HI
 replace HF:=Hy HF
 replace hk:=Hy hk
 replace hX:=Hy hX
 replace hW:=Hy hW
 replace hH:=Hy hH
 have c66:=Hy (Bu hh).2.2.1
 obtain⟨bb,hbb⟩:=Nm (h.bits)
 rw[← hbb] at c66
 have HW:=Qk bb (by rw[hbb];exact hh.2.2.2.2.1)
 obtain⟨Wk,hWk⟩:=Nm (fE bb)
 rw[← hWk] at HW
 have hWl:Wk<115792089237316195423570985008687907853269984665640564039457584007913129639936:=by rw[hWk];exact wR bb
 obtain⟨nd0,hnd0⟩:∃ n:Nd,n=⟨X,h,-1,0,Wk⟩:=⟨_,rfl⟩
 have nok0:uT nd0:=by rw[hnd0];exact⟨hX.out,hh,hWl⟩
 have hbt:=Ey X h Wk hX.out hh
 rw[← hnd0] at hbt
 have l106:=Hy (dN nok0)
 have one106:=Hy (List.all_eq_true.2 (kA nd0))
 replace hbt:=Hy hbt
 replace HW:=Hy HW
 replace hbb:=Hy hbb
 replace hWk:=Hy hWk
 replace hnd0:=Hy hnd0
 refine Xm0 ?_;try clear bW aH;intro _ w1 w2 z2 g6 hg6 w3 _ _ w5 _ _ g9 a9 b05 aX5 aH5 T5 hg9 hg69 hH9 HL
 have hl0:decide ((0:Int)<(ns.length:Int))=true:=by simp;omega
 have hl0':decide (0<ns.length)=true:=by simp;omega
 have HP:=Ae (.pointer (some ⟨R,0,none⟩)) ns h.prev hh.2.1 w5 T5.ref
 rw[hp] at HP
 replace HP:=Hy HP
 have p32:Hid ((h.prev.map bv).length=32):=Hy (by rw[List.length_map];exact hh.2.1)
 have rgP:=Hy (Av.hd_prev aH5)
 go_upto_region 7 with (go_at_call 59;refine(HL.out).mono ?_;rintro e w6 ⟨rfl,rfl⟩)
 go_wp2_with (first
  |((with_reducible refine LM rgP.out SS ?_ ?_ (hi:=by rw[p32.out];kernel_rfl));rfl)
  |(go_at_call 45;refine(HP.out).mono ?_;rintro e w7 ⟨rfl,b7⟩))
 go_ret2
 exact⟨rfl,⟨v,T5.b b7⟩,(b05.trans (b7.mono b05.size)).mono hbase,gU.ofBelow (b05.trans (b7.mono b05.size))⟩
theorem Xm114 {p q:Prop} (k:q) (h:Hid q→p:=by
 intro hk
 have hnew0:gS ns h=some ⟨dS h,h,(j:Int),x.hgt+1,(x.wrk+fE h.bits) % 115792089237316195423570985008687907853269984665640564039457584007913129639936⟩:=by rw[gS,if_neg OM,hp];simp only[hx]
 have hRb:=T.hR
 have hMb:=T.hM
 obtain⟨nd,hnd⟩:∃ nd:Nd,nd=⟨dS h,h,(j:Int),x.hgt+1,(x.wrk+fE h.bits) % 115792089237316195423570985008687907853269984665640564039457584007913129639936⟩:=⟨_,rfl⟩
 revert hnew0 hRb hMb nd hnd;exact hk.out):p:=h (Hy k)
theorem Xm54 {p q:Prop} (k:q) (h:Hid q→p:=by
 intro hk
 have hnew:=Hy hnew0
 skip
 replace hnd:=Hy hnd
 have hjl:j<ns.length:=oP hp
 have hvl:∀ k,v.ownBlock=some k→k<w.heap.size:=fun k hk=>(World.ownsRow.lt T.own k hk).2
 have xok:=T.ok.nds x (List.mem_of_getElem? hx)
 have x106:=Hy (dN xok)
 have xone:=Hy (List.all_eq_true.2 (kA x))
 obtain⟨_,q101⟩:=sR xok
 obtain⟨G,hG⟩:=Nm (x.hgt)
 rw[← hG] at q101
 have hG0:(G:Int)<1048576:=by
  have:=T.ok.hgt_le hjl
  rw[rJ hx] at this
  have:=T.small
  have:=T.lim
  omega
 have hGn:(0:Int)≤(G:Int):=by omega
 have hGw:Hid (IntKind.i64.wrap ((G:Int)+1)=(G:Int)+1):=Hy (by rw[IntKind.wrap_i64];omega)
 have HS:=fun (y:Nat) (hy:y<115792089237316195423570985008687907853269984665640564039457584007913129639936)=>LX x.wrk y xok.wrk hy
 replace q101:=Hy q101
 replace hG:=Hy hG
 replace HS:=Hy HS
 replace hx:=Hy hx
 rename_i zq0
 revert hnew hnd hjl hvl xok x106 xone zq0 G hG0 hGn hGw q101 hG HS hx;exact hk.out):p:=h (Hy k)
theorem Xm25 {p q:Prop} (k:q) (h:Hid q→p:=by
 intro hk
 obtain⟨nd1,hnd1⟩:∃ n:Nd,n=⟨X,h,(j:Int),G+1,Wk⟩:=⟨_,rfl⟩
 have nok1:uT nd1:=by rw[hnd1];exact⟨hX.out,hh,hWl⟩
 have hlay:((gF nd0).set 100 (.int .i64 (j:Int))).set 101 (.int .i64 ((G:Int)+1))=gF nd1:=by
  rw[Mt nd0 nok0,show ((G:Int)+1)=((G+1:Nat):Int) by omega]
  refine(Mv {nd0 with par:=(j:Int)} ⟨nok0.id,nok0.head,nok0.wrk⟩ (G+1)).trans ?_
  rw[hnd1,hnd0.out]
 obtain⟨Sm,hSm⟩:=Nm ((x.wrk+Wk) % 115792089237316195423570985008687907853269984665640564039457584007913129639936)
 have HS2:=HS.out Wk hWl
 rw[← hSm] at HS2
 obtain⟨ob,hob⟩:=Nm (decide (115792089237316195423570985008687907853269984665640564039457584007913129639936≤x.wrk+Wk))
 rw[← hob] at HS2
 replace hob:=Hy hob
 have hnn:nd= {nd1 with wrk:=Sm}:=by rw[hnd1,hnd.out,hXe.out,hSm,hWk.out,hbb.out,hG.out]
 have nok:uT nd:=by rw[hnn];exact⟨nok1.id,nok1.head,by rw[hSm];exact Nat.mod_lt _ OM⟩
 have nid:Hid (nd.id=X):=Hy (by rw[hnd.out,hXe.out])
 have l106n:Hid ((gF nd).length=106):=Hy (dN nok)
 have one106n:=Hy (kA nd)
 have l1:(nd1.id.map bv++(fC nd1.head++([.int .i64 nd1.par,.int .i64 (nd1.hgt:Int)]:List Value))).length=102:=by simp[nok1.id,cJ nok1.head]
 have hset:(nd1.id.map bv++(fC nd1.head++([.int .i64 nd1.par,.int .i64 (nd1.hgt:Int)]:List Value)))++uc Sm++ []=gF nd:=by rw[hnn,Ak]
 have hw1:nd1.wrk=Wk:=by rw[hnd1]
 have hsp:=Ak nd1
 rw[hw1] at hsp
 replace HS2:=Hy HS2
 replace hlay:=Hy hlay
 replace hSm:=Hy hSm
 replace hnn:=Hy hnn
 replace hnd1:=Hy hnd1
 replace l1:=Hy l1
 replace hset:=Hy hset
 replace hw1:=Hy hw1
 replace hsp:=Hy hsp
 replace hWl:=Hy hWl
 revert nd1 nok1 Sm ob hob nok nid l106n one106n HS2 hlay hSm hnn hnd1 l1 hset hw1 hsp hWl;exact hk.out):p:=h (Hy k)
theorem CN (base R most:Nat) (v:Value) (Mp:Nat) (ns:List Nd) (h:Hd) (hh:h.ok) (w:World) (ht:fW w) (T:sS w base R most v Mp ns) (hbase:base≤w.heap.size) (hk:bZ ns (dS h)=none) (hn0:0<ns.length) (j:Nat) (x:Nd) (hp:bZ ns h.prev=some j) (hx:ns[j]? =some x) (hfull:most≤ns.length):
  Calls prog 29 #[.pointer (some ⟨R,0,none⟩),.agg (fC h).toArray] w fun e w'=>e= .returned (.tuple #[.int .i64 (-1),.int .i64 12])∧(∃ v',sS w' base R most v' Mp (ns))∧Below base w w'∧gU w w':=by
 refine Xm114 ?_;intro hnew0 hRb hMb nd hnd
 rw[← hnd] at hnew0 
 refine Xm54 ?_;try clear hnew0 hnd hx;intro hnew hnd hjl hvl xok x106 xone _ G hG0 hGn hGw q101 hG HS hx
 obtain⟨W,hW⟩:=Nm (w.alloc (.cells (fC h).toArray 37))
 obtain⟨H,hH⟩:=Nm (w.heap.size)
 have bW:Below w.heap.size w W:=by rw[hW];exact(Below.refl _ _).alloc LR _
 have aH:Av W H 37 (fC h):=by rw[hW,hH];exact heap_alloc_new _ _
 have h68:=Hy (cJ hh)
 have HI:=OJ h hh W (ht.b bW)
 have hX:=fZ h
 obtain⟨X,hXe⟩:=Nm (dS h)
 rw[← hXe] at HI hX hk
 have l32:Hid ((X.map bv).length=32):=Hy (by rw[List.length_map];exact hX)
 have one32:=Hy (List.all_eq_true.2 (dB X))
 have HF:=fun w' (q:mB w' (.pointer (some ⟨R,0,none⟩)) ns)=>Ae _ ns X hX w' q
 rw[hk] at HF
 have z32:=Hy (show ((#[.int .u8 0,.int .u8 0,.int .u8 0,.int .u8 0,.int .u8 0,.int .u8 0,.int .u8 0,.int .u8 0,.int .u8 0,.int .u8 0,.int .u8 0,.int .u8 0,.int .u8 0,.int .u8 0,.int .u8 0,.int .u8 0,.int .u8 0,.int .u8 0,.int .u8 0,.int .u8 0,.int .u8 0,.int .u8 0,.int .u8 0,.int .u8 0,.int .u8 0,.int .u8 0,.int .u8 0,.int .u8 0,.int .u8 0,.int .u8 0,.int .u8 0,.int .u8 0]:Array Value)).size=32 from rfl)
 replace hXe:=Hy hXe
 replace HI:=Hy HI
 replace HF:=Hy HF
 replace hk:=Hy hk
 replace hX:=Hy hX
 replace hW:=Hy hW
 replace hH:=Hy hH
 have c66:=Hy (Bu hh).2.2.1
 obtain⟨bb,hbb⟩:=Nm (h.bits)
 rw[← hbb] at c66
 have HW:=Qk bb (by rw[hbb];exact hh.2.2.2.2.1)
 obtain⟨Wk,hWk⟩:=Nm (fE bb)
 rw[← hWk] at HW
 have hWl:Wk<115792089237316195423570985008687907853269984665640564039457584007913129639936:=by rw[hWk];exact wR bb
 obtain⟨nd0,hnd0⟩:∃ n:Nd,n=⟨X,h,-1,0,Wk⟩:=⟨_,rfl⟩
 have nok0:uT nd0:=by rw[hnd0];exact⟨hX.out,hh,hWl⟩
 have hbt:=Ey X h Wk hX.out hh
 rw[← hnd0] at hbt
 have l106:=Hy (dN nok0)
 have one106:=Hy (List.all_eq_true.2 (kA nd0))
 replace hbt:=Hy hbt
 replace HW:=Hy HW
 replace hbb:=Hy hbb
 replace hWk:=Hy hWk
 replace hnd0:=Hy hnd0
 refine Xm25 ?_;try clear hWl;intro nd1 nok1 Sm ob hob nok nid l106n one106n HS2 hlay hSm hnn hnd1 l1 hset hw1 hsp hWl
 refine Xm0 ?_;try clear bW aH;intro _ w1 w2 z2 g6 hg6 w3 _ _ w5 _ _ g9 a9 b05 aX5 aH5 T5 hg9 hg69 hH9 HL
 have hl0:decide ((0:Int)<(ns.length:Int))=true:=by simp;omega
 have hl0':decide (0<ns.length)=true:=by simp;omega
 have HP:=Ae (.pointer (some ⟨R,0,none⟩)) ns h.prev hh.2.1 w5 T5.ref
 rw[hp] at HP
 replace HP:=Hy HP
 have p32:Hid ((h.prev.map bv).length=32):=Hy (by rw[List.length_map];exact hh.2.1)
 have rgP:=Hy (Av.hd_prev aH5)
 go_upto_region 7 with (go_at_call 59;refine(HL.out).mono ?_;rintro e w6 ⟨rfl,rfl⟩)
 go_upto_region 8 with (first
  |((with_reducible refine LM rgP.out SS ?_ ?_ (hi:=by rw[p32.out];kernel_rfl));rfl)
  |(go_at_call 45;refine(HP.out).mono ?_;rintro e w7 ⟨rfl,b7⟩))
 have b07:=b05.trans (b7.mono b05.size)
 have a97:=a9.b b7
 have aX7:=aX5.b b7
 have T7:=T5.b b7
 have h97:g9<w7.heap.size:=Nat.lt_of_lt_of_le a9.lt b7.size
 clear b7 a9 aX5 T5 b05 aH5 rgP HL
 obtain⟨A0,c0,hv0,Rv0⟩:=T7.rv
 have cs1:=Rv0.av.cell 1 _ rfl
 obtain⟨b,off,rfl⟩:=Rv0.adr hn0
 obtain⟨rgx,_⟩:=Rv0.nth j x hx.out
 replace rgx:=Hy rgx
 replace hv0:=Hy hv0
 have j0:(0:Int)≤(j:Int):=by omega
 have j1:(j:Int)<(ns.length:Int):=by omega
 clear Rv0
 go_upto_region 10 with fail
 go_upto_region 11 with (first
  |((with_reducible refine LM rgx.out Tr ?_ ?_ (hi:=by rw[x106.out];kernel_rfl));rfl)
  |((with_reducible refine SN (gF x) 106 ?_ ?_ ?_ (hn:=x106.out) (h1:=xone.out));rfl;rfl;intro w8 a8 b8 k8 z8;clear k8;replace z8:=Hy z8))
 clear cs1 rgx
 have b08:=b07.trans (b8.mono b07.size)
 have a98:=a97.b b8
 have aX8:=aX7.b b8
 have T8:=T7.b b8
 obtain⟨g12,hg12⟩:=Nm (w7.heap.size)
 rw[← hg12] at a8 h97 ⊢
 have a12:=a8
 have hg129:g12≠g9:=by omega
 have hg96:g9≠g6:=by omega
 have hg9M:=wW a98 T8.map
 have hg9R:g9≠R:=by rintro rfl;have:=a98.symm.trans T8.av;injection Option.some.inj this with _ h2;revert h2;decide
 replace hg12:=Hy hg12
 clear b8 a97 aX7 T7 b07 a8
 refine dG [] [O9 g9 (gF nd0) (j:Int) ((G:Int)+1)] KR KR KR KR KR (by intro e he;simp only[List.mem_cons,List.not_mem_nil,or_false] at he;subst he;exact OK _ _ _ _) zS (by intro e he;simp only[List.mem_cons,List.not_mem_nil,or_false] at he;subst he;exact a98) ?_
 repeat refine dK rfl rfl rfl rfl (fun w hw=>by have:=(Fo.av hw a12 (by intro e he;simp only[List.mem_cons,List.not_mem_nil,or_false] at he;subst he;exact Ne.symm hg129)).cell 101 _ q101.out;have:=hGw.out;exact zG) zZ ?_
 refine OC rfl rfl rfl rfl (fun w hw=>aF fun f hf h0=>?_) ?_
 ·exact Qn h0 (by rw[Jw,l106.out];decide) _ .i64 _ _ _ rfl rfl rfl Aj (Rz g9 (gF nd0) (j:Int) ((G:Int)+1) f hf)
 repeat refine dK rfl rfl rfl rfl vR zZ ?_
 refine OC rfl rfl rfl rfl (fun w hw=>aF fun f hf h0=>?_) ?_
 ·exact Qn h0 (by rw[Jw,l106.out];decide) _ .i64 _ _ _ rfl rfl rfl Aj (RA g9 (gF nd0) (j:Int) ((G:Int)+1) f hf)
 refine wM fun w9 hw9=>aF fun _ hO=>?_
 have a99:Av w9 g9 154 (((gF nd0).set 100 (.int .i64 (j:Int))).set 101 (.int .i64 ((G:Int)+1))):=hO (O9 g9 (gF nd0) (j:Int) ((G:Int)+1)) (List.mem_cons_self ..)
 rw[hlay.out] at a99
 have hOs:∀ t,t≠g9→ ∀ e ∈ [O9 g9 (gF nd0) (j:Int) ((G:Int)+1)],e.b≠t:=fun t ht e he=>by
  simp only[List.mem_cons,List.not_mem_nil,or_false] at he
  subst he
  exact Ne.symm ht
 have a129:=Fo.av hw9 a12 (hOs _ hg129)
 have aX9:=Fo.av hw9 aX8 (hOs _ (Ne.symm hg96))
 have bl9:Below w.heap.size w8 w9:=hw9.low b08.size (by intro e he;simp only[List.mem_cons,List.not_mem_nil,or_false] at he;subst he;exact hg9)
 have b09:=b08.trans bl9
 have fr9:Fr (fun k=>k=g9) w8 w9:=(Fr.ofDrew hw9).weaken (fun k _ ⟨e,he,hb⟩=>by simp only[List.mem_cons,List.not_mem_nil,or_false] at he;subst he;exact hb.symm)
 have T9:sS w9 base R most v Mp ns:=T8.fr fr9 hg9R (fun e=>by have:=hvl g9 e;omega) hg9M
 clear hw9 hO hOs a98 aX8 b08 T8 a12 bl9 fr9
 have rw12:=Hy (vY xok a129.range0)
 have rw9:w9.rangeAt g9 102 (uc Wk):=by
  have:=vY nok1 a99.range0
  rw[hw1.out] at this
  simpa using this
 replace rw9:=Hy rw9
 rw[Nat.zero_add] at rw12
 clear hG0 hGn j0 j1 hl0 hl0'
 go_upto_region 13 with (first
  |((with_reducible refine LM rw12.out SU ?_ ?_);rfl)
  |((with_reducible refine LM rw9.out SU ?_ ?_);rfl)
  |(go_at_call 60;refine(HS2.out w9).mono ?_;rintro e w10 ⟨rfl,b10⟩;have a9A:=a99.b b10;rw[hsp.out] at a9A;have hth:=Hy (a9A.there 102 4 (by rw[List.length_append,List.length_append,l1.out];exact Nat.le_refl _)))
  |((with_reducible refine xA 151 (uc Sm) hth.out ?_ ?_ ?_ ?_ ?_);rfl;rfl;kernel_rfl;rfl))
 have a9q:=Av.setCells (uc Sm) _ (uc Wk) [] 102 w10 a9A l1.out rfl
 rw[hset.out] at a9q
 have b010:=b09.trans (b10.mono b09.size)
 have T10:=T9.b b10
 have aX10:=aX9.b b10
 have bq0:Below w.heap.size w (w10.setCells g9 102 (uc Sm)):=eD (uc Sm) w10 g9 102 b010 hg9
 have frq:Fr (fun k=>k=g9) w10 (w10.setCells g9 102 (uc Sm)):=by
  have q:=eD (B:=0) (uc Sm) w10 g9 102 (Below.refl 0 w10) (Nat.zero_le _)
  exact⟨q.os,q.tape,q.output,q.size,fun k _ hk=>jF (uc Sm) w10 g9 102 k hk⟩
 have Tq0:=T10.fr frq hg9R (fun e=>by have:=hvl g9 e;omega) hg9M
 have aXq0:=frq.av aX10 (fun e=>hg96 e.symm)
 obtain⟨wq,hwq⟩:=Nm (w10.setCells g9 102 (uc Sm))
 rw[← hwq] at a9q bq0 Tq0 aXq0 ⊢
 have Tq:=Tq0
 have aN:=a9q
 have aXq:=aXq0
 have bq:=bq0
 clear a9q bq0 Tq0 aXq0 hwq frq aX10 T10 b010 a9A hth b10 rw12 rw9 a129 aX9 a99 T9 b09 hg9M
 exact Xc43
theorem EB (base R most:Nat) (v:Value) (Mp:Nat) (ns:List Nd) (h:Hd) (hh:h.ok) (w:World) (ht:fW w) (T:sS w base R most v Mp ns) (hbase:base≤w.heap.size) (hk:bZ ns (dS h)=none) (hn0:0<ns.length) (j:Nat) (x:Nd) (hp:bZ ns h.prev=some j) (hx:ns[j]? =some x) (hfull:¬ most≤ns.length):
  Calls prog 29 #[.pointer (some ⟨R,0,none⟩),.agg (fC h).toArray] w fun e w'=>e= .returned (.tuple #[.int .i64 (ns.length:Int),.int .i64 0])∧(∃ v',sS w' base R most v' Mp (ns++ [⟨dS h,h,(j:Int),x.hgt+1,(x.wrk+fE h.bits) % 115792089237316195423570985008687907853269984665640564039457584007913129639936⟩]))∧Below base w w'∧gU w w':=by
 refine Xm114 ?_;intro hnew0 hRb hMb nd hnd
 rw[← hnd] at hnew0 ⊢
 refine Xm54 ?_;try clear hnew0 hnd hx;intro hnew hnd hjl hvl xok x106 xone _ G hG0 hGn hGw q101 hG HS hx
 obtain⟨W,hW⟩:=Nm (w.alloc (.cells (fC h).toArray 37))
 obtain⟨H,hH⟩:=Nm (w.heap.size)
 have bW:Below w.heap.size w W:=by rw[hW];exact(Below.refl _ _).alloc LR _
 have aH:Av W H 37 (fC h):=by rw[hW,hH];exact heap_alloc_new _ _
 have h68:=Hy (cJ hh)
 have HI:=OJ h hh W (ht.b bW)
 have hX:=fZ h
 obtain⟨X,hXe⟩:=Nm (dS h)
 rw[← hXe] at HI hX hk
 have l32:Hid ((X.map bv).length=32):=Hy (by rw[List.length_map];exact hX)
 have one32:=Hy (List.all_eq_true.2 (dB X))
 have HF:=fun w' (q:mB w' (.pointer (some ⟨R,0,none⟩)) ns)=>Ae _ ns X hX w' q
 rw[hk] at HF
 have z32:=Hy (show ((#[.int .u8 0,.int .u8 0,.int .u8 0,.int .u8 0,.int .u8 0,.int .u8 0,.int .u8 0,.int .u8 0,.int .u8 0,.int .u8 0,.int .u8 0,.int .u8 0,.int .u8 0,.int .u8 0,.int .u8 0,.int .u8 0,.int .u8 0,.int .u8 0,.int .u8 0,.int .u8 0,.int .u8 0,.int .u8 0,.int .u8 0,.int .u8 0,.int .u8 0,.int .u8 0,.int .u8 0,.int .u8 0,.int .u8 0,.int .u8 0,.int .u8 0,.int .u8 0]:Array Value)).size=32 from rfl)
 replace hXe:=Hy hXe
 replace HI:=Hy HI
 replace HF:=Hy HF
 replace hk:=Hy hk
 replace hX:=Hy hX
 replace hW:=Hy hW
 replace hH:=Hy hH
 have c66:=Hy (Bu hh).2.2.1
 obtain⟨bb,hbb⟩:=Nm (h.bits)
 rw[← hbb] at c66
 have HW:=Qk bb (by rw[hbb];exact hh.2.2.2.2.1)
 obtain⟨Wk,hWk⟩:=Nm (fE bb)
 rw[← hWk] at HW
 have hWl:Wk<115792089237316195423570985008687907853269984665640564039457584007913129639936:=by rw[hWk];exact wR bb
 obtain⟨nd0,hnd0⟩:∃ n:Nd,n=⟨X,h,-1,0,Wk⟩:=⟨_,rfl⟩
 have nok0:uT nd0:=by rw[hnd0];exact⟨hX.out,hh,hWl⟩
 have hbt:=Ey X h Wk hX.out hh
 rw[← hnd0] at hbt
 have l106:=Hy (dN nok0)
 have one106:=Hy (List.all_eq_true.2 (kA nd0))
 replace hbt:=Hy hbt
 replace HW:=Hy HW
 replace hbb:=Hy hbb
 replace hWk:=Hy hWk
 replace hnd0:=Hy hnd0
 refine Xm25 ?_;try clear hWl;intro nd1 nok1 Sm ob hob nok nid l106n one106n HS2 hlay hSm hnn hnd1 l1 hset hw1 hsp hWl
 refine Xm0 ?_;try clear bW aH;intro _ w1 w2 z2 g6 hg6 w3 _ _ w5 _ _ g9 a9 b05 aX5 aH5 T5 hg9 hg69 hH9 HL
 have hl0:decide ((0:Int)<(ns.length:Int))=true:=by simp;omega
 have hl0':decide (0<ns.length)=true:=by simp;omega
 have HP:=Ae (.pointer (some ⟨R,0,none⟩)) ns h.prev hh.2.1 w5 T5.ref
 rw[hp] at HP
 replace HP:=Hy HP
 have p32:Hid ((h.prev.map bv).length=32):=Hy (by rw[List.length_map];exact hh.2.1)
 have rgP:=Hy (Av.hd_prev aH5)
 go_upto_region 7 with (go_at_call 59;refine(HL.out).mono ?_;rintro e w6 ⟨rfl,rfl⟩)
 go_upto_region 8 with (first
  |((with_reducible refine LM rgP.out SS ?_ ?_ (hi:=by rw[p32.out];kernel_rfl));rfl)
  |(go_at_call 45;refine(HP.out).mono ?_;rintro e w7 ⟨rfl,b7⟩))
 have b07:=b05.trans (b7.mono b05.size)
 have a97:=a9.b b7
 have aX7:=aX5.b b7
 have T7:=T5.b b7
 have h97:g9<w7.heap.size:=Nat.lt_of_lt_of_le a9.lt b7.size
 clear b7 a9 aX5 T5 b05 aH5 rgP HL
 obtain⟨A0,c0,hv0,Rv0⟩:=T7.rv
 have cs1:=Rv0.av.cell 1 _ rfl
 obtain⟨b,off,rfl⟩:=Rv0.adr hn0
 obtain⟨rgx,_⟩:=Rv0.nth j x hx.out
 replace rgx:=Hy rgx
 replace hv0:=Hy hv0
 have j0:(0:Int)≤(j:Int):=by omega
 have j1:(j:Int)<(ns.length:Int):=by omega
 clear Rv0
 go_upto_region 10 with fail
 go_upto_region 11 with (first
  |((with_reducible refine LM rgx.out Tr ?_ ?_ (hi:=by rw[x106.out];kernel_rfl));rfl)
  |((with_reducible refine SN (gF x) 106 ?_ ?_ ?_ (hn:=x106.out) (h1:=xone.out));rfl;rfl;intro w8 a8 b8 k8 z8;clear k8;replace z8:=Hy z8))
 clear cs1 rgx
 have b08:=b07.trans (b8.mono b07.size)
 have a98:=a97.b b8
 have aX8:=aX7.b b8
 have T8:=T7.b b8
 obtain⟨g12,hg12⟩:=Nm (w7.heap.size)
 rw[← hg12] at a8 h97 ⊢
 have a12:=a8
 have hg129:g12≠g9:=by omega
 have hg96:g9≠g6:=by omega
 have hg9M:=wW a98 T8.map
 have hg9R:g9≠R:=by rintro rfl;have:=a98.symm.trans T8.av;injection Option.some.inj this with _ h2;revert h2;decide
 replace hg12:=Hy hg12
 clear b8 a97 aX7 T7 b07 a8
 refine dG [] [O9 g9 (gF nd0) (j:Int) ((G:Int)+1)] KR KR KR KR KR (by intro e he;simp only[List.mem_cons,List.not_mem_nil,or_false] at he;subst he;exact OK _ _ _ _) zS (by intro e he;simp only[List.mem_cons,List.not_mem_nil,or_false] at he;subst he;exact a98) ?_
 repeat refine dK rfl rfl rfl rfl (fun w hw=>by have:=(Fo.av hw a12 (by intro e he;simp only[List.mem_cons,List.not_mem_nil,or_false] at he;subst he;exact Ne.symm hg129)).cell 101 _ q101.out;have:=hGw.out;exact zG) zZ ?_
 refine OC rfl rfl rfl rfl (fun w hw=>aF fun f hf h0=>?_) ?_
 ·exact Qn h0 (by rw[Jw,l106.out];decide) _ .i64 _ _ _ rfl rfl rfl Aj (Rz g9 (gF nd0) (j:Int) ((G:Int)+1) f hf)
 repeat refine dK rfl rfl rfl rfl vR zZ ?_
 refine OC rfl rfl rfl rfl (fun w hw=>aF fun f hf h0=>?_) ?_
 ·exact Qn h0 (by rw[Jw,l106.out];decide) _ .i64 _ _ _ rfl rfl rfl Aj (RA g9 (gF nd0) (j:Int) ((G:Int)+1) f hf)
 refine wM fun w9 hw9=>aF fun _ hO=>?_
 have a99:Av w9 g9 154 (((gF nd0).set 100 (.int .i64 (j:Int))).set 101 (.int .i64 ((G:Int)+1))):=hO (O9 g9 (gF nd0) (j:Int) ((G:Int)+1)) (List.mem_cons_self ..)
 rw[hlay.out] at a99
 have hOs:∀ t,t≠g9→ ∀ e ∈ [O9 g9 (gF nd0) (j:Int) ((G:Int)+1)],e.b≠t:=fun t ht e he=>by
  simp only[List.mem_cons,List.not_mem_nil,or_false] at he
  subst he
  exact Ne.symm ht
 have a129:=Fo.av hw9 a12 (hOs _ hg129)
 have aX9:=Fo.av hw9 aX8 (hOs _ (Ne.symm hg96))
 have bl9:Below w.heap.size w8 w9:=hw9.low b08.size (by intro e he;simp only[List.mem_cons,List.not_mem_nil,or_false] at he;subst he;exact hg9)
 have b09:=b08.trans bl9
 have fr9:Fr (fun k=>k=g9) w8 w9:=(Fr.ofDrew hw9).weaken (fun k _ ⟨e,he,hb⟩=>by simp only[List.mem_cons,List.not_mem_nil,or_false] at he;subst he;exact hb.symm)
 have T9:sS w9 base R most v Mp ns:=T8.fr fr9 hg9R (fun e=>by have:=hvl g9 e;omega) hg9M
 clear hw9 hO hOs a98 aX8 b08 T8 a12 bl9 fr9
 have rw12:=Hy (vY xok a129.range0)
 have rw9:w9.rangeAt g9 102 (uc Wk):=by
  have:=vY nok1 a99.range0
  rw[hw1.out] at this
  simpa using this
 replace rw9:=Hy rw9
 rw[Nat.zero_add] at rw12
 clear hG0 hGn j0 j1 hl0 hl0'
 go_upto_region 13 with (first
  |((with_reducible refine LM rw12.out SU ?_ ?_);rfl)
  |((with_reducible refine LM rw9.out SU ?_ ?_);rfl)
  |(go_at_call 60;refine(HS2.out w9).mono ?_;rintro e w10 ⟨rfl,b10⟩;have a9A:=a99.b b10;rw[hsp.out] at a9A;have hth:=Hy (a9A.there 102 4 (by rw[List.length_append,List.length_append,l1.out];exact Nat.le_refl _)))
  |((with_reducible refine xA 151 (uc Sm) hth.out ?_ ?_ ?_ ?_ ?_);rfl;rfl;kernel_rfl;rfl))
 have a9q:=Av.setCells (uc Sm) _ (uc Wk) [] 102 w10 a9A l1.out rfl
 rw[hset.out] at a9q
 have b010:=b09.trans (b10.mono b09.size)
 have T10:=T9.b b10
 have aX10:=aX9.b b10
 have bq0:Below w.heap.size w (w10.setCells g9 102 (uc Sm)):=eD (uc Sm) w10 g9 102 b010 hg9
 have frq:Fr (fun k=>k=g9) w10 (w10.setCells g9 102 (uc Sm)):=by
  have q:=eD (B:=0) (uc Sm) w10 g9 102 (Below.refl 0 w10) (Nat.zero_le _)
  exact⟨q.os,q.tape,q.output,q.size,fun k _ hk=>jF (uc Sm) w10 g9 102 k hk⟩
 have Tq0:=T10.fr frq hg9R (fun e=>by have:=hvl g9 e;omega) hg9M
 have aXq0:=frq.av aX10 (fun e=>hg96 e.symm)
 obtain⟨wq,hwq⟩:=Nm (w10.setCells g9 102 (uc Sm))
 rw[← hwq] at a9q bq0 Tq0 aXq0 ⊢
 have Tq:=Tq0
 have aN:=a9q
 have aXq:=aXq0
 have bq:=bq0
 clear a9q bq0 Tq0 aXq0 hwq frq aX10 T10 b010 a9A hth b10 rw12 rw9 a129 aX9 a99 T9 b09 hg9M
 obtain⟨A,c,hv,Rv⟩:=Tq.rv
 obtain⟨N,hN⟩:=Nm (ns.length)
 have Tq0:=Tq
 rw[hv] at Tq
 have avq:=Tq.av
 have oq:=Tq.own
 rw[← hN] at oq avq
 have mq:=Tq.map
 have hMR:=wW avq mq
 have hlim:most≤1048576:=Tq.lim
 exact Xc5
end Go.Proofs.YtobjgebojhjhnaaGreatDoor
namespace Go.Proofs.YtobjgebojhjhnaaGreatDoor
open Go.RowKit Tryz
theorem RB (base R most:Nat) (v:Value) (Mp:Nat) (ns:List Nd) (h:Hd) (hh:h.ok) (w:World) (ht:fW w) (T:sS w base R most v Mp ns) (hbase:base≤w.heap.size):
  Calls prog 29 #[.pointer (some ⟨R,0,none⟩),.agg (fC h).toArray] w fun e w'=>e= .returned (.tuple #[.int .i64 (iD most ns h).2.1,.int .i64 ((iD most ns h).2.2:Int)])∧(∃ v',sS w' base R most v' Mp (iD most ns h).1)∧Below base w w'∧gU w w':=by
 cases hk:bZ ns (dS h) with
 |some i=>
  have e:iD most ns h=(ns,(i:Int),10):=by unfold iD;rw[hk]
  rw[e]
  exact Ez base R most v Mp ns h hh w ht T hbase i hk
 |none=>
  by_cases hn:ns.length=0
  ·have hn0:ns= []:=List.eq_nil_of_length_eq_zero hn
   have hm:gS ns h=some ⟨dS h,h,-1,0,fE h.bits⟩:=by rw[gS,if_pos hn]
   by_cases hf:most≤ns.length
   ·have e:iD most ns h=(ns,-1,12):=by unfold iD;rw[hk];simp only[hm];rw[if_pos hf]
    rw[e]
    exact EA base R most v Mp ns h hh w ht T hbase hk hn0 hf
   ·have e:iD most ns h=(ns++ [⟨dS h,h,-1,0,fE h.bits⟩],(ns.length:Int),0):=by unfold iD;rw[hk];simp only[hm];rw[if_neg hf]
    rw[e]
    exact Ha base R most v Mp ns h hh w ht T hbase hk hn0 hf
  ·cases hp:bZ ns h.prev with
   |none=>
    have hm:gS ns h=none:=by rw[gS,if_neg hn,hp]
    have e:iD most ns h=(ns,-1,9):=by unfold iD;rw[hk];simp only[hm]
    rw[e]
    exact CM base R most v Mp ns h hh w ht T hbase hk OM hp
   |some j=>
    obtain⟨x,hx,_⟩:=pO hp
    have hm:gS ns h=some ⟨dS h,h,(j:Int),x.hgt+1,(x.wrk+fE h.bits) % 115792089237316195423570985008687907853269984665640564039457584007913129639936⟩:=by rw[gS,if_neg hn,hp];simp only[hx]
    by_cases hf:most≤ns.length
    ·have e:iD most ns h=(ns,-1,12):=by unfold iD;rw[hk];simp only[hm];rw[if_pos hf]
     rw[e]
     exact CN base R most v Mp ns h hh w ht T hbase hk OM j x hp hx hf
    ·have e:iD most ns h=(ns++ [⟨dS h,h,(j:Int),x.hgt+1,(x.wrk+fE h.bits) % 115792089237316195423570985008687907853269984665640564039457584007913129639936⟩],(ns.length:Int),0):=by unfold iD;rw[hk];simp only[hm];rw[if_neg hf]
     rw[e]
     exact EB base R most v Mp ns h hh w ht T hbase hk OM j x hp hx hf
end Go.Proofs.YtobjgebojhjhnaaGreatDoor
