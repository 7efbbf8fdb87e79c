import Derived.Test.YtobjgebojhjhnaaGreatDoorQr4
import Derived.StillTailTactics
import Derived.Laws.Rows
import Derived.Deep.MidRow
namespace Go.Proofs.YtobjgebojhjhnaaGreatDoor
set_option maxRecDepth 100000
set_option maxHeartbeats 16000000
open Go.RowKit Tryz
theorem OD (x:fH):wn x / (8:Int)=wn (x >>> 3):=Bp x 3
theorem Jh (x:fH):wn x / (1024:Int)=wn (x >>> 10):=Bp x 10
attribute [local go_sem high] OD Jh jU gJ lE lF
def jD (l:List fH):Array Value:=(l.map wc).toArray
theorem eI (l:List fH):(jD l).size=l.length:=by simp[jD]
theorem Mh (l:List fH) (i:Nat) (h:i<l.length):(jD l)[i]? =some (wc (l.getD i 0)):=by
 simp[jD,List.getElem?_eq_getElem h]
theorem Mi (l:List fH) (i:Nat) (x:fH):(jD l).setIfInBounds i (wc x)=jD (l.set i x):=by
 simp[jD,List.map_set]
def Ar (w:World) (g:Nat) (t:TypeId) (l:List fH):Prop:=w.heap[g]? =some (.cells (jD l) t (0,0))
theorem Ar.cell {w:World} {g:Nat} {t:TypeId} {l:List fH} (h:Ar w g t l) (i:Nat) (hi:i<l.length):w.cell? ⟨g,i,none⟩=some (wc (l.getD i 0)):=by
 rw[cell_of_row w g i _ t _ h,Mh l i hi]
theorem Ar.set {w:World} {g:Nat} {t:TypeId} {l:List fH} (h:Ar w g t l) (i:Nat) (x:fH):Ar (w.setCell ⟨g,i,none⟩ (wc x)) g t (l.set i x):=by
 unfold Ar
 rw[heap_setCell_same w g i _ t _ h,Mi]
theorem Ar.other {w:World} {g:Nat} {t:TypeId} {l:List fH} (h:Ar w g t l) (a:Addr) (v:Value) (hne:g≠a.block):Ar (w.setCell a v) g t l:=by
 unfold Ar
 rw[heap_setCell_other w a g v hne]
 exact h
theorem Ar.drew {w:World} {g:Nat} {t:TypeId} {l:List fH} (h:Ar w g t l):Ar w.drew g t l:=h
theorem Ar.lt {w:World} {g:Nat} {t:TypeId} {l:List fH} (h:Ar w g t l):g<w.heap.size:=(Array.getElem?_eq_some_iff.mp h).1
theorem Ar.b {w w':World} {g:Nat} {t:TypeId} {l:List fH} (h:Ar w g t l) (hb:Below w.heap.size w w'):Ar w' g t l:=by
 unfold Ar
 rw[hb.block g h.lt]
 exact h
theorem mI:wn 0=0:=by rw[jZ];rfl
theorem rG (n:Nat):jD (List.replicate n 0)=(List.replicate n (.int .u32 0)).toArray:=by
 rw[jD,List.map_replicate,wc,mI]
def wb (b:UInt8):fH:=BitVec.ofNat 32 b.toNat
theorem NJ (b:UInt8):wn (wb b)=(b.toNat:Int):=by rw[jZ,wb,BitVec.toNat_ofNat];have:=b.toNat_lt;omega
def Sy (bs:List UInt8) (i:Nat):fH:=wb (bs.getD (4*i) 0)<<<24 |||wb (bs.getD (4*i+1) 0)<<<16 |||wb (bs.getD (4*i+2) 0)<<<8 |||wb (bs.getD (4*i+3) 0)
theorem En (x:UInt8) (k:Nat) (m:Int) (hm:m=2 ^ k):((x.toNat:Int) % 4294967296*m) % 4294967296=wn (wb x<<<k):=by
 rw[← Em,IntKind.wrap_u32,NJ,hm]
 have:=x.toNat_lt
 rw[Int.emod_eq_of_lt (a:=(x.toNat:Int)) OM OM]
theorem Mj (x0 x1 x2 x3:UInt8):
  bits .or .u32 (bits .or .u32 (bits .or .u32 ((x0.toNat:Int) % 4294967296*16777216 % 4294967296) ((x1.toNat:Int) % 4294967296*65536 % 4294967296)) ((x2.toNat:Int) % 4294967296*256 % 4294967296)) ((x3.toNat:Int) % 4294967296)
   =wn (wb x0<<<24 |||wb x1<<<16 |||wb x2<<<8 |||wb x3):=by
 have e3:(x3.toNat:Int) % 4294967296=wn (wb x3):=by rw[NJ];have:=x3.toNat_lt;omega
 rw[En x0 24 _ DC,En x1 16 _ DC,En x2 8 _ DC,e3,gJ,gJ,gJ]
def nL (bs:List UInt8):Nat→List fH
 |0=>List.replicate 64 0
 |k+1=>(nL bs k).set k (Sy bs k)
theorem mJ (bs:List UInt8) (k:Nat):(nL bs k).length=64:=by
 induction k with
 |zero=>simp[nL]
 |succ k ih=>simp[nL,ih]
def s0 (x:fH):fH:=sP x 7 ^^^ sP x 18 ^^^ x >>> 3
def s1 (x:fH):fH:=sP x 17 ^^^ sP x 19 ^^^ x >>> 10
def NK (l:List fH) (i:Nat):fH:=s1 (l.getD (i - 2) 0)+l.getD (i - 7) 0+s0 (l.getD (i - 15) 0)+l.getD (i - 16) 0
def oN (l:List fH):Nat→List fH
 |0=>l
 |k+1=>(oN l k).set (16+k) (NK (oN l k) (16+k))
theorem pL (l:List fH) (k:Nat):(oN l k).length=l.length:=by
 induction k with
 |zero=>simp[oN]
 |succ k ih=>simp[oN,ih]
def NL (bs:List UInt8):List fH:=oN (nL bs 16) 48
theorem wP (bs:List UInt8):(NL bs).length=64:=by rw[NL,pL,mJ]
theorem Xc153 {p:Prop} (h:p:=by
 refine⟨0,by omega,rfl,((Below.refl _ _).alloc LR _).alloc zS _,?_,?_⟩
 ·rw[Ar,nL,rG];exact heap_alloc2_new _ _ _
 ·rw[Ar,rG];exact heap_alloc2_old _ _ _):p:=h
theorem Xc60 {p:Prop} (h:p:=by
 go_wp2_with fail
 refine(T0 _).mono ?_
 rintro e w' ⟨rfl,rfl⟩
 go_wp2_with fail
 refine(T1 _).mono ?_
 rintro e w' ⟨rfl,rfl⟩
 go_wp2_with fail
 refine(T2 _).mono ?_
 rintro e w' ⟨rfl,rfl⟩
 go_wp2_with fail
 refine(T3 _).mono ?_
 rintro e w' ⟨rfl,rfl⟩
 go_wp2
 go_still_tail 15,(by kernel_rfl)
 change wpList _ _ _ _ _ (World.drew _)
 go_wp2
 refine⟨?_,?measure⟩
 iterate 48 (apply Exists.intro)
 refine⟨?rel,rfl⟩
 case rel=>
  obtain⟨rfl,rfl,rfl,rfl⟩:=Hx.out
  refine⟨k+1,by omega,by go_num,(hb.setCell zS _).drew,?_,(hr0.other _ _ zS).drew⟩
  exact(ha.set (16+k) (NK (oN l1 k) (16+k))).drew
 case measure=>simp[intOf];omega):p:=h
theorem Xc51 {p:Prop} (h:p:=by
 obtain rfl:k=48:=by omega
 clear hk48 hk
 have hl2:(oN l1 48).length=64:=by rw[pL];exact hl1
 obtain⟨l2,hL2⟩:=Nm (oN l1 48)
 rw[← hL2] at ha hl2
 replace hL2:Hid (l2=NL bs):=Hy (by rw[hL2,hL1.out];rfl)
 go_wp2_with (first
  |refine wpList_load_row rfl _ _ rfl _ rfl _ _ _ _ ha Tz rfl (by rw[eI,hl2];kernel_rfl) ?_
  |refine wpList_store_row rfl _ _ _ rfl _ _ rfl rfl _ _ hr0 (by rw[eI,hl2];kernel_rfl) (by rw[eI,eI,hl2];rfl) (by simp[jD,Value.oneCell']) ?_)
 exact bodyPost_ret (v:=.agg (jD l2)) (results_cell_row rfl _ _ w.heap.size _ _ (0,0) _ rfl (setRow_heap _ _ _ _ _ _ hr0) Tz rfl (by rw[eI,hl2];kernel_rfl)) rfl ⟨by rw[← hL2.out],pC hb _ _ LR⟩):p:=h
theorem Xm36 {p q:Prop} (k:q) (h:Hid q→p:=by
 intro hk
 have hl2:(oN l1 k).length=64:=by rw[pL];exact hl1
 have cell:∀ j:Nat,j≤16→0<j→∃ (a:Int) (x:fH),a=16+(k:Int) - j∧x=(oN l1 k).getD (16+k - j) 0∧0≤a∧a<64∧wr.cell? ⟨w.heap.size+1,a.toNat,none⟩=some (wc x):=fun j hj hj0=>
  ⟨_,_,rfl,rfl,by omega,by omega,by rw[show (16+(k:Int) - j).toNat=16+k - j by omega];exact ha.cell _ OM⟩
 obtain⟨a0,x0,ha0,hx0,p0,q0,c0⟩:=cell 2 OM OM
 obtain⟨a1,x1,ha1,hx1,p1,q1,c1⟩:=cell 7 OM OM
 obtain⟨a2,x2,ha2,hx2,p2,q2,c2⟩:=cell 15 OM OM
 obtain⟨a3,x3,ha3,hx3,p3,q3,c3⟩:=cell 16 OM OM
 have e0:IntKind.i64.wrap (16+(k:Int) - 2)=a0:=by rw[IntKind.wrap_i64];omega
 have e1:IntKind.i64.wrap (16+(k:Int) - 7)=a1:=by rw[IntKind.wrap_i64];omega
 have e2:IntKind.i64.wrap (16+(k:Int) - 15)=a2:=by rw[IntKind.wrap_i64];omega
 have e3:IntKind.i64.wrap (16+(k:Int) - 16)=a3:=by rw[IntKind.wrap_i64];omega
 have hk0:0≤16+(k:Int):=by omega
 have hk1:16+(k:Int)<64:=by omega
 have hce:=ha.cell (16+(k:Int)).toNat OM
 have hfz:wr.frozen? ⟨w.heap.size+1,(16+(k:Int)).toNat,none⟩=false:=frozen_of_row _ _ _ _ _ ha
 have Hx:=Hy (And.intro hx0 (And.intro hx1 (And.intro hx2 hx3)))
 clear hx0 hx1 hx2 hx3 ha0 ha1 ha2 ha3 cell
 revert hl2 a0 x0 p0 q0 c0 a1 x1 p1 q1 c1 a2 x2 p2 q2 c2 a3 x3 p3 q3 c3 e0 e1 e2 e3 hk0 hk1 hce hfz Hx;exact hk.out):p:=h (Hy k)
theorem Xc22 {p:Prop} (h:p:=by
 have byte:∀ i:Nat,i<64→wr.cell? ⟨blk,off+i,none⟩=some (bv (bs.getD i 0)):=fun i hi=>by
  have h:=Hbc.out i (bv (bs.getD i 0)) (by simp[List.getElem?_eq_getElem (show i<bs.length by omega)])
  exact(hb.cell (p:=⟨blk,off+i,none⟩) (World.block_lt_of_cell? w _ h)).trans h
 have cell:∀ i:Nat,i<4→∃ (a:Int) (x:UInt8),a=4*(k:Int)+i∧x=bs.getD (4*k+i) 0∧0≤a∧a<64∧wr.cell? ⟨blk,off+a.toNat,none⟩=some (bv x):=fun i hi=>
  ⟨_,_,rfl,rfl,by omega,by omega,by rw[show (4*(k:Int)+i).toNat=4*k+i by omega];exact byte _ OM⟩
 obtain⟨a0,x0,ha0,hx0,p0,q0,c0⟩:=cell 0 OM
 obtain⟨a1,x1,ha1,hx1,p1,q1,c1⟩:=cell 1 OM
 obtain⟨a2,x2,ha2,hx2,p2,q2,c2⟩:=cell 2 OM
 obtain⟨a3,x3,ha3,hx3,p3,q3,c3⟩:=cell 3 OM
 have e0:IntKind.i64.wrap (4*(k:Int))=a0:=by rw[IntKind.wrap_i64];omega
 have e1:IntKind.i64.wrap (a0+1)=a1:=by rw[IntKind.wrap_i64];omega
 have e2:IntKind.i64.wrap (a0+2)=a2:=by rw[IntKind.wrap_i64];omega
 have e3:IntKind.i64.wrap (a0+3)=a3:=by rw[IntKind.wrap_i64];omega
 have hk0:0≤(k:Int):=by omega
 have hk1:(k:Int)<64:=by omega
 have hlw:(nL bs k).getD k 0=(nL bs k).getD k 0:=rfl
 have hce:=ha.cell k (by rw[mJ];omega)
 have Hx:=Hy (And.intro hx0 (And.intro hx1 (And.intro hx2 hx3)))
 clear hx0 hx1 hx2 hx3 ha0 ha1 ha2 ha3 byte cell hlw
 go_wp2
 go_still_tail 35,(by kernel_rfl)
 change wpList _ _ _ _ _ wr.drew
 have hfz:wr.frozen? ⟨w.heap.size+1,k,none⟩=false:=frozen_of_row _ _ _ _ _ ha
 go_wp2
 obtain⟨rfl,rfl,rfl,rfl⟩:=Hx.out
 rw[Mj]
 refine⟨⟨k+1,by omega,by go_num,(hb.setCell zS _).drew,(ha.set k _).drew,(hr0.other _ _ zS).drew⟩,?_⟩
 simp[intOf];omega):p:=h
theorem Qg (bs:List UInt8) (A:Option Addr) (c:Nat) (hl:bs.length=64) (w:World) (hr:Rd w A (bs.map bv)):
  Calls prog 142 #[.slice A 64 c] w fun e w'=>e= .returned (.agg (jD (NL bs)))∧Below w.heap.size w w':=by
 obtain⟨blk,off,rfl,hbc⟩:∃ b off,A=some ⟨b,off,none⟩∧ ∀ j u,(bs.map bv)[j]? =some u→w.cell? ⟨b,off+j,none⟩=some u:=by
  rcases hr with h|h
  ·simp at h;subst h;simp at hl
  ·exact h
 have Hbc:=Hy hbc
 clear hbc hr
 go_enter func142,ntmps142
 go_wp2
 go_loopw [10] (fun i wr=>∃ k:Nat,k≤16∧i= .int .i64 k∧Below w.heap.size w wr∧Ar wr (w.heap.size+1) 253 (nL bs k)∧Ar wr w.heap.size 253 (List.replicate 64 0)) (fun i _=>16 - (intOf i).toNat)
 case atStart=>
  exact Xc153
 case round=>
  obtain⟨k,hk,rfl,hb,ha,hr0⟩:=hrel
  by_cases hk16:k<16
  ·exact Xc22
  ·obtain rfl:k=16:=by omega
   clear hk16 hk Hbc
   go_wp2
   obtain⟨w1,rfl⟩:=Nm (wr)
   have hl1:(nL bs 16).length=64:=mJ _ _
   obtain⟨l1,hL1⟩:=Nm (nL bs 16)
   rw[← hL1] at ha hl1
   replace hL1:=Hy hL1
   go_loopw [5] (fun i wr=>∃ k:Nat,k≤48∧i= .int .i64 (16+(k:Int))∧Below w.heap.size w wr∧Ar wr (w.heap.size+1) 253 (oN l1 k)∧Ar wr w.heap.size 253 (List.replicate 64 0)) (fun i _=>64 - (intOf i).toNat)
   case atStart=>exact⟨0,by omega,rfl,hb,ha,hr0⟩
   case round=>
    obtain⟨k,hk,rfl,hb,ha,hr0⟩:=hrel
    by_cases hk48:k<48
    ·refine Xm36 ?_;intro hl2 a0 x0 p0 q0 c0 a1 x1 p1 q1 c1 a2 x2 p2 q2 c2 a3 x3 p3 q3 c3 e0 e1 e2 e3 hk0 hk1 hce hfz Hx
     have T0:=nT x2 7 7 rfl DC DC
     have T1:=nT x2 18 18 rfl DC DC
     have T2:=nT x0 17 17 rfl DC DC
     have T3:=nT x0 19 19 rfl DC DC
     go_wp2
     go_still KR
     change Exit.then _ _ _ _ wr.drew
     clear c0 c2
     replace c1:wr.drew.cell? _=_:=c1
     replace c3:wr.drew.cell? _=_:=c3
     replace hce:wr.drew.cell? _=_:=hce
     replace hfz:wr.drew.frozen? _=_:=hfz
     replace hb:=hb.drew
     replace ha:=ha.drew
     replace hr0:=hr0.drew
     generalize wr.drew=w2 at*
     exact Xc60
    ·exact Xc51
end Go.Proofs.YtobjgebojhjhnaaGreatDoor
namespace Go.Proofs.YtobjgebojhjhnaaGreatDoor
set_option maxRecDepth 100000
set_option maxHeartbeats 16000000
open Go.RowKit Tryz
theorem wQ (x:fH):bits .xor .u32 IntKind.u32.max (wn x)=wn (~~~x):=by
 have h:IntKind.u32.max=wn (~~~0):=by rw[jZ];rfl
 rw[h,jU]
 congr 1
attribute [local go_sem high] jU gJ lE lF wQ
def Br (ka wk:fH):List fH→List fH
 | [v0,v1,v2,v3,v4,v5,v6,v7]=>
  let t1:=v7+(sP v4 6 ^^^ sP v4 11 ^^^ sP v4 25)+(v4 &&& v5 ^^^ ~~~v4 &&& v6)+ka+wk
  let t2:=(sP v0 2 ^^^ sP v0 13 ^^^ sP v0 22)+(v0 &&& v1 ^^^ v0 &&& v2 ^^^ v1 &&& v2)
  [t1+t2,v0,v1,v2,v3+t1,v4,v5,v6]
 |v=>v
theorem uQ {l:List fH} (h:l.length=8):∃ v0 v1 v2 v3 v4 v5 v6 v7,l= [v0,v1,v2,v3,v4,v5,v6,v7]:=by
 match l,h with
 | [v0,v1,v2,v3,v4,v5,v6,v7],_=>exact⟨v0,v1,v2,v3,v4,v5,v6,v7,rfl⟩
theorem Ar.same {w w':World} {g:Nat} {t:TypeId} {l:List fH} (h:Ar w g t l) (hs:w'.heap[g]? =w.heap[g]?):Ar w' g t l:=by
 unfold Ar;rw[hs];exact h
theorem Ar.alloc {w:World} {g:Nat} {t:TypeId} {l:List fH} (h:Ar w g t l) (o:Obj):Ar (w.alloc o) g t l:=
 h.same (heap_alloc_old _ _ h.lt)
theorem kZ {P:Program} {ops:Array Oper} {rest:List Oper} {o:Oper} {a:Act} {w:World} {Q:Exit→Act→World→Prop} {g:Nat} {t:TypeId} {l:List fH} (h:Ar w g t l)
  (hgd:o.guard=none) (ty:TypeId) (x:Operand) (ho:o.op= .load ty x) (hx:a.eval x= .pointer (some ⟨g,0,none⟩)) (d:TypeDesc) (n:Nat) (hn:l.length=n)
  (hu:P.underlying ty=some d) (hd:(match d with| .struct _| .array _ _=>true|_=>false)=true) (hi:(P.info? ty).map (·.size)=some n)
  (k:wpList P ops Q rest (a.put o.dst (.agg (jD l))) w):wpList P ops Q (o :: rest) a w:=
 wpList_load_row hgd ty x ho g hx t (jD l) (0,0) d h hu hd (by rw[eI,hn];exact hi) k
theorem cP {P:Program} {ops:Array Oper} {rest:List Oper} {o:Oper} {a:Act} {w w0:World} {B:Nat} {Q:Exit→Act→World→Prop} {g:Nat} {t:TypeId} {old:Array Value} (hb:Below B w0 w) (h:w.heap[g]? =some (.cells old t (0,0))) (hB:B≤g)
  (hgd:o.guard=none) (ty:TypeId) (x y:Operand) (ho:o.op= .store ty x y) (hx:a.eval x= .pointer (some ⟨g,0,none⟩)) (l:List fH) (hy:a.eval y= .agg (jD l)) (n:Nat) (hn:l.length=n)
  (hi:(P.info? ty).map (·.size)=some n) (hold:old.size=n)
  (k:∀ w2,Ar w2 g t l→Below B w0 w2→(∀ k,k≠g→w2.heap[k]? =w.heap[k]?)→w2.heap.size=w.heap.size→wpList P ops Q rest (a.put o.dst undef) w2):wpList P ops Q (o :: rest) a w:=
 wpList_store_row hgd ty x y ho g (jD l) hx hy t old h (by rw[eI,hn];exact hi) (by rw[eI,hn];exact hold) (by simp[jD,Value.oneCell'])
  (k _ (setRow_heap _ _ _ _ _ _ h) (pC hb _ _ hB) (fun _ hk=>setRow_other _ _ _ _ hk) zS)
def sQ (h v:List fH):Nat→List fH
 |0=>v
 |k+1=>(sQ h v k).set k ((sQ h v k).getD k 0+h.getD k 0)
theorem lG (h v:List fH) (k:Nat):(sQ h v k).length=v.length:=by
 induction k with
 |zero=>rfl
 |succ k ih=>rw[sQ,List.length_set,ih]
theorem mX (v:World) (o:Obj):(v.alloc o).heap.size=v.heap.size+1:=by simp
def iG (ws h:List fH):Nat→List fH
 |0=>h
 |k+1=>Br (IA k) (ws.getD k 0) (iG ws h k)
theorem iH (ws h:List fH) (hh:h.length=8) (k:Nat):(iG ws h k).length=8:=by
 induction k with
 |zero=>exact hh
 |succ k ih=>
  obtain⟨v0,v1,v2,v3,v4,v5,v6,v7,e⟩:=uQ ih
  rw[iG,e];rfl
def jL (h:List fH) (bs:List UInt8):List fH:=sQ h (iG (NL bs) h 64) 8
structure GO (w wr:World) (g5 g6:Nat) (h zs ws v:List fH):Prop where
 b:Below w.heap.size w wr
 a1:Ar wr w.heap.size 232 h
 a2:Ar wr (w.heap.size+1) 232 zs
 a5:Ar wr g5 253 ws
 a6:Ar wr g6 232 v
 t:fW wr
theorem GO.drew {w wr:World} {g5 g6:Nat} {h zs ws v:List fH} (B:GO w wr g5 g6 h zs ws v):GO w wr.drew g5 g6 h zs ws v:=
 ⟨B.b.drew,B.a1,B.a2,B.a5,B.a6,⟨B.t.k,B.t.i⟩⟩
theorem Ji (hin : List fH) (hh : hin.length = 8) (bs : List UInt8) (A : Option Addr) (c : Nat) (hl : bs.length = 64) (w : World) (hr : Rd w A (bs.map bv)) (ht : fW w) :
    Calls prog 134 #[.agg (jD hin), .slice A 64 c] w fun e w' => e = .returned (.agg (jD (jL hin bs))) ∧ Below w.heap.size w w' := by
  go_enter func134, ntmps134
  obtain ⟨ws, hws⟩ := Nm (NL bs)
  have hwl : ws.length = 64 := by rw [hws, wP]
  have W := Qg bs A c hl
  rw [← hws] at W
  replace hws := Hy hws
  obtain ⟨zs, hzs⟩ : ∃ zs : List fH, zs = List.replicate 8 0 := ⟨_, rfl⟩
  have hzl : zs.length = 8 := by rw [hzs]; rfl
  have hz : #[Value.int IntKind.u32 0, Value.int IntKind.u32 0, Value.int IntKind.u32 0, Value.int IntKind.u32 0, Value.int IntKind.u32 0, Value.int IntKind.u32 0, Value.int IntKind.u32 0, Value.int IntKind.u32 0] = jD zs := by rw [hzs, rG]; rfl
  clear hzs
  replace W := Hy W
  replace hzl := Hy hzl
  replace hh := Hy hh
  replace hwl := Hy hwl
  go_wp2_with fail
  have hb0 : Below w.heap.size w ((w.alloc (.cells (jD hin) 232)).alloc (.cells (jD zs) 232)) := ((Below.refl _ _).alloc LR _).alloc zS _
  have ha1 : Ar ((w.alloc (.cells (jD hin) 232)).alloc (.cells (jD zs) 232)) w.heap.size 232 hin := heap_alloc2_old _ _ _
  have ha2 : Ar ((w.alloc (.cells (jD hin) 232)).alloc (.cells (jD zs) 232)) (w.heap.size + 1) 232 zs := heap_alloc2_new _ _ _
  clear hz
  generalize (w.alloc (.cells (jD hin) 232)).alloc (.cells (jD zs) 232) = w0 at *
  refine (W.out w0 (hr.b hb0)).mono ?_
  rintro e w1 ⟨rfl, hb1⟩
  replace ha1 := ha1.b hb1
  replace ha2 := ha2.b hb1
  have q5 := Hy ha2.lt
  replace hb1 := hb0.trans (hb1.mono hb0.size)
  clear hb0
  go_wp2_with (first
    | (refine cP (hb1.alloc (hb1.size) _) (heap_alloc_new _ _) hb1.size rfl _ _ _ rfl rfl ws rfl 64 hwl.out KR rfl ?_
       intro w2 a5 b2 k2 z2
       replace ha1 := (ha1.alloc _).same (k2 _ (Nat.ne_of_lt ha1.lt))
       replace ha2 := (ha2.alloc _).same (k2 _ (Nat.ne_of_lt ha2.lt))
       rw [mX] at z2
       replace z2 := Hy z2
       clear k2)
    | refine kZ ha1 rfl _ _ rfl rfl _ 8 hh.out Te rfl KR ?_
    | (refine cP (b2.alloc (b2.size) _) (heap_alloc_new _ _) b2.size rfl _ _ _ rfl rfl hin rfl 8 hh.out KR rfl ?_
       intro w3 a6 b3 k3 z3
       replace ha1 := (ha1.alloc _).same (k3 _ (Nat.ne_of_lt ha1.lt))
       replace ha2 := (ha2.alloc _).same (k3 _ (Nat.ne_of_lt ha2.lt))
       replace a5 := (a5.alloc _).same (k3 _ (Nat.ne_of_lt a5.lt))
       rw [mX] at z3
       replace z3 := Hy z3
       clear k3))
  have B0 : GO w w3 w1.heap.size w2.heap.size hin zs ws hin := ⟨b3, ha1, ha2, a5, a6, ht.b b3⟩
  clear b2 b3 ha1 ha2 a5 a6 W hr hb1
  go_loopw [22] (fun i wr => ∃ k : Nat, k ≤ 64 ∧ i = .int .i64 k ∧ GO w wr w1.heap.size w2.heap.size hin zs ws (iG ws hin k)) (fun i _ => 64 - (intOf i).toNat)
  case atStart => exact ⟨0, by omega, rfl, B0⟩
  case round =>
    clear B0
    obtain ⟨k, hk, rfl, B⟩ := hrel
    by_cases hk64 : k < 64
    · have hvl := iH ws hin hh.out k
      obtain ⟨v, hv⟩ := Nm (iG ws hin k)
      rw [← hv] at B hvl
      replace hv := Hy hv
      obtain ⟨v0, v1, v2, v3, v4, v5, v6, v7, rfl⟩ := uQ hvl
      clear hvl
      obtain ⟨x, hx⟩ := Nm (ws.getD k 0)
      have hcw : ∀ W, Ar W w1.heap.size 253 ws → W.cell? ⟨w1.heap.size, k, none⟩ = some (wc x) := fun W a => by rw [hx]; exact a.cell k (by rw [hwl.out]; exact hk64)
      replace hx := Hy hx
      replace hcw := Hy hcw
      have hk0 : 0 ≤ (k : Int) := by omega
      have hk1 : (k : Int) < 64 := by omega
      have T6 := nT v4 6 6 rfl DC DC
      have T11 := nT v4 11 11 rfl DC DC
      have T25 := nT v4 25 25 rfl DC DC
      have T2 := nT v0 2 2 rfl DC DC
      have T13 := nT v0 13 13 rfl DC DC
      have T22 := nT v0 22 22 rfl DC DC
      have c4 : wr.cell? _ = some (wc v4) := B.a6.cell 4 zS
      go_wp2
      refine wp_region_still_lit KR KR ?_
      repeat still_step
      still_call (T6 _)
      repeat still_step
      still_call (T11 _)
      repeat still_step
      still_call (T25 _)
      repeat still_step
      refine wpStill_nil ?_
      change Exit.then _ _ _ _ wr.drew
      clear c4
      replace B := B.drew
      generalize wr.drew = wa at B ⊢
      have c4 : wa.cell? _ = some (wc v4) := B.a6.cell 4 zS
      have c5 : wa.cell? _ = some (wc v5) := B.a6.cell 5 zS
      have c6 : wa.cell? _ = some (wc v6) := B.a6.cell 6 zS
      have c7 : wa.cell? _ = some (wc v7) := B.a6.cell 7 zS
      have cw := hcw.out wa B.a5
      go_wp2
      refine wp_region_still_lit KR KR ?_
      repeat still_step
      still_call (Jg _ hk0 hk1 _ ⟨B.t.k, B.t.i⟩)
      repeat still_step
      refine wpStill_nil ?_
      change Exit.then _ _ _ _ wa.drew
      clear c4 c5 c6 c7 cw
      replace B := B.drew
      generalize wa.drew = wb at B ⊢
      have c0 : wb.cell? _ = some (wc v0) := B.a6.cell 0 zS
      go_wp2
      refine wp_region_still_lit KR KR ?_
      repeat still_step
      still_call (T2 _)
      repeat still_step
      still_call (T13 _)
      repeat still_step
      still_call (T22 _)
      repeat still_step
      refine wpStill_nil ?_
      change Exit.then _ _ _ _ wb.drew
      clear c0
      replace B := B.drew
      generalize wb.drew = wd at B ⊢
      have c0 : wd.cell? _ = some (wc v0) := B.a6.cell 0 zS
      have c1 : wd.cell? _ = some (wc v1) := B.a6.cell 1 zS
      have c2 : wd.cell? _ = some (wc v2) := B.a6.cell 2 zS
      have c3 : wd.cell? _ = some (wc v3) := B.a6.cell 3 zS
      have c4 : wd.cell? _ = some (wc v4) := B.a6.cell 4 zS
      have c5 : wd.cell? _ = some (wc v5) := B.a6.cell 5 zS
      have c6 : wd.cell? _ = some (wc v6) := B.a6.cell 6 zS
      have c7 : wd.cell? _ = some (wc v7) := B.a6.cell 7 zS
      go_wp2_with (refine cP B.b B.a6 (by have := q5.out; have := z2.out; omega) rfl _ _ _ rfl rfl (Br (IA k) x [v0, v1, v2, v3, v4, v5, v6, v7]) rfl 8 rfl KR rfl ?_; intro w4 a6 b4 k4 z4)
      have n1 : w.heap.size ≠ w2.heap.size := by have := q5.out; have := z2.out; omega
      have n2 : w.heap.size + 1 ≠ w2.heap.size := by have := q5.out; have := z2.out; omega
      have n5 : w1.heap.size ≠ w2.heap.size := by have := z2.out; omega
      refine ⟨⟨k + 1, by omega, by go_num, ⟨b4, B.a1.same (k4 _ n1), B.a2.same (k4 _ n2), B.a5.same (k4 _ n5), ?_, ht.b b4⟩⟩, ?_⟩
      · rw [iG, ← hv.out, ← hx.out]; exact a6
      · simp [intOf]; omega
    · obtain rfl : k = 64 := by omega
      clear hk64 hk
      have hvl := iH ws hin hh.out 64
      obtain ⟨v, hv⟩ := Nm (iG ws hin 64)
      rw [← hv] at B hvl
      replace hv := Hy hv
      replace hvl := Hy hvl
      obtain ⟨wo, rfl⟩ := Nm (wr)
      go_wp2
      go_loopw [113] (fun i wr => ∃ k : Nat, k ≤ 8 ∧ i = .int .i64 k ∧ GO w wr w1.heap.size w2.heap.size hin zs ws (sQ hin v k)) (fun i _ => 8 - (intOf i).toNat)
      case atStart => exact ⟨0, by omega, rfl, B⟩
      case round =>
        clear B
        obtain ⟨k, hk, rfl, B⟩ := hrel
        by_cases hk8 : k < 8
        · have hk0 : 0 ≤ (k : Int) := by omega
          have hk1 : (k : Int) < 8 := by omega
          have hce := B.a6.cell k (by rw [lG, hvl.out]; exact hk8)
          have hc1 := B.a1.cell k (by rw [hh.out]; exact hk8)
          have hfz : wr.frozen? ⟨w2.heap.size, k, none⟩ = false := frozen_of_row _ _ _ _ _ B.a6
          obtain ⟨x, hx⟩ := Nm ((sQ hin v k).getD k 0)
          obtain ⟨y, hy⟩ := Nm (hin.getD k 0)
          rw [← hx] at hce
          rw [← hy] at hc1
          replace hx := Hy hx
          replace hy := Hy hy
          go_wp2
          go_still_tail 8, (by kernel_rfl)
          change wpList _ _ _ _ _ (World.drew _)
          go_wp2
          refine ⟨?_, ?measure⟩
          iterate 13 (apply Exists.intro)
          refine ⟨?rel, rfl⟩
          case rel =>
            have n1 : w.heap.size ≠ w2.heap.size := by have := q5.out; have := z2.out; omega
            have n2 : w.heap.size + 1 ≠ w2.heap.size := by have := q5.out; have := z2.out; omega
            have n5 : w1.heap.size ≠ w2.heap.size := by have := z2.out; omega
            have b4 := (B.b.setCell (p := ⟨w2.heap.size, k, none⟩) (by have := q5.out; have := z2.out; simp only; omega) (wc (x + y))).drew
            refine ⟨k + 1, by omega, by go_num, ⟨b4, (B.a1.other _ _ n1).drew, (B.a2.other _ _ n2).drew, (B.a5.other _ _ n5).drew, ?_, ht.b b4⟩⟩
            rw [sQ, ← hx.out, ← hy.out]
            exact (B.a6.set k (x + y)).drew
          case measure => simp [intOf]; omega
        · obtain rfl : k = 8 := by omega
          clear hk8 hk
          have hvl2 : (sQ hin v 8).length = 8 := by rw [lG, hvl.out]
          obtain ⟨v2, hv2⟩ := Nm (sQ hin v 8)
          rw [← hv2] at B hvl2
          replace hv2 : Hid (v2 = jL hin bs) := Hy (by rw [hv2, hv.out, hws.out]; rfl)
          go_wp2_with (first
            | refine kZ B.a6 rfl _ _ rfl rfl _ 8 hvl2 Te rfl KR ?_
            | (refine cP B.b B.a2 OM rfl _ _ _ rfl rfl v2 rfl 8 hvl2 KR (by rw [eI, hzl.out]) ?_
               intro w4 a2 b4 k4 z4))
          exact bodyPost_ret (v := .agg (jD v2)) (results_cell_row rfl _ _ (w.heap.size + 1) _ _ (0, 0) _ rfl a2 Te rfl (by rw [eI, hvl2]; kernel_rfl)) rfl ⟨by rw [← hv2.out], b4⟩
end Go.Proofs.YtobjgebojhjhnaaGreatDoor
namespace Go.Proofs.YtobjgebojhjhnaaGreatDoor
set_option maxRecDepth 100000
set_option maxHeartbeats 16000000
open Go.RowKit Tryz
abbrev fU (h:List fH) (A:Option Addr) (n c:Nat) (N:Int):List Value:=h.map wc++ [.slice A n c,.int .u64 N]
theorem OE (h:List fH) (hh:h.length=8) (A:Option Addr) (n c:Nat) (N:Int) (h0:0≤N) (h1:N<18446744073709551616) (hn:(n:Int)<64) (b:Bool) (hb:b=decide ((n:Int)=N % 64)) (w:World):
  Calls prog 132 #[.agg (fU h A n c N).toArray] w fun e w'=>e= .returned (.bool b)∧Below w.heap.size w w':=by
 obtain⟨v0,v1,v2,v3,v4,v5,v6,v7,rfl⟩:=uQ hh
 clear hh
 go_enter func132,ntmps132
 go_wp2
 go_ret
 exact⟨by rw[hb];rfl,(Below.refl _ _).alloc LR _⟩
def iK:Nat→List fH
 |0=>List.replicate 8 0
 |k+1=>(iK k).set k (Lx k)
theorem dE (k:Nat):(iK k).length=8:=by
 induction k with
 |zero=>rfl
 |succ k ih=>rw[iK,List.length_set,ih]
def kS:List fH:=iK 8
theorem FT (h:List fH) (A:Option Addr) (n c:Nat) (N:Int) (k:Nat) (x:fH) (hk:k<h.length):(fU h A n c N).set k (wc x)=fU (h.set k x) A n c N:=by
 simp[fU,hk,List.map_set]
theorem Qh (w : World) (ht : fW w) :
    Calls prog 117 #[] w fun e w' => e = .returned (.agg (fU kS none 0 0 0).toArray) ∧ Below w.heap.size w w' := by
  go_enter func117, ntmps117
  go_wp2
  go_loopw [3] (fun i wr => ∃ k : Nat, k ≤ 8 ∧ i = .int .i64 k ∧ Below w.heap.size w wr ∧ Av wr (w.heap.size + 1) 234 (fU (iK k) none 0 0 0) ∧ Av wr w.heap.size 234 (fU (iK 0) none 0 0 0)) (fun i _ => 8 - (intOf i).toNat)
  case atStart =>
    refine ⟨0, by omega, rfl, ((Below.refl _ _).alloc LR _).alloc zS _, ?_, ?_⟩
    · rw [Av, iK, fU, List.map_replicate, wc, mI]; exact heap_alloc2_new _ _ _
    · rw [Av, iK, fU, List.map_replicate, wc, mI]; exact heap_alloc2_old _ _ _
  case round =>
    obtain ⟨k, hk, rfl, hb, ha, hr0⟩ := hrel
    by_cases hk8 : k < 8
    · have T := Mg k OM OM wr (ht.b hb)
      rw [show ((k : Int)).toNat = k by omega] at T
      have hk0 : 0 ≤ (k : Int) := by omega
      have hk1 : (k : Int) < 8 := by omega
      have hfz : wr.frozen? ⟨w.heap.size + 1, k, none⟩ = false := frozen_of_row _ _ _ _ _ ha
      have hc := ha.cell k (wc ((iK k).getD k 0)) (by rw [fU, List.getElem?_append_left (by simp [dE, hk8])]; simp [List.getElem?_eq_getElem (show k < (iK k).length by rw [dE]; exact hk8)])
      go_wp2_with fail
      refine T.mono ?_
      rintro e w' ⟨rfl, rfl⟩
      go_wp2
      refine ⟨⟨k + 1, by omega, by go_num, hb.setCell zS _, ?_, hr0.other _ _ zS⟩, ?_⟩
      · rw [iK, ← FT _ _ _ _ _ _ _ (by rw [dE]; exact hk8)]
        exact ha.set k _
      · simp [intOf]; omega
    · obtain rfl : k = 8 := by omega
      clear hk8 hk
      have hsl : (fU (iK 8) none 0 0 0).length = 10 := by simp [fU, dE]
      have hl0 : (fU (iK 0) none 0 0 0).toArray.size = 10 := by simp [fU, dE]
      obtain ⟨l, hl⟩ := Nm (fU (iK 8) none 0 0 0)
      have hall : l.all (·.oneCell') = true := by rw [hl]; simp [fU, Value.oneCell']
      rw [← hl] at ha hsl
      replace hl : Hid (l = fU kS none 0 0 0) := Hy hl
      replace hl0 := Hy hl0
      go_wp2_with (first
        | refine cZ ha rfl _ _ rfl rfl _ 10 hsl Tm rfl KR ?_
        | (refine aP hb hr0 LR rfl _ _ _ rfl rfl l rfl 10 hsl KR hl0.out hall ?_
           intro w4 a2 b4 k4 z4))
      exact bodyPost_ret (v := .agg l.toArray) (results_cell_row rfl _ _ w.heap.size _ _ (0, 0) _ rfl a2 Tm rfl (by rw [List.size_toArray, hsl]; kernel_rfl)) rfl ⟨by rw [← hl.out], b4⟩
def gR (N:Nat):Nat:=if 55<N % 64 then 119 - N % 64 else 55 - N % 64
def mK (N k:Nat):UInt8:=UInt8.ofNat (8*N % 18446744073709551616 / 2 ^ (56 - 8*k))
def mY (N:Nat):Nat→List UInt8
 |0=>128 :: List.replicate (gR N+8) 0
 |k+1=>(mY N k).set (1+gR N+k) (mK N k)
theorem pM (N k:Nat):(mY N k).length=gR N+9:=by
 induction k with
 |zero=>simp[mY]
 |succ k ih=>rw[mY,List.length_set,ih]
def jI (N:Nat):List UInt8:=mY N 8
theorem vM (M:Nat):madeCells #[.int .u8 0] M=((List.replicate M (0:UInt8)).map bv).toArray:=by
 apply Array.ext
 ·simp[size_madeCells]
 ·intro i h1 h2
  have e:i % 1=0:=Nat.mod_one i
  simp[madeCells,bv,e]
theorem GP (N z:Nat) (hz:z=gR N) (w:World):Av (w.alloc (.cells ((Array.replicate (z+9) (bv 0)).setIfInBounds 0 (.int .u8 128)) 5)) w.heap.size 5 ((mY N 0).map bv):=by
 unfold Av
 rw[heap_alloc_new]
 have e:(Array.replicate (z+9) (bv 0)).setIfInBounds 0 (.int .u8 128)=((mY N 0).map bv).toArray:=by
  apply Array.ext'
  simp[mY,← hz,List.replicate_succ]
 rw[e]
theorem Cu (N k:Nat):IntKind.u64.wrap ((N:Int)*8) / 2 ^ (56 - 8*k) % 256=((mK N k).toNat:Int):=by
 have e:(mK N k).toNat=8*N % 18446744073709551616 / 2 ^ (56 - 8*k) % 256:=UInt8.toNat_ofNat'
 rw[e,IntKind.wrap_u64,Int.mul_comm]
 simp
theorem Xc38 {p:Prop} (h:p:=by
 go_enter func133,ntmps133
 go_wp2
 go_loopw [22] (fun i wr=>∃ k:Nat,k≤8∧i= .int .i64 k∧Below w.heap.size w wr∧Av wr w.heap.size 5 ((mY N k).map bv)) (fun i _=>8 - (intOf i).toNat)
 case atStart=>exact⟨0,by omega,rfl,(Below.refl _ _).alloc LR _,GP N z hz.out w⟩
 case round=>
  obtain⟨k,hk,rfl,hb,ha⟩:=hrel
  by_cases hk8:k<8
  ·have hk0:0≤(k:Int):=by omega
   have hk1:(k:Int)<8:=by omega
   have hfz:wr.frozen? ⟨w.heap.size,1+z+k,none⟩=false:=frozen_of_row _ _ _ _ _ ha
   have hc:=ha.cell (1+z+k) (bv ((mY N k).getD (1+z+k) 0)) (by simp[List.getElem?_eq_getElem (show 1+z+k<(mY N k).length by rw[pM,← hz.out];omega)])
   go_wp2
   rw[Cu]
   refine⟨⟨k+1,by omega,by go_num,hb.setCell LR _,?_⟩,?_⟩
   ·rw[mY,← hz.out,List.map_set];exact ha.set _ _
   ·simp[intOf];omega
  ·obtain rfl:k=8:=by omega
   go_wp2
   go_ret
   exact⟨by rw[← hz.out];rfl,.inr ⟨_,_,rfl,fun j u hu=>by simpa using ha.cell j u hu⟩,hb⟩):p:=h
theorem Sz (N:Nat) (hN:N<18446744073709551616) (w:World):
  Calls prog 133 #[.int .u64 N] w fun e w'=>
   e= .returned (.slice (some ⟨w.heap.size,0,none⟩) (gR N+9) (gR N+9))∧Rd w' (some ⟨w.heap.size,0,none⟩) ((jI N).map bv)∧Below w.heap.size w w':=by
 have hr0:0≤(N:Int) % 64:=by omega
 have hr1:(N:Int) % 64<64:=by omega
 obtain⟨z,hz⟩:=Nm (gR N)
 have hz64:z<64:=by rw[hz,gR];split <;> omega
 have hcase:(decide (55 - (N:Int) % 64<0)=true∧55 - (N:Int) % 64+64=(z:Int))∨(decide (55 - (N:Int) % 64<0)=false∧55 - (N:Int) % 64=(z:Int)):=by
  rw[hz,gR]
  by_cases h:55<N % 64
  ·rw[if_pos h];exact .inl ⟨by simp;omega,by omega⟩
  ·rw[if_neg h];exact .inr ⟨by simp;omega,by omega⟩
 have hmk:∀ u:World,(Instr.makeSlice 27 (.int .i64 (1+(z:Int)+8)) (.int .i64 (1+(z:Int)+8))).run prog u= .ok (.slice (some ⟨u.heap.size,0,none⟩) (z+9) (z+9)) (u.alloc (.cells ((List.replicate (z+9) (0:UInt8)).map bv).toArray 5)):=fun u=>by
  obtain⟨i0,hi,hz0,hz1,hz2⟩:=info_parts vS
  have h:=run_make (P:=prog) u 27 5 i0 (.int .u8 0) Tc hi hz0 .i64 .i64 (1+(z:Int)+8) (1+(z:Int)+8) OM OM (by rw[hz2];omega) OM
  have e:(1+(z:Int)+8).toNat=z+9:=by omega
  rw[e] at h
  simpa [hz1,Value.cells,vM] using h
 replace hz:=Hy hz
 rcases hcase with ⟨e1,e2⟩|⟨e1,e2⟩
 ·exact Xc38
 ·exact Xc38
def dW:Nat→List fH→List UInt8→List fH
 |0,h,_=>h
 |k+1,h,bs=>dW k (jL h (bs.take 64)) (bs.drop 64)
theorem qM (k:Nat) (h:List fH) (bs:List UInt8):dW (k+1) h bs=jL (dW k h bs) ((bs.drop (64*k)).take 64):=by
 induction k generalizing h bs with
 |zero=>simp[dW]
 |succ k ih=>
  rw[dW,ih]
  simp only[dW,List.drop_drop]
  rw[show 64+64*k=64*(k+1) by omega]
theorem iP (h:List fH) (bs:List UInt8) (hh:h.length=8):(jL h bs).length=8:=by
 rw[jL,lG,iH _ _ hh]
theorem bQ (k:Nat) (h:List fH) (bs:List UInt8) (hh:h.length=8):(dW k h bs).length=8:=by
 induction k generalizing h bs with
 |zero=>exact hh
 |succ k ih=>rw[dW,ih _ _ (iP _ _ hh)]
open Go.RowKit
attribute [local go_sem high] eO gO gP iV
theorem Rd.sub64 {w:World} {A:Option Addr} {xs:List Value} (h:Rd w A xs) (c:Nat) (hc:xs.length≤c):
  Rd w (if c=64 then A else A.map fun x=>{block:=x.block,off:=x.off+64}) (xs.drop 64):=by
 split
 ·exact .inl (List.drop_eq_nil_of_le OM)
 ·rcases h with h|⟨b,off,rfl,h⟩
  ·exact .inl (by rw[h];rfl)
  ·exact Rd.drop (.inr ⟨b,off,rfl,h⟩) 64
def lH:Value→Nat
 | .slice _ n _=>n
 |_=>0
theorem OG (h : List fH) (hh : h.length = 8) (A : Option Addr) (c : Nat) (N : Int) (h0 : 0 ≤ N) (h1 : N < 18446744073709551616) (h64 : N % 64 = 0)
    (bs : List UInt8) (B : Option Addr) (m cb : Nat) (hm : bs.length = m) (hc : m ≤ cb) (w : World) (hr : Rd w B (bs.map bv)) (ht : fW w) :
    Calls prog 116 #[.agg (fU h A 0 c N).toArray, .slice B m cb] w fun e w' =>
      ∃ A' c', e = .returned (.agg (fU (dW (m / 64) h bs) A' (m % 64) c' (IntKind.u64.wrap (N + IntKind.u64.wrap (m : Int)))).toArray) ∧ m % 64 ≤ c' ∧ Rd w' A' ((bs.drop (64 * (m / 64))).map bv) ∧ Below w.heap.size w w' := by
  have hs := OE h hh A 0 c N h0 h1 OM true (by simp [h64])
  obtain ⟨v0, v1, v2, v3, v4, v5, v6, v7, rfl⟩ := uQ hh
  clear hh
  obtain ⟨zs, hzs⟩ : ∃ zs : List Value, zs = fU (List.replicate 8 0) none 0 0 0 := ⟨_, rfl⟩
  have hz : #[Value.int IntKind.u32 0, Value.int IntKind.u32 0, Value.int IntKind.u32 0, Value.int IntKind.u32 0, Value.int IntKind.u32 0, Value.int IntKind.u32 0, Value.int IntKind.u32 0, Value.int IntKind.u32 0, Value.slice none 0 0, Value.int IntKind.u64 0] = zs.toArray := by
    rw [hzs, fU, List.map_replicate, wc, mI]; rfl
  have hzl : zs.length = 10 := by rw [hzs]; rfl
  clear hzs
  obtain ⟨ss, hss⟩ : ∃ ss : List Value, ss = fU [v0, v1, v2, v3, v4, v5, v6, v7] A 0 c N := ⟨_, rfl⟩
  rw [← hss] at hs ⊢
  have hsl : ss.length = 10 := by rw [hss]; rfl
  replace hss := Hy hss
  replace hzl := Hy hzl
  replace hsl := Hy hsl
  go_enter func116, ntmps116
  have hb0 : Below w.heap.size w ((w.alloc (.cells ss.toArray 234)).alloc (.cells zs.toArray 234)) := ((Below.refl _ _).alloc LR _).alloc zS _
  have ha2 : Av ((w.alloc (.cells ss.toArray 234)).alloc (.cells zs.toArray 234)) w.heap.size 234 ss := heap_alloc2_old _ _ _
  have ha4 : Av ((w.alloc (.cells ss.toArray 234)).alloc (.cells zs.toArray 234)) (w.heap.size + 1) 234 zs := heap_alloc2_new _ _ _
  go_wp2_with (refine cZ ha2 rfl _ _ rfl rfl _ 10 hsl.out Tm rfl KR ?_)
  generalize (w.alloc (.cells ss.toArray 234)).alloc (.cells zs.toArray 234) = w0 at *
  refine (hs w0).mono ?_
  rintro e w1 ⟨rfl, b1⟩
  replace ha2 := ha2.b b1
  replace ha4 := ha4.b b1
  replace b1 := hb0.trans (b1.mono hb0.size)
  clear hb0 hs hz
  have ht1 := ht.b b1
  have q4 := Hy ha4.lt
  have c8 : w1.cell? ⟨w.heap.size, 8, none⟩ = some (.slice A 0 c) := ha2.cell 8 _ (by rw [hss.out]; rfl)
  have c9 : w1.cell? ⟨w.heap.size, 9, none⟩ = some (.int .u64 N) := ha2.cell 9 _ (by rw [hss.out]; rfl)
  have r2 : w1.rangeAt w.heap.size 0 [wc v0, wc v1, wc v2, wc v3, wc v4, wc v5, wc v6, wc v7] := Av.rangeAt (pre := []) (rest := [.slice A 0 c, .int .u64 N]) (by rw [hss.out] at ha2; exact ha2) 0 rfl
  go_wp2_with (first
    | refine wpList_load_mid rfl _ _ rfl _ _ rfl _ _ r2 Te rfl KR ?_
    | (refine aP (b1.alloc b1.size _) (heap_alloc_new _ _) b1.size rfl _ _ _ rfl rfl (fU [v0, v1, v2, v3, v4, v5, v6, v7] none 0 0 _) rfl 10 rfl KR rfl rfl ?_
       intro w2 a5 b2 k2 z2
       have d8 : w2.cell? ⟨w.heap.size, 8, none⟩ = some (.slice A 0 c) := ((ha2.alloc _).same (k2 _ (Nat.ne_of_lt ha2.lt))).cell 8 _ (by rw [hss.out]; rfl)
       replace ha4 := (ha4.alloc _).same (k2 _ (Nat.ne_of_lt ha4.lt))
       clear k2 z2 c8 c9 r2 ha2))
  have hr2 := hr.b b2
  obtain ⟨N2, hN2⟩ := Nm (IntKind.u64.wrap (N + IntKind.u64.wrap (m : Int)))
  rw [← hN2] at a5 ⊢
  replace hN2 := Hy hN2
  obtain ⟨hv, hhv⟩ := Nm ([v0, v1, v2, v3, v4, v5, v6, v7])
  have hvl : hv.length = 8 := by rw [hhv]; rfl
  rw [← hhv] at a5
  replace hhv := Hy hhv
  go_loopw [1] (fun b wr => ∃ (k : Nat) (A' : Option Addr) (c' : Nat), 64 * k ≤ m ∧ b = .slice A' (m - 64 * k) c' ∧ m - 64 * k ≤ c' ∧ Rd w A' ((bs.drop (64 * k)).map bv) ∧ Below w.heap.size w wr ∧ Av wr w1.heap.size 234 (fU (dW k hv bs) none 0 0 N2) ∧ Av wr (w.heap.size + 1) 234 zs) (fun b _ => lH b)
  case atStart => exact ⟨0, B, cb, by omega, rfl, hc, by simpa using hr, b2, a5, ha4⟩
  case round =>
    clear a5 ha4 b2 d8 hr2
    obtain ⟨k, A', c', hk, rfl, hc', hr', hb, a5, a4⟩ := hrel
    by_cases hk64 : 64 ≤ m - 64 * k
    · have t1 : decide ((64 : Int) ≤ ((m - 64 * k : Nat) : Int)) = true := by simp; omega
      obtain ⟨hk', hhk⟩ : ∃ l, l = dW k hv bs := ⟨_, rfl⟩
      have hkl : hk'.length = 8 := by rw [hhk, bQ _ _ _ hvl]
      rw [← hhk] at a5
      replace hhk := Hy hhk
      obtain ⟨u0, u1, u2, u3, u4', u5, u6', u7', rfl⟩ := uQ hkl
      have c0 : wr.cell? ⟨w1.heap.size, 0, none⟩ = some (wc u0) := a5.cell 0 _ rfl
      have c1 : wr.cell? ⟨w1.heap.size, 1, none⟩ = some (wc u1) := a5.cell 1 _ rfl
      have c2 : wr.cell? ⟨w1.heap.size, 2, none⟩ = some (wc u2) := a5.cell 2 _ rfl
      have c3 : wr.cell? ⟨w1.heap.size, 3, none⟩ = some (wc u3) := a5.cell 3 _ rfl
      have c4 : wr.cell? ⟨w1.heap.size, 4, none⟩ = some (wc u4') := a5.cell 4 _ rfl
      have c5 : wr.cell? ⟨w1.heap.size, 5, none⟩ = some (wc u5) := a5.cell 5 _ rfl
      have c6 : wr.cell? ⟨w1.heap.size, 6, none⟩ = some (wc u6') := a5.cell 6 _ rfl
      have c7 : wr.cell? ⟨w1.heap.size, 7, none⟩ = some (wc u7') := a5.cell 7 _ rfl
      have s1 : (0 : Int) ≤ 64 := by decide
      have s2 : (64 : Int) ≤ (c' : Int) := by omega
      go_wp2
      go_still_tail 4, (by kernel_rfl)
      change wpList _ _ _ _ _ (World.drew _)
      clear c0 c1 c2 c3 c4 c5 c6 c7
      have hr64 : Rd wr.drew A' ((((bs.drop (64 * k)).take 64)).map bv) := by rw [List.map_take]; exact (Rd.take hr' 64).b hb.drew
      replace hb := hb.drew
      replace a5 := a5.drew
      replace a4 := a4.drew
      generalize World.drew wr = wd at *
      have HB := Ji [u0, u1, u2, u3, u4', u5, u6', u7'] rfl ((bs.drop (64 * k)).take 64) A' c' (by simp; omega) wd hr64 (ht.b hb)
      obtain ⟨hx, hhx⟩ := Nm (jL [u0, u1, u2, u3, u4', u5, u6', u7'] ((bs.drop (64 * k)).take 64))
      have hxl : hx.length = 8 := by rw [hhx]; exact iP _ _ rfl
      rw [← hhx] at HB
      replace hhx := Hy hhx
      replace hxl := Hy hxl
      replace HB := Hy HB
      go_wp2_with fail
      refine HB.out.mono ?_
      rintro e w4 ⟨rfl, b4⟩
      replace a5 := a5.b b4
      replace a4 := a4.b b4
      replace hb := hb.trans (b4.mono hb.size)
      clear HB hr64
      have hth := a5.there 0 8 zS
      go_wp2_with (refine wpList_store_mid rfl _ _ _ rfl _ _ _ rfl rfl (by rw [eI, hxl.out]; exact hth) (by rw [eI, hxl.out]; kernel_rfl) (by simp [jD, Value.oneCell']) ?_)
      have n4 : w.heap.size + 1 ≠ w1.heap.size := by have := q4.out; omega
      have hg : w.heap.size ≤ w1.heap.size := by have := q4.out; omega
      have a5' : Av (w4.setCells w1.heap.size 0 (jD hx).toList) w1.heap.size 234 (fU hx none 0 0 N2) :=
        Av.setCells (jD hx).toList [] ([u0, u1, u2, u3, u4', u5, u6', u7'].map wc) [.slice none 0 0, .int .u64 N2] 0 _ a5 rfl (by simp [jD, hxl.out])
      have hb' := eD (jD hx).toList w4 w1.heap.size 0 hb hg
      refine ⟨⟨k + 1, _, _, by omega, by rw [show m - 64 * (k + 1) = m - 64 * k - 64 by omega], by omega, ?_, hb', ?_, a4.same (jF _ _ _ _ _ n4)⟩, ?_⟩
      · have := Rd.sub64 hr' c' (by simp; omega)
        rw [← List.map_drop, List.drop_drop] at this
        rw [show 64 * (k + 1) = 64 * k + 64 by omega]
        exact this
      · rw [qM, ← hhk.out, ← hhx.out]; exact a5'
      · simp only [lH]; omega
    · have t1 : decide ((64 : Int) ≤ ((m - 64 * k : Nat) : Int)) = false := by simp; omega
      obtain ⟨hx, hhx⟩ := Nm (dW k hv bs)
      rw [← hhx] at a5
      replace hhx := Hy hhx
      have hmade := cE.made wr wr.heap.size LR #[] 0 (by simp only [maxLen]; omega) rfl
      have hbm := (Below.refl wr.heap.size wr).alloc LR (.cells #[] 5)
      have hrm := (hr'.b hb).b hbm
      have jM : (bs.drop (64 * k)).length = m - 64 * k := by rw [List.length_drop, hm]
      have hle : ([] : List UInt8).length + (m - 64 * k) ≤ 140737488355328 := by simp; omega
      replace hr' := Hy hr'
      have hxl : (fU hx none 0 0 N2).length = 10 := by rw [hhx.out]; simp [fU, bQ _ _ _ hvl]
      have hx8 : (fU hx none 0 0 N2)[8]? = some (.slice none 0 0) := by rw [fU, List.getElem?_append_right (by simp [hhx.out, bQ _ _ _ hvl])]; simp [hhx.out, bQ _ _ _ hvl]
      have hset : ∀ v, (fU hx none 0 0 N2).set 8 v = hx.map wc ++ [v, .int .u64 N2] := fun v => by rw [fU, List.set_append_right _ _ (by simp [hhx.out, bQ _ _ _ hvl])]; simp [hhx.out, bQ _ _ _ hvl]
      have hl8 : ∀ v : Value, (hx.map wc ++ [v, .int .u64 N2]).length = 10 := fun v => by simp [hhx.out, bQ _ _ _ hvl]
      have ho8 : ∀ (a : Option Addr) (n c : Nat), (hx.map wc ++ [Value.slice a n c, Value.int .u64 N2]).all (·.oneCell') = true := fun a n c => by simp [Value.oneCell']
      replace hl8 := Hy hl8
      replace ho8 := Hy ho8
      have n4 : w.heap.size + 1 ≠ w1.heap.size := by have := q4.out; omega
      have hg : w.heap.size ≤ w1.heap.size := by have := q4.out; omega
      replace hxl := Hy hxl
      replace hx8 := Hy hx8
      replace hset := Hy hset
      go_wp2_with (first
        | (at_builtin
           refine aQ hmade hbm hbm.size (m - 64 * k) c' hrm jM hle rfl (.tmp 67) (.tmp 68) rfl rfl rfl ?_
           intro v5 w5 hown hb5 hz5 hgr
           obtain ⟨A2, c2, rfl, hc2, _⟩ := hown.formN (m - 64 * k) (by simpa using jM)
           have a6 : Av w5 w1.heap.size 234 (fU hx none 0 0 N2) := (a5.alloc (.cells #[] 5)).same (hgr.block _ (by have := a5.lt; simp; omega) (by have := a5.lt; simp [Value.ownBlock]; omega))
           have a7 : Av w5 (w.heap.size + 1) 234 zs := (a4.alloc (.cells #[] 5)).same (hgr.block _ (by have := a4.lt; simp; omega) (by have := a4.lt; simp [Value.ownBlock]; omega))
           have e8 : w5.cell? ⟨w1.heap.size, 8, none⟩ = some (.slice none 0 0) := a6.cell 8 _ hx8.out
           have hfz : w5.frozen? ⟨w1.heap.size, 8, none⟩ = false := frozen_of_row _ _ _ _ _ a6
           replace hb5 := hb.trans (hb5.mono hb.size)
           have a8 := a6.set 8 (.slice A2 (m - 64 * k) c2)
           rw [hset.out] at a8
           clear hrm hmade hbm)
        | refine cZ a8 rfl _ _ rfl rfl _ 10 (hl8.out _) Tm rfl KR ?_
        | (refine aP (hb5.setCell (p := ⟨w1.heap.size, 8, none⟩) hg (.slice A2 (m - 64 * k) c2)) (a7.other ⟨w1.heap.size, 8, none⟩ (.slice A2 (m - 64 * k) c2) n4) OM rfl _ _ _ rfl rfl _ rfl 10 (hl8.out _) KR (by rw [List.size_toArray, hzl.out]) (ho8.out _ _ _) ?_
           intro w6 a9 b6 k6 z6))
      have hlt := a5.lt
      have hlt4 := a4.lt
      have hr5 : Rd w6 A2 ((bs.drop (64 * k)).map bv) := by
        have h5 : Rd w5 A2 _ := hown.rd
        rw [List.nil_append] at h5
        rcases h5 with h5 | ⟨b, off, rfl, h5⟩
        · exact .inl h5
        · have hbk := (hown.lt b rfl).1
          refine .inr ⟨b, off, rfl, fun j u hu => ?_⟩
          rw [World.cell?_of_block (w := w5) (by rw [k6 _ (by simp only; omega), heap_setCell_other _ _ _ _ (by simp only; omega)])]
          exact h5 j u hu
      have hk1 : k = m / 64 := by omega
      have hk2 : m - 64 * k = m % 64 := by omega
      refine bodyPost_ret (results_cell_row rfl _ _ (w.heap.size + 1) _ _ (0, 0) _ rfl a9 Tm rfl (by rw [List.size_toArray, hl8.out]; kernel_rfl)) rfl ⟨A2, c2, ?_, by omega, by rw [← hk1]; exact hr5, b6⟩
      rw [fU, ← hk1, ← hk2, hhx.out, hN2.out, hhv.out]
end Go.Proofs.YtobjgebojhjhnaaGreatDoor
