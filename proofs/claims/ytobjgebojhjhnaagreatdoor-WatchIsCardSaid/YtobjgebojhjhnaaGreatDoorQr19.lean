import Derived.Test.YtobjgebojhjhnaaGreatDoorQr13
import Derived.Test.YtobjgebojhjhnaaGreatDoorTxC
namespace Go.Proofs.YtobjgebojhjhnaaGreatDoor
set_option maxRecDepth 100000
set_option maxHeartbeats 16000000
open Go.RowKit Tryz
structure Sn where
 id:List UInt8
 blk:List UInt8
 pos:Int
deriving DecidableEq
def Sn.ok (s:Sn):Prop:=s.id.length=32∧s.blk.length=32
def dY (s:Sn):List Value:=s.id.map bv++(s.blk.map bv++ [.int .i64 s.pos])
def uJ (l:List Sn):List Value:=l.flatMap dY
def Aw (l:List Sn):Prop:=∀ s ∈ l,s.ok
def dI (w:World) (A:Option Addr) (l:List Sn):Prop:=Rd w A (uJ l)∧Aw l
theorem dD {s:Sn} (h:s.ok):(dY s).length=65:=by simp[dY,h.1,h.2]
theorem kC (s:Sn):∀ u ∈ dY s,u.oneCell'=true:=by
 intro u hu
 simp only[dY,List.mem_append,List.mem_map,List.mem_cons,List.not_mem_nil,or_false] at hu
 rcases hu with ⟨_,_,rfl⟩|⟨_,_,rfl⟩|rfl <;> rfl
theorem Ge (l:List Sn):∀ u ∈ uJ l,u.oneCell'=true:=by
 intro u hu
 obtain⟨s,_,h⟩:=List.mem_flatMap.1 hu
 exact kC s u h
theorem sU {l:List Sn} (h:Aw l):(uJ l).length=l.length*65:=eW dY 65 l fun s hs=>dD (h s hs)
theorem rK {s:Sn} (h:s.ok):(dY s)[64]? =some (.int .i64 s.pos):=by
 unfold dY
 rw[List.getElem?_append_right (by simp[h.1]),List.getElem?_append_right (by simp[h.1,h.2])]
 simp[h.1,h.2]
theorem dI.b {w w':World} {A:Option Addr} {l:List Sn} (h:dI w A l) (b:Below w.heap.size w w'):dI w' A l:=⟨h.1.b b,h.2⟩
theorem dI.nil (w:World) (A:Option Addr):dI w A []:=⟨Rd.nil w A,fun _ h=>by cases h⟩
theorem dI.adr {w:World} {A:Option Addr} {l:List Sn} (h:dI w A l) (hl:0<l.length):∃ b off,A=some ⟨b,off,none⟩:=by
 rcases h.1 with h1|⟨b,off,h1,_⟩
 ·have:=sU h.2
  rw[h1] at this
  simp at this
  omega
 ·exact⟨b,off,h1⟩
theorem dI.nth {w:World} {b off:Nat} {l:List Sn} (h:dI w (some ⟨b,off,none⟩) l) (k:Nat) (s:Sn) (hk:l[k]? =some s):w.rangeAt b (off+k*65) (dY s)∧s.ok:=
 ⟨Rd.piece dY 65 l (fun s hs=>dD (h.2 s hs)) h.1 k s hk,h.2 s (List.mem_of_getElem? hk)⟩
theorem nE {w:World} {b o:Nat} {s:Sn} (r:w.rangeAt b o (dY s)):w.rangeAt b o (s.id.map bv):=fun j u hu=>by
 refine r j u ?_
 unfold dY
 rw[List.getElem?_append_left (List.getElem?_eq_some_iff.1 hu).1]
 exact hu
theorem mR {w:World} {b o:Nat} {s:Sn} (h:s.ok) (r:w.rangeAt b o (dY s)):w.rangeAt b (o+32) (s.blk.map bv):=fun j u hu=>by
 have hj:=(List.getElem?_eq_some_iff.1 hu).1
 have:=r (32+j) u (by
  unfold dY
  rw[List.getElem?_append_right (by simp[h.1]),List.getElem?_append_left (by simpa [h.1] using hj),← hu]
  congr 1
  simp[h.1])
 rw[show o+32+j=o+(32+j) by omega]
 exact this
def vN {α:Type} [BEq α] (l:List α) (x:α):Int:=match l.findIdx? (fun y=>x==y) with
 |some i=>(i:Int)
 |none=>-1
section
variable {α:Type} [BEq α]
theorem Xc148 {p:Prop} (h:p:=by
 obtain⟨h1,h2⟩:=List.getElem?_eq_some_iff.1 hy
 rw[List.findIdx?_eq_some_iff_getElem.2 ⟨h1,by rw[h2];exact h,fun i hi=>by
  rw[hl i hi _ (List.getElem?_eq_getElem OM)];simp⟩]):p:=h
theorem OR {l:List α} {x y:α} {j:Nat} (hy:l[j]? =some y) (h:(x==y)=true) (hl:∀ i,i<j→ ∀ z,l[i]? =some z→(x==z)=false):vN l x=(j:Int):=by
 unfold vN
 exact Xc148
theorem Qp {l:List α} {x:α} (hl:∀ i,i<l.length→ ∀ z,l[i]? =some z→(x==z)=false):vN l x= -1:=by
 unfold vN
 rw[List.findIdx?_eq_none_iff.2 fun z hz=>by
  obtain⟨i,hi,rfl⟩:=List.getElem_of_mem hz
  exact hl i hi _ (List.getElem?_eq_getElem hi)]
theorem NU [LawfulBEq α] (l:List α) (x:α):decide ((0:Int)≤vN l x)=l.contains x:=by
 unfold vN
 rw[Bool.eq_iff_iff,List.contains_iff_mem,decide_eq_true_eq]
 cases h:l.findIdx? (fun y=>x==y) with
 |none=>
  rw[List.findIdx?_eq_none_iff] at h
  simp only
  constructor
  ·intro h2;omega
  ·intro h2
   have:=h x h2
   simp at this
 |some i=>
  simp only
  obtain⟨h1,h2,_⟩:=List.findIdx?_eq_some_iff_getElem.1 h
  have e:x=l[i]:=by simpa using h2
  constructor
  ·intro _;rw[e];exact List.getElem_mem h1
  ·intro _;omega
end
structure Cf where
 id:List UInt8
 blk:List UInt8
 pos:Int
 dep:Nat
deriving DecidableEq
def Cf.ok (s:Cf):Prop:=s.id.length=32∧s.blk.length=32
def eT (s:Cf):List Value:=s.id.map bv++(s.blk.map bv++ [.int .i64 s.pos,.int .i64 (s.dep:Int)])
def yK (l:List Cf):List Value:=l.flatMap eT
theorem cH {s:Cf} (h:s.ok):(eT s).length=66:=by simp[eT,h.1,h.2]
theorem jA (s:Cf):∀ u ∈ eT s,u.oneCell'=true:=by
 intro u hu
 simp only[eT,List.mem_append,List.mem_map,List.mem_cons,List.not_mem_nil,or_false] at hu
 rcases hu with ⟨_,_,rfl⟩|⟨_,_,rfl⟩|rfl|rfl <;> rfl
theorem qP {s:Cf} (h:s.ok):(eT s)[64]? =some (.int .i64 s.pos)∧(eT s)[65]? =some (.int .i64 (s.dep:Int)):=by
 unfold eT
 constructor <;>
 ·rw[List.getElem?_append_right (by simp[h.1]),List.getElem?_append_right (by simp[h.1,h.2])]
  simp[h.1,h.2]
theorem oU (xs:Array Value) (off:Nat) (v:Value) (h:xs[off]? =some v) (w:World):(part 3 xs off).run prog w= .ok v w:=by
 simp[part,isAgg,run_underlying Tv,h]
theorem JC {s:Sn} (h:s.ok):(dY s).toArray.extract 0 32=cK s.id:=by
 rw[List.extract_toArray,cK]
 congr 1
 rw[List.extract_eq_take_drop,List.drop_zero]
 unfold dY
 rw[List.take_append_of_le_length (by simp[h.1]),List.take_of_length_le (by simp[h.1])]
theorem JD {s:Sn} (h:s.ok):(dY s).toArray.extract 32 64=cK s.blk:=by
 rw[List.extract_toArray,cK]
 congr 1
 rw[List.extract_eq_take_drop]
 unfold dY
 rw[List.drop_left' (by simp[h.1]),List.take_append_of_le_length (by simp[h.2]),List.take_of_length_le (by simp[h.2])]
theorem JE {s:Cf} (h:s.ok):(eT s).toArray.extract 0 32=cK s.id:=by
 rw[List.extract_toArray,cK]
 congr 1
 rw[List.extract_eq_take_drop,List.drop_zero]
 unfold eT
 rw[List.take_append_of_le_length (by simp[h.1]),List.take_of_length_le (by simp[h.1])]
theorem JF {s:Cf} (h:s.ok):(eT s).toArray.extract 32 64=cK s.blk:=by
 rw[List.extract_toArray,cK]
 congr 1
 rw[List.extract_eq_take_drop]
 unfold eT
 rw[List.drop_left' (by simp[h.1]),List.take_append_of_le_length (by simp[h.2]),List.take_of_length_le (by simp[h.2])]
theorem Xm143 {p q:Prop} (k:q) (h:Hid q→p:=by
 intro hk
 have q1:=run_equalIn_bytes w 9997 35 5 32 SS Tl mQ x.id y.id hx.1 hy.1
 have q2:=run_equalIn_bytes w 9997 35 5 32 SS Tl mQ x.blk y.blk hx.2 hy.2
 have qi:=fun (a b:Int)=>run_equalIn_int (P:=prog) w 9998 3 .i64 .i64 a b Tv
 revert q1 q2 qi;exact hk.out):p:=h (Hy k)
theorem EG (T:TypeId) (hu:prog.underlying T=some (.struct (prog.fieldsOf T))) (hp:prog.stoodInHeld T=false) (hf:(prog.fieldsOf T).toList.map (fun f=>((f.name== "_"),f.type,f.offset))= [(false,35,0),(false,35,32),(false,3,64)]) {x y:Sn} (hx:x.ok) (hy:y.ok) (w:World):
  (Op.equalIn 10000 T (.agg (dY x).toArray) (.agg (dY y).toArray)).run prog w= .ok (x==y) w:=by
 have p:∀ (z:Sn) (i:Nat) (v:Value),(dY z)[i]? =some v→(dY z).toArray[i]? =some v:=fun z i v h=>by simpa using h
 refine Xm143 ?_;intro q1 q2 qi
 have e0:=run_equalIn_struct (P:=prog) w 9999 T (dY x).toArray (dY y).toArray hu hp
 generalize (prog.fieldsOf T).toList=fs at hf e0
 have hl:fs.length=3:=by simpa using congrArg List.length hf
 have hfs:∃ f0 f1 f2,fs= [f0,f1,f2]:=by
  match fs,hl with
  | [a,b,c],_=>exact⟨a,b,c,rfl⟩
 obtain⟨f0,f1,f2,rfl⟩:=hfs
 ·clear hl
  simp only[List.map_cons,List.map_nil,List.cons.injEq,Prod.mk.injEq,and_true] at hf
  obtain⟨⟨a0,b0,c0⟩,⟨a1,b1,c1⟩,⟨a2,b2,c2⟩⟩:=hf
  refine e0.trans ?_
  refine(gK 9999 _ _ f0 _ w a0 b0 c0 _ _ _ (qO _ _ _ (JC hx) w) (qO _ _ _ (JC hy) w) q1 _
   (gK 9999 _ _ f1 _ w a1 b1 c1 _ _ _ (qO _ _ _ (JD hx) w) (qO _ _ _ (JD hy) w) q2 _
   (gK 9999 _ _ f2 _ w a2 b2 c2 _ _ _ (oU _ _ _ (p x _ _ (rK hx)) w) (oU _ _ _ (p y _ _ (rK hy)) w) (qi _ _) true rfl))).trans ?_
  congr 1
  rw[Bool.eq_iff_iff]
  cases x
  cases y
  simp only[Bool.and_eq_true,beq_iff_eq,Sn.mk.injEq]
  simp
theorem JG (T:TypeId) (hu:prog.underlying T=some (.struct (prog.fieldsOf T))) (hp:prog.stoodInHeld T=false) (hf:(prog.fieldsOf T).toList.map (fun f=>((f.name== "_"),f.type,f.offset))= [(false,35,0),(false,35,32),(false,3,64),(false,3,65)]) {x y:Cf} (hx:x.ok) (hy:y.ok) (w:World):
  (Op.equalIn 10000 T (.agg (eT x).toArray) (.agg (eT y).toArray)).run prog w= .ok (x==y) w:=by
 have p:∀ (z:Cf) (i:Nat) (v:Value),(eT z)[i]? =some v→(eT z).toArray[i]? =some v:=fun z i v h=>by simpa using h
 refine Xm143 ?_;intro q1 q2 qi
 have e0:=run_equalIn_struct (P:=prog) w 9999 T (eT x).toArray (eT y).toArray hu hp
 generalize (prog.fieldsOf T).toList=fs at hf e0
 have hl:fs.length=4:=by simpa using congrArg List.length hf
 have hfs:∃ f0 f1 f2 f3,fs= [f0,f1,f2,f3]:=by
  match fs,hl with
  | [a,b,c,d],_=>exact⟨a,b,c,d,rfl⟩
 obtain⟨f0,f1,f2,f3,rfl⟩:=hfs
 ·clear hl
  simp only[List.map_cons,List.map_nil,List.cons.injEq,Prod.mk.injEq,and_true] at hf
  obtain⟨⟨a0,b0,c0⟩,⟨a1,b1,c1⟩,⟨a2,b2,c2⟩,⟨a3,b3,c3⟩⟩:=hf
  refine e0.trans ?_
  refine(gK 9999 _ _ f0 _ w a0 b0 c0 _ _ _ (qO _ _ _ (JE hx) w) (qO _ _ _ (JE hy) w) q1 _
   (gK 9999 _ _ f1 _ w a1 b1 c1 _ _ _ (qO _ _ _ (JF hx) w) (qO _ _ _ (JF hy) w) q2 _
   (gK 9999 _ _ f2 _ w a2 b2 c2 _ _ _ (oU _ _ _ (p x _ _ (qP hx).1) w) (oU _ _ _ (p y _ _ (qP hy).1) w) (qi _ _) _
   (gK 9999 _ _ f3 _ w a3 b3 c3 _ _ _ (oU _ _ _ (p x _ _ (qP hx).2) w) (oU _ _ _ (p y _ _ (qP hy).2) w) (qi _ _) true rfl)))).trans ?_
  congr 1
  rw[Bool.eq_iff_iff]
  cases x
  cases y
  simp only[Bool.and_eq_true,beq_iff_eq,Cf.mk.injEq,Int.natCast_inj]
  simp
theorem Qq {x y:Sn} (hx:x.ok) (hy:y.ok) (p q:Operand) (w:World):(do eqGuard .eql 112 p q (.agg (dY x).toArray) (.agg (dY y).toArray);binOp .eql 112 (.agg (dY x).toArray) (.agg (dY y).toArray):Sem Value).run prog w= .ok (.bool (x==y)) w:=by
 rw[Sem.run_bind,show (eqGuard .eql 112 p q (.agg (dY x).toArray) (.agg (dY y).toArray)).run prog w= .ok () w by go_simp,Result.andThen_ok,run_eql_struct,EG 112 KR KR KR hx hy]
 rfl
theorem OS {x y:Sn} (hx:x.ok) (hy:y.ok) (p q:Operand) (w:World):(do eqGuard .neq 111 p q (.agg (dY x).toArray) (.agg (dY y).toArray);binOp .neq 111 (.agg (dY x).toArray) (.agg (dY y).toArray):Sem Value).run prog w= .ok (.bool (!(x==y))) w:=by
 rw[Sem.run_bind,show (eqGuard .neq 111 p q (.agg (dY x).toArray) (.agg (dY y).toArray)).run prog w= .ok () w by go_simp,Result.andThen_ok,run_neq_struct,EG 111 KR KR KR hx hy]
 rfl
theorem OT {x y:Cf} (hx:x.ok) (hy:y.ok) (p q:Operand) (w:World):(do eqGuard .eql 77 p q (.agg (eT x).toArray) (.agg (eT y).toArray);binOp .eql 77 (.agg (eT x).toArray) (.agg (eT y).toArray):Sem Value).run prog w= .ok (.bool (x==y)) w:=by
 rw[Sem.run_bind,show (eqGuard .eql 77 p q (.agg (eT x).toArray) (.agg (eT y).toArray)).run prog w= .ok () w by go_simp,Result.andThen_ok,run_eql_struct,JG 77 KR KR KR hx hy]
 rfl
theorem CX (x y:List UInt8) (hx:x.length=32) (hy:y.length=32) (p q:Operand) (w:World):(do eqGuard .eql 35 p q (.agg (cK x)) (.agg (cK y));binOp .eql 35 (.agg (cK x)) (.agg (cK y)):Sem Value).run prog w= .ok (.bool (x==y)) w:=by
 rw[Sem.run_bind,show (eqGuard .eql 35 p q (.agg (cK x)) (.agg (cK y))).run prog w= .ok () w by go_simp]
 have:=Ol x y hx hy w
 simpa using this
theorem Gf (x y:List UInt8) (hx:x.length=32) (hy:y.length=32) (p q:Operand) (w:World):(do eqGuard .neq 35 p q (.agg (cK x)) (.agg (cK y));binOp .neq 35 (.agg (cK x)) (.agg (cK y)):Sem Value).run prog w= .ok (.bool (!(x==y))) w:=by
 rw[Sem.run_bind,show (eqGuard .neq 35 p q (.agg (cK x)) (.agg (cK y))).run prog w= .ok () w by go_simp]
 have:=Rh x y hx hy w
 simpa using this
end Go.Proofs.YtobjgebojhjhnaaGreatDoor
namespace Go.Proofs.YtobjgebojhjhnaaGreatDoor
set_option maxRecDepth 100000
set_option maxHeartbeats 16000000
open Go.RowKit Tryz
theorem NV {w:World} {b o:Nat} {n:Nd} (r:w.rangeAt b o (gF n)):w.rangeAt b o (n.id.map bv):=fun j u hu=>r j u (by
 unfold gF
 rw[List.getElem?_append_left (List.getElem?_eq_some_iff.1 hu).1]
 exact hu)
theorem JH {ns:List Nd} {x:List UInt8} {k:Nat} {n:Nd} (hk:ns[k]? =some n) (e:n.id=x) (h:∀ (i:Nat) (m:Nd),i<k→ns[i]? =some m→m.id≠x):bZ ns x=some k:=by
 obtain⟨hl,hn⟩:=List.getElem?_eq_some_iff.1 hk
 unfold bZ
 rw[List.findIdx?_eq_some_iff_getElem]
 refine⟨hl,by rw[hn];simp[e],fun j hj=>?_⟩
 simpa using h j _ hj (List.getElem?_eq_getElem OM)
theorem Hf {ns:List Nd} {x:List UInt8} (h:∀ (i:Nat) (m:Nd),i<ns.length→ns[i]? =some m→m.id≠x):bZ ns x=none:=by
 unfold bZ
 rw[List.findIdx?_eq_none_iff]
 intro m hm
 obtain⟨i,hi,rfl⟩:=List.getElem_of_mem hm
 simpa using h i _ hi (List.getElem?_eq_getElem hi)
def qC (ns:List Nd) (x:List UInt8):Value:=.tuple #[.int .i64 (((bZ ns x).getD 0:Nat):Int),.bool (bZ ns x).isSome]
theorem OU (w:World):Calls prog 30 #[.int .i64 60] w fun e w'=>e= .returned (.agg #[.slice none 0 0,.int .i64 60])∧Below w.heap.size w w':=by
 have b0:=(Below.refl w.heap.size w).alloc LR (.cells #[.slice none 0 0,.int .i64 0] 47)
 have a0:Av (w.alloc (.cells #[.slice none 0 0,.int .i64 0] 47)) w.heap.size 47 [.slice none 0 0,.int .i64 0]:=heap_alloc_new _ _
 go_enter func30,ntmps30
 go_wp2_with ((with_reducible refine SF b0 a0 LR [.slice none 0 0,.int .i64 60] 2 ?_ ?_ ?_);rfl;rfl;intro w6 a6 b6 k6 z6)
 refine bodyPost_ret (results_cell_row rfl _ _ w.heap.size _ _ (0,0) _ bM a6 Ta rfl KR) rfl ⟨rfl,b6⟩
theorem Xm91 {p q:Prop} (k:q) (h:Hid q→p:=by
 intro hk
 skip
 refine ZR ?_
 refine ZQ ?_
 refine ZP (c:=.slice (some ⟨b,off,none⟩) n c) (fun w hw=>by have:=(aT.b hw.drew).cell 0 _ rfl;go_simp;first|done|rfl) ?_
 refine ZM ?_
 refine ZQ ?_
 refine ZQ ?_
 refine ZP (c:=.agg (cK y)) (fun w hw=>bJ _ _ rfl b (off+k*106) rfl (y.map bv) _ (rg.out _ hw.drew) SS rfl (by rw[yv32.out];kernel_rfl)) ?_
 refine ZP (c:=.agg (x.map bv).toArray) (fun w hw=>aE (aX.b hw.drew) _ _ rfl rfl _ 32 xv32.out SS rfl KR) ?_
 exact hk.out):p:=h (Hy k)
theorem JI (x:List UInt8) (hx:x.length=32) (A:Option Addr) (n c most:Nat) (ns:List Nd) (hn:ns.length=n) (hnd:Cx ns) (hs:n≤1048576) (w:World) (hr:Rd w A (qF ns)):
  Calls prog 50 #[.agg #[.slice A n c,.int .i64 (most:Int)],.agg (cK x)] w fun e w'=>e= .returned (qC ns x)∧Below w.heap.size w w':=by
 obtain⟨F,hF⟩:=Nm (qC ns x)
 rw[← hF]
 obtain⟨W,hW⟩:=Nm ((w.alloc (.cells #[.slice A n c,.int .i64 (most:Int)] 47)).alloc (.cells (x.map bv).toArray 35))
 obtain⟨H,hH⟩:=Nm (w.heap.size)
 refine Xm82 ?_;intro bW
 have aT:Av W H 47 [.slice A n c,.int .i64 (most:Int)]:=by rw[hW,hH];exact heap_alloc2_old _ _ _
 have aX:Av W (H+1) 35 (x.map bv):=by rw[hW,hH];exact heap_alloc2_new _ _ _
 have rW:=hr.b bW
 have xv32:Hid ((x.map bv).length=32):=Hy (by simp[hx])
 replace hF:=Hy hF
 replace hW:=Hy hW
 replace hH:=Hy hH
 go_enter func50,ntmps50
 go_upto_region 1 with fail
 rw[← hW.out,← hH.out]
 go_upto_region 2 with fail
 go_loopw [6] (fun iv wr=>∃ k:Nat,k≤n∧iv= .int .i64 (k:Int)∧(∀ (i:Nat) (m:Nd),i<k→ns[i]? =some m→m.id≠x)∧Below w.heap.size w wr∧Av wr H 47 [.slice A n c,.int .i64 (most:Int)]∧Av wr (H+1) 35 (x.map bv)∧Rd wr A (qF ns)) (fun iv _=>n - (intOf iv).toNat)
 case atStart=>exact⟨0,by omega,rfl,fun i _ h=>absurd h OM,bW,aT,aX,rW⟩
 case round=>
  clear bW aT aX rW hr
  obtain⟨k,hk,rfl,hno,bw,aT,aX,rw⟩:=hrel
  have c0:=aT.cell 0 _ rfl
  by_cases hlt:k<n
  ·have t1:decide ((k:Int)<(n:Int))=true:=by simp;omega
   obtain⟨nd,hnk⟩:∃ nd,ns[k]? =some nd:=⟨_,List.getElem?_eq_getElem OM⟩
   have hok:=hnd nd (List.mem_of_getElem? hnk)
   obtain⟨b,off,rfl⟩:∃ b off,A=some ⟨b,off,none⟩:=rw.someA fun e=>by
    have:=rH hnd
    rw[e,List.length_nil] at this
    omega
   have rg:∀ w',Below wr.heap.size wr w'→w'.rangeAt b (off+k*106) (nd.id.map bv):=fun w' b'=>NV (Rd.piece gF 106 ns (fun e he=>dN (hnd e he)) (rw.b b') k nd hnk)
   have EQ:=CX nd.id x hok.id hx
   obtain⟨y,hy⟩:=Nm (nd.id)
   rw[← hy] at rg EQ
   have yv32:Hid ((y.map bv).length=32):=Hy (by rw[hy];simp[hok.id])
   have k0:(0:Int)≤(k:Int):=by omega
   replace hno:=Hy hno
   replace hnk:=Hy hnk
   replace hy:=Hy hy
   replace rg:=Hy rg
   clear hnd hok
   go_upto_region 4 with fail
   by_cases he:y=x
   ·have EE:=EQ
    rw[show (y==x)=true by simp[he]] at EE
    replace EE:=Hy EE
    have hf:=JH hnk.out (by rw[← hy.out,he]) hno.out
    replace hf:=Hy hf
    refine Xm91 ?_;try clear EQ he
    refine jN cI.refl rfl rfl rfl rfl _ _ _ _ _ rfl pB pB (c:=.bool true) (fun w=>EE.out _ _ w) zZ ?_
    refine bO fun w2 hw2=>aF ?_
    have b2:=bw.trans (hw2.drew.mono bw.size)
    clear aT aX rw c0 bw hw2
    go_wp2
    go_ret2
    refine⟨?_,b2⟩
    rw[hF.out,qC,hf.out]
    rfl
   ·have EE:=EQ
    rw[show (y==x)=false by simp[he]] at EE
    replace EE:=Hy EE
    have hno2:∀ (i:Nat) (m:Nd),i<k+1→ns[i]? =some m→m.id≠x:=fun i m hi hm=>by
     by_cases e:i=k
     ·subst e
      have:=hnk.out
      rw[hm] at this
      rw[Option.some.inj this,← hy.out];exact he
     ·exact hno.out i m OM hm
    replace hno2:=Hy hno2
    refine Xm91 ?_;try clear EQ he
    refine jN cI.refl rfl rfl rfl rfl _ _ _ _ _ rfl pB pB (c:=.bool false) (fun w=>EE.out _ _ w) zZ ?_
    refine bO fun w2 hw2=>aF ?_
    have b2:=bw.trans (hw2.drew.mono bw.size)
    have aT2:=aT.b hw2.drew
    have aX2:=aX.b hw2.drew
    have rw2:=rw.b hw2.drew
    clear aT aX rw c0 bw hw2
    go_wp2
    refine⟨⟨k+1,by omega,by go_num,hno2.out,b2,aT2,aX2,rw2⟩,?_⟩
    simp[intOf]
    omega
  ·obtain rfl:k=n:=by omega
   have t1:decide ((k:Int)<(k:Int))=false:=by simp
   have hf:=Hf (fun i m hi=>hno i m OM)
   replace hf:=Hy hf
   clear hno
   go_wp2
   go_ret2
   refine⟨?_,bw⟩
   rw[hF.out,qC,hf.out]
   rfl
theorem Hg {ns:List Nd} (ok:nH ns) (i:Int):∃ (N:Nat) (cur:Nat→Int),cur 0=i∧N≤ns.length∧(∀ m,m<N→∃ nd,ns[jE ns i.toNat m]? =some nd∧cur m=(jE ns i.toNat m:Int)∧nd.par=cur (m+1))∧¬ (0≤cur N∧cur N<ns.length)∧nB ns i=((List.range N).map (jE ns i.toNat)).reverse:=by
 by_cases h:0≤i∧i<ns.length
 ·obtain⟨k,rfl⟩:∃ k:Nat,i=(k:Int):=⟨i.toNat,by omega⟩
  have hk:k<ns.length:=by omega
  have hh:=ok.hgt_le hk
  rw[nB,if_pos h,Int.toNat_natCast]
  refine⟨dP ns k+1,fun m=>if m≤dP ns k then (jE ns k m:Int) else -1,by simp[jE],by omega,fun m hm=>?_,by simp;omega,?_⟩
  ·obtain⟨a,b,_⟩:=ok.anc hk m OM
   refine⟨_,List.getElem?_eq_getElem a,by simp;omega,?_⟩
   have hc:=List.getElem?_eq_getElem a
   by_cases h0:jE ns k m=0
   ·have e:m=dP ns k:=by
     have:=ok.root _ (by rw[← h0];exact hc)
     have hz:=(OI hc).2.1
     rw[this.2.1,b] at hz
     omega
    rw[(ok.root _ (by rw[← h0];exact hc)).1]
    simp[e]
   ·obtain⟨p,x,e1,_,_,e2,_⟩:=ok.step _ _ hc h0
    have hz:=(OI hc).2.1
    rw[e2,b] at hz
    rw[e1]
    show (p:Int)=if m+1≤dP ns k then (jE ns k (m+1):Int) else -1
    rw[if_pos OM]
    show (p:Int)=(tK ns (jE ns k m):Int)
    rw[(OI hc).1,e1]
    simp
  ·apply List.ext_getElem?
   intro j
   by_cases hj:j≤dP ns k
   ·rw[tL ns k j hj,List.getElem?_reverse zU]
    simp only[List.length_map,List.length_range,List.getElem?_map]
    rw[List.getElem?_range OM]
    simp
   ·rw[List.getElem?_eq_none (by rw[mL];omega),List.getElem?_eq_none zU]
 ·exact⟨0,fun _=>i,rfl,by omega,fun m hm=>absurd hm OM,h,by rw[nB,if_neg h];rfl⟩
theorem Rd.atI {w:World} {A:Option Addr} {l:List Nat} (h:Rd w A (l.map iv)) {k x:Nat} (hk:l[k]? =some x):∃ b off,A=some ⟨b,off,none⟩∧w.cell? ⟨b,off+k,none⟩=some (.int .i64 (x:Int)):=by
 rcases h with h|⟨b,off,e,h⟩
 ·have:l= []:=by simpa using h
  rw[this] at hk;cases hk
 ·exact⟨b,off,e,h k _ (by rw[List.getElem?_map,hk];rfl)⟩
theorem Xc19 {p:Prop} (h:p:=by
 clear hx h0
 go_upto_region 7 with fail
 clear c0 aTq
 go_loopw [6,7] (fun ov kv wq=>∃ q:Nat,q≤m∧kv= .int .i64 ((m:Int) - 1 - (q:Int))∧wq.ownsRow wr.heap.size 3 1 ov q ((L.take q).map iv)∧Below wr.heap.size wr wq) (fun _ kv _=>(intOf kv+1).toNat)
 case atStart=>exact⟨0,by omega,by simp,o0,Below.refl _ _⟩
 case round=>
  clear o0
  obtain⟨q,hq,rfl,ow,bx⟩:=hrel
  by_cases hqm:q<m
  ·obtain⟨j,hj⟩:∃ j:Nat,(m:Int) - 1 - (q:Int)=(j:Int):=⟨m - 1 - q,by omega⟩
   rw[hj]
   have hlq:=hLq.out q hqm
   rw[show m - 1 - q=j by omega] at hlq
   obtain⟨b',off',rfl,cb'⟩:=(rb.b bx).atI (k:=j) (x:=F j) (by rw[List.getElem?_map,List.getElem?_range OM];rfl)
   obtain⟨x,hx⟩:=Nm (F j)
   rw[← hx] at hlq cb'
   have u1:decide ((0:Int)≤(j:Int))=true:=by simp
   have j0:(0:Int)≤(j:Int):=by omega
   have j1:(j:Int)<(m:Int):=by omega
   have etk:L.take (q+1)=L.take q++ [x]:=by rw[List.take_add_one,hlq];rfl
   replace hx:=Hy hx
   replace hj:=Hy hj
   replace etk:=Hy etk
   clear hlq
   go_upto_region 8 with (at_builtin;refine tQ ow bx bx.size x OM rfl (.tmp 34) (.tmp 39) rfl rfl rfl ?_;intro v5 w5 ow5 bw5 _)
   rw[← etk.out] at ow5
   replace ow5:=Hy ow5
   replace bw5:=Hy bw5
   clear cb' ow bx
   go_wp2
   refine⟨⟨q+1,by omega,by rw[← hj.out];go_num,ow5.out,bw5.out⟩,?_⟩
   simp[intOf]
  ·obtain rfl:q=m:=by omega
   have u1:decide ((0:Int)≤(q:Int) - 1 - (q:Int))=false:=by simp;omega
   rw[List.take_of_length_le (by rw[hLn.out];exact Nat.le_refl _)] at ow
   have iw:=Hy (Ex ow)
   have bfin:=Hy (bW.trans ((bq.trans (bx.mono bq.size)).mono bW.size))
   clear ow
   go_wp2
   go_ret
   exact⟨⟨_,rfl,iw.out⟩,bfin.out⟩):p:=h
theorem Qr (A:Option Addr) (n c most:Nat) (ns:List Nd) (hn:ns.length=n) (ok:nH ns) (hs:n≤1048576) (i:Int) (w:World) (hr:Rd w A (qF ns)):
  Calls prog 113 #[.agg #[.slice A n c,.int .i64 (most:Int)],.int .i64 i] w fun e w'=>(∃ v,e= .returned v∧CE w' v (nB ns i))∧Below w.heap.size w w':=by
 obtain⟨N,cur,hc0,hN,hcm,hcN,hL⟩:=Hg ok i
 have hnd:=ok.nds
 obtain⟨F,hF⟩:=Nm (jE ns i.toNat)
 rw[← hF] at hcm hL
 obtain⟨L,hLL⟩:=Nm (nB ns i)
 rw[← hLL] at hL ⊢
 rw[← hc0]
 rw[hn] at hN hcN
 replace hc0:=Hy hc0
 replace hF:=Hy hF
 replace hLL:=Hy hLL
 replace hL:=Hy hL
 replace hcm:=Hy hcm
 replace hnd:=Hy hnd
 obtain⟨W,hW⟩:=Nm (w.alloc (.cells #[.slice A n c,.int .i64 (most:Int)] 47))
 obtain⟨H,hH⟩:=Nm (w.heap.size)
 refine Xm90 ?_;intro bW
 have aT:Av W H 47 [.slice A n c,.int .i64 (most:Int)]:=by rw[hW,hH];exact heap_alloc_new _ _
 have hW1:W.heap.size=H+1:=by rw[hW,hH];simp
 have rW:=hr.b bW
 replace hW:=Hy hW
 replace hH:=Hy hH
 go_enter func113,ntmps113
 go_upto_region 1 with fail
 rw[← hW.out,← hH.out]
 go_upto_region 2 with fail
 have ow0:W.ownsRow W.heap.size 3 1 (.slice none 0 0) 0 (((List.range 0).map F).map iv):=World.ownsRow_nil _ _ _ _
 go_loopw [1,5] (fun xv bv wr=>∃ m:Nat,m≤N∧xv= .int .i64 (cur m)∧wr.ownsRow W.heap.size 3 1 bv m (((List.range m).map F).map iv)∧Below W.heap.size W wr) (fun _ bv _=>N - lH bv)
 case atStart=>exact⟨0,by omega,rfl,ow0,Below.refl _ _⟩
 case round=>
  clear ow0
  obtain⟨m,hm,rfl,ow,bq⟩:=hrel
  obtain⟨Ab,cb,rfl,hcb,_⟩:=cM ow
  have aTq:=aT.b bq
  have c0:=aTq.cell 0 _ rfl
  by_cases hlt:m<N
  ·obtain⟨nd,hx,ec,ep⟩:=hcm.out m hlt
   obtain⟨x,hxe⟩:=Nm (F m)
   rw[← hxe] at hx ec
   rw[ec]
   have hxn:x<n:=by rw[← hn];exact(List.getElem?_eq_some_iff.1 hx).1
   have t1:decide ((0:Int)≤(x:Int))=true:=by simp
   have t2:decide ((x:Int)<(n:Int))=true:=by simp;omega
   have t3:decide (x<n)=true:=by simp;omega
   replace ec:=Hy ec
   replace ep:=Hy ep
   replace hxe:=Hy hxe
   replace hx:=Hy hx
   go_upto_region 4 with (at_builtin;refine tQ ow bq bq.size x OM rfl (.tmp 17) (.tmp 19) rfl rfl rfl ?_;intro v5 w5 ow5 bw5 _)
   clear c0 aTq ow bq t1 t2 t3
   obtain⟨b,off,rfl⟩:∃ b off,A=some ⟨b,off,none⟩:=rW.someA fun e=>by
    have:=rH hnd.out
    rw[e,List.length_nil] at this
    omega
   have cp:=tP (Rd.piece gF 106 ns (fun e he=>dN (hnd.out e he)) (rW.b bw5) x nd hx.out) (sR (hnd.out nd (List.mem_of_getElem? hx.out))).1
   rw[ep.out] at cp
   have c5:=(aT.b bw5).cell 0 _ rfl
   have x0:(0:Int)≤(x:Int):=by omega
   have x1:(x:Int)<(n:Int):=by omega
   rw[hxe.out,show (List.range m).map F++ [F m]=(List.range (m+1)).map F by rw[List.range_succ];simp] at ow5
   replace ow5:=Hy ow5
   go_wp2
   refine⟨⟨m+1,by omega,rfl,ow5.out,bw5⟩,?_⟩
   obtain⟨A5,q5,rfl,_⟩:=cM ow5.out
   simp[lH]
   omega
  ·obtain rfl:m=N:=by omega
   have hx:=hcN
   obtain⟨z,hz⟩:=Nm (cur m)
   rw[← hz] at hx ⊢
   replace hz:=Hy hz
   have rb:=fV ow
   have hLq:∀ q,q<m→L[q]? =some (F (m - 1 - q)):=fun q hq=>by
    rw[hL.out,List.getElem?_reverse zU]
    simp only[List.length_map,List.length_range,List.getElem?_map]
    rw[List.getElem?_range OM]
    rfl
   have hLn:L.length=m:=by rw[hL.out];simp
   have o0:wr.ownsRow wr.heap.size 3 1 (.slice none 0 0) 0 ((L.take 0).map iv):=World.ownsRow_nil _ _ _ _
   replace hLq:=Hy hLq
   replace hLn:=Hy hLn
   clear ow hcN
   by_cases h0:0≤z
   ·have t1:decide (0≤z)=true:=by simp;omega
    have t2:decide (z<(n:Int))=false:=by simp;omega
    exact Xc19
   ·have t1:decide (0≤z)=false:=by simp;omega
    exact Xc19
end Go.Proofs.YtobjgebojhjhnaaGreatDoor
