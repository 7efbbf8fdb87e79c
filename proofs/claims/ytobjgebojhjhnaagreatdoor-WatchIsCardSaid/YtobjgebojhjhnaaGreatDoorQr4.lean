import Derived.Deep.MidRow
import Derived.Test.YtobjgebojhjhnaaGreatDoorQr2
import Derived.Great.BuildSlice
import Derived.Laws.CopyRow
namespace Go.Proofs.YtobjgebojhjhnaaGreatDoor
open Go.RowKit
theorem pC {B:Nat} {a w:World} (h:Below B a w) (g:Nat) (cs:Array Value) (hg:B≤g):Below B a (w.setRow g cs):=
 h.trans ⟨rfl,rfl,rfl,by simp,fun k hk=>setRow_other _ _ _ _ OM⟩
def Av (w:World) (g:Nat) (t:TypeId) (l:List Value):Prop:=w.heap[g]? =some (.cells l.toArray t (0,0))
theorem Av.cell {w:World} {g:Nat} {t:TypeId} {l:List Value} (h:Av w g t l) (i:Nat) (u:Value) (hu:l[i]? =some u):w.cell? ⟨g,i,none⟩=some u:=by
 rw[cell_of_row w g i _ t _ h];simpa using hu
theorem Av.lt {w:World} {g:Nat} {t:TypeId} {l:List Value} (h:Av w g t l):g<w.heap.size:=(Array.getElem?_eq_some_iff.mp h).1
theorem Av.b {w w':World} {g:Nat} {t:TypeId} {l:List Value} (h:Av w g t l) (hb:Below w.heap.size w w'):Av w' g t l:=by
 unfold Av;rw[hb.block g h.lt];exact h
theorem Av.set {w:World} {g:Nat} {t:TypeId} {l:List Value} (h:Av w g t l) (i:Nat) (u:Value):Av (w.setCell ⟨g,i,none⟩ u) g t (l.set i u):=by
 unfold Av
 rw[heap_setCell_same w g i _ t _ h];simp
theorem Av.same {w w':World} {g:Nat} {t:TypeId} {l:List Value} (h:Av w g t l) (hs:w'.heap[g]? =w.heap[g]?):Av w' g t l:=by
 unfold Av;rw[hs];exact h
theorem Av.other {w:World} {g:Nat} {t:TypeId} {l:List Value} (h:Av w g t l) (a:Addr) (v:Value) (hne:g≠a.block):Av (w.setCell a v) g t l:=
 h.same (heap_setCell_other w a g v hne)
theorem Av.drew {w:World} {g:Nat} {t:TypeId} {l:List Value} (h:Av w g t l):Av w.drew g t l:=h
theorem cZ {P:Program} {ops:Array Oper} {rest:List Oper} {o:Oper} {a:Act} {w:World} {Q:Exit→Act→World→Prop} {g:Nat} {t:TypeId} {l:List Value} (h:Av w g t l)
  (hgd:o.guard=none) (ty:TypeId) (x:Operand) (ho:o.op= .load ty x) (hx:a.eval x= .pointer (some ⟨g,0,none⟩)) (d:TypeDesc) (n:Nat) (hn:l.length=n)
  (hu:P.underlying ty=some d) (hd:(match d with| .struct _| .array _ _=>true|_=>false)=true) (hi:(P.info? ty).map (·.size)=some n)
  (k:wpList P ops Q rest (a.put o.dst (.agg l.toArray)) w):wpList P ops Q (o :: rest) a w:=
 wpList_load_row hgd ty x ho g hx t l.toArray (0,0) d h hu hd (by rw[List.size_toArray,hn];exact hi) k
theorem aP {P:Program} {ops:Array Oper} {rest:List Oper} {o:Oper} {a:Act} {w w0:World} {B:Nat} {Q:Exit→Act→World→Prop} {g:Nat} {t:TypeId} {old:Array Value} (hb:Below B w0 w) (h:w.heap[g]? =some (.cells old t (0,0))) (hB:B≤g)
  (hgd:o.guard=none) (ty:TypeId) (x y:Operand) (ho:o.op= .store ty x y) (hx:a.eval x= .pointer (some ⟨g,0,none⟩)) (l:List Value) (hy:a.eval y= .agg l.toArray) (n:Nat) (hn:l.length=n)
  (hi:(P.info? ty).map (·.size)=some n) (hold:old.size=n) (h1:l.all (·.oneCell')=true)
  (k:∀ w2,Av w2 g t l→Below B w0 w2→(∀ k,k≠g→w2.heap[k]? =w.heap[k]?)→w2.heap.size=w.heap.size→wpList P ops Q rest (a.put o.dst undef) w2):wpList P ops Q (o :: rest) a w:=
 wpList_store_row hgd ty x y ho g l.toArray hx hy t old h (by rw[List.size_toArray,hn];exact hi) (hold.trans (by rw[List.size_toArray,hn])) (by simpa using h1)
  (k _ (setRow_heap _ _ _ _ _ _ h) (pC hb _ _ hB) (fun _ hk=>setRow_other _ _ _ _ hk) zS)
theorem aE {P:Program} {w:World} {o:Oper} {ρ:Operand→Value} {g:Nat} {t:TypeId} {l:List Value} (h:Av w g t l) (ty:TypeId) (x:Operand) (ho:o.op= .load ty x) (hx:ρ x= .pointer (some ⟨g,0,none⟩)) (d:TypeDesc) (n:Nat) (hn:l.length=n)
  (hu:P.underlying ty=some d) (hd:(match d with| .struct _| .array _ _=>true|_=>false)=true) (hi:(P.info? ty).map (·.size)=some n):
  (execOp ρ o).run P w= .ok (.value (.agg l.toArray)) w:=by
 unfold execOp
 simp only[ho,hx,Instr.loadAt,Instr.sureAddr,Sem.run_bind,Sem.run_pure,Result.andThen_ok,run_loadVar_row w g t ty _ _ d h hu hd (by rw[List.size_toArray,hn];exact hi)]
theorem Av.rd {w:World} {g:Nat} {t:TypeId} {l:List Value} (h:Av w g t l):Rd w (some ⟨g,0,none⟩) l:=
 .inr ⟨g,0,rfl,fun j u hu=>by rw[Nat.zero_add];exact h.cell j u hu⟩
theorem Av.alloc {w:World} {g:Nat} {t:TypeId} {l:List Value} (h:Av w g t l) (o:Obj):Av (w.alloc o) g t l:=
 h.same (heap_alloc_old _ _ h.lt)
theorem Av.setCells {g:Nat} {t:TypeId} (vs:List Value):∀ (pre xs rest:List Value) (o:Nat) (w:World),Av w g t (pre++xs++rest)→pre.length=o→xs.length=vs.length→
  Av (w.setCells g o vs) g t (pre++vs++rest):=by
 induction vs with
 |nil=>
  intro pre xs rest o w h ho hx
  have:xs= []:=List.length_eq_zero_iff.mp hx
  subst this
  simpa [World.setCells] using h
 |cons v vs ih=>
  intro pre xs rest o w h ho hx
  match xs,hx with
  |x :: xs,hx=>
   have h2:Av (w.setCell ⟨g,o,none⟩ v) g t ((pre++ [v])++xs++rest):=by
    have:=h.set o v
    rw[show (pre++x :: xs++rest).set o v=(pre++ [v])++xs++rest by simp[← ho]] at this
    exact this
   have:=ih (pre++ [v]) xs rest (o+1) _ h2 (by simp[ho]) (by simpa using hx)
   rw[World.setCells]
   simpa using this
theorem Av.rangeAt {w:World} {g:Nat} {t:TypeId} {pre cs rest:List Value} (h:Av w g t (pre++cs++rest)) (o:Nat) (ho:pre.length=o):w.rangeAt g o cs:=fun j v hv=>by
 refine h.cell (o+j) v ?_
 have hj:j<cs.length:=(List.getElem?_eq_some_iff.1 hv).1
 rw[List.append_assoc,List.getElem?_append_right OM,List.getElem?_append_left OM,← hv]
 congr 1;omega
theorem Av.there {w:World} {g:Nat} {t:TypeId} {l:List Value} (h:Av w g t l) (o n:Nat) (hn:o+n≤l.length):w.there g o n:=fun j hj=>
 ⟨by rw[h.cell (o+j) _ (List.getElem?_eq_getElem OM)];rfl,frozen_of_row _ _ _ _ _ h⟩
theorem eD {B:Nat} {a:World} (vs:List Value):∀ (w:World) (g o:Nat),Below B a w→B≤g→Below B a (w.setCells g o vs):=by
 induction vs with
 |nil=>intro w g o h hg;simpa [World.setCells] using h
 |cons v vs ih=>intro w g o h hg;rw[World.setCells];exact ih _ _ _ (h.setCell hg v) hg
theorem jF (vs:List Value):∀ (w:World) (g o k:Nat),k≠g→(w.setCells g o vs).heap[k]? =w.heap[k]? :=by
 induction vs with
 |nil=>intro w g o k h;simp[World.setCells]
 |cons v vs ih=>intro w g o k h;rw[World.setCells,ih _ _ _ _ h,heap_setCell_other w _ k v h]
theorem bJ {P:Program} {w:World} {o:Oper} {ρ:Operand→Value} (ty:TypeId) (x:Operand) (ho:o.op= .load ty x) (b off:Nat) (hx:ρ x= .pointer (some ⟨b,off,none⟩)) (cs:List Value) (d:TypeDesc) (hc:w.rangeAt b off cs)
  (hu:P.underlying ty=some d) (hd:d.isRow=true) (hi:(P.info? ty).map (·.size)=some cs.length):(execOp ρ o).run P w= .ok (.value (.agg cs.toArray)) w:=by
 unfold execOp
 simp only[ho,hx,Instr.loadAt,Instr.sureAddr,Sem.run_bind,Sem.run_pure,Result.andThen_ok,run_loadVar_mid w b off ty cs d hc hu hd hi]
open Go.RowKit Tryz
structure Fr (S:Nat→Prop) (w w':World):Prop where
 os:w'.os=w.os
 tape:w'.tape=w.tape
 output:w'.output=w.output
 size:w.heap.size≤w'.heap.size
 block:∀ k,k<w.heap.size→¬ S k→w'.heap[k]? =w.heap[k]?
theorem Fr.refl (S:Nat→Prop) (w:World):Fr S w w:=⟨rfl,rfl,rfl,Nat.le_refl _,fun _ _ _=>rfl⟩
theorem Fr.trans {S:Nat→Prop} {a b c:World} (h:Fr S a b) (k:Fr S b c):Fr S a c:=
 ⟨k.os.trans h.os,k.tape.trans h.tape,k.output.trans h.output,Nat.le_trans h.size k.size,fun i hi hs=>(k.block i (Nat.lt_of_lt_of_le hi h.size) hs).trans (h.block i hi hs)⟩
theorem Fr.weaken {S T:Nat→Prop} {w w':World} (h:Fr S w w') (hst:∀ k,k<w.heap.size→S k→T k):Fr T w w':=
 ⟨h.os,h.tape,h.output,h.size,fun k hk hs=>h.block k hk fun hs'=>hs (hst k hk hs')⟩
theorem Below.fr {S:Nat→Prop} {w w':World} (h:Below w.heap.size w w'):Fr S w w':=⟨h.os,h.tape,h.output,h.size,fun k hk _=>h.block k hk⟩
theorem Fr.b {S:Nat→Prop} {B:Nat} {w w':World} (h:Fr S w w') (hs:∀ k,S k→B≤k) (hB:B≤w.heap.size):Below B w w':=
 ⟨h.os,h.tape,h.output,h.size,fun k hk=>h.block k OM fun h'=>by have:=hs k h';omega⟩
theorem Fr.av {S:Nat→Prop} {w w':World} {g:Nat} {t:TypeId} {l:List Value} (h:Fr S w w') (ha:Av w g t l) (hg:¬ S g):Av w' g t l:=ha.same (h.block g ha.lt hg)
theorem Fr.rd {S:Nat→Prop} {w w':World} {A:Option Addr} {xs:List Value} (h:Fr S w w') (hr:Rd w A xs) (hA:∀ a,A=some a→¬ S a.block):Rd w' A xs:=by
 rcases hr with e|⟨b,off,e,hc⟩
 ·exact .inl e
 ·exact .inr ⟨b,off,e,fun j u hu=>(World.cell?_of_block (a:=⟨b,off+j,none⟩) (h.block b (World.block_lt_of_cell? w _ (hc j u hu)) (hA _ e))).trans (hc j u hu)⟩
theorem Fr.setCell (w:World) (a:Addr) (v:Value):Fr (fun k=>k=a.block) w (w.setCell a v):=
 ⟨by simp[World.setCell],by simp[World.setCell],by simp[World.setCell],by simp,fun k _ hk=>heap_setCell_other w a k v hk⟩
theorem Fr.of_grown {w w':World} {row:Option Nat} (h:w.grownBy w' row):Fr (fun k=>some k=row) w w':=⟨h.os,h.tape,h.output,h.size,fun k hk hs=>h.block k hk hs⟩
theorem Xc150 {p:Prop} (h:p:=by
 refine⟨ho.1,ho.2.imp id ?_⟩
 rintro⟨g,cap,cur,rfl,hb,hg,hrest⟩
 refine⟨g,cap,cur,rfl,hb,?_,hrest⟩
 rw[h.block g (Array.getElem?_eq_some_iff.1 hg).1 (hv g rfl)]
 exact hg):p:=h
theorem cE.fr {S:Nat→Prop} {w w':World} {base:Nat} {v:Value} {bs:List UInt8} (ho:cE w base v bs) (h:Fr S w w') (hv:∀ k,v.ownBlock=some k→¬ S k):cE w' base v bs:=by
 unfold cE at ho ⊢
 exact Xc150
def PP (w:World) (v v':Value):Prop:=v'.ownBlock=v.ownBlock∨∃ k,v'.ownBlock=some k∧w.heap.size≤k
structure Ed (w:World) (g base:Nat) (v:Value) (bs:List UInt8):Prop where
 av:Av w g 27 [v]
 own:cE w base v bs
 ne:v.ownBlock≠some g
structure mC (g base:Nat) (w:World) (v:Value) (w':World) (v':Value) (bs':List UInt8):Prop where
 buf:Ed w' g base v' bs'
 row:PP w v v'
 fr:Fr (fun k=>k=g∨v.ownBlock=some k) w w'
theorem Ed.to {w:World} {g base:Nat} {v:Value} {bs:List UInt8} (h:Ed w g base v bs):mC g base w v w v bs:=⟨h,.inl rfl,Fr.refl _ _⟩
theorem mC.trans {g base:Nat} {w w' w'':World} {v v' v'':Value} {b1 b2:List UInt8} (h:mC g base w v w' v' b1) (k:mC g base w' v' w'' v'' b2):mC g base w v w'' v'' b2:=by
 refine⟨k.buf,?_,?_⟩
 ·rcases k.row with e|⟨q,e,hq⟩
  ·rcases h.row with e'|⟨q,e',hq⟩
   ·exact .inl (e.trans e')
   ·exact .inr ⟨q,e.trans e',hq⟩
  ·exact .inr ⟨q,e,Nat.le_trans h.fr.size hq⟩
 ·refine⟨k.fr.os.trans h.fr.os,k.fr.tape.trans h.fr.tape,k.fr.output.trans h.fr.output,Nat.le_trans h.fr.size k.fr.size,fun i hi hs=>(k.fr.block i (Nat.lt_of_lt_of_le hi h.fr.size) ?_).trans (h.fr.block i hi hs)⟩
  rintro(e|e)
  ·exact hs (.inl e)
  ·rcases h.row with e'|⟨q,e',hq⟩
   ·exact hs (.inr (e'.symm.trans e))
   ·rw[e'] at e;injection e with e;omega
theorem Ed.fr {S:Nat→Prop} {w w':World} {g base:Nat} {v:Value} {bs:List UInt8} (h:Ed w g base v bs) (f:Fr S w w') (hg:¬ S g) (hv:∀ k,v.ownBlock=some k→¬ S k):Ed w' g base v bs:=
 ⟨f.av h.av hg,h.own.fr f hv,h.ne⟩
theorem Ed.b {w w':World} {g base:Nat} {v:Value} {bs:List UInt8} (h:Ed w g base v bs) (f:Below w.heap.size w w'):Ed w' g base v bs:=
 ⟨h.av.b f,h.own.b f,h.ne⟩
theorem Ed.app {w w1:World} {g base:Nat} {v v1:Value} {bs bs1:List UInt8} (h:Ed w g base v bs) (ho:cE w1 base v1 bs1) (hg:w.grownBy w1 v.ownBlock) (hr:v1.ownBlock=v.ownBlock∨v1.ownBlock=some w.heap.size):
  mC g base w v (w1.setCell ⟨g,0,none⟩ v1) v1 bs1:=by
 have hlt:=h.av.lt
 have hne:v1.ownBlock≠some g:=by
  rcases hr with e|e
  ·rw[e];exact h.ne
  ·rw[e];intro e';injection e';omega
 have a1:Av w1 g 27 [v]:=h.av.same (hg.block g hlt fun e=>h.ne e.symm)
 refine⟨⟨a1.set 0 _,ho.fr (Fr.setCell _ _ _) (fun k e e'=>hne (by rw[e,e'])),hne⟩,hr.imp id fun e=>⟨_,e,Nat.le_refl _⟩,?_⟩
 refine((Fr.of_grown hg).weaken fun k _ e=>.inr e.symm).trans ((Fr.setCell w1 ⟨g,0,none⟩ v1).weaken fun k _ e=>.inl e)
theorem mC.b {g base:Nat} {w w1 w2:World} {v v':Value} {bs':List UInt8} (h:mC g base w v w1 v' bs') (b:Below w1.heap.size w1 w2):mC g base w v w2 v' bs':=
 ⟨h.buf.b b,h.row,h.fr.trans (Below.fr b)⟩
theorem cE.formE {w:World} {base:Nat} {v:Value} {xs:List UInt8} (h:cE w base v xs):∃ q A c,v= .slice A q c:=by
 obtain⟨A,c,e,_⟩:=h.form
 exact⟨_,A,c,e⟩
theorem nI {w:World} {base:Nat} {v:Value} {xs:List UInt8} (hown:cE w base v xs) (hbase:base≤w.heap.size)
  {A:Option Addr} {bs:List UInt8} (m c:Nat) (hr:Rd w A (bs.map bv)) (hl:bs.length=m) (hm:xs.length+m≤140737488355328)
  {ops:Array Oper} {rest:List Oper} {o:Oper} {a:Act} {Q:Exit→Act→World→Prop} (hgd:o.guard=none) (s x:Operand)
  (ho:o.op= .call {callee:=.builtin .append,args:=#[s,x],argTypes:=#[27,27]})
  (hs:a.eval s=v) (hx:a.eval x= .slice A m c)
  (h:∀ v' w',cE w' base v' (xs++bs)→w.grownBy w' v.ownBlock→(v'.ownBlock=v.ownBlock∨v'.ownBlock=some w.heap.size)→wpList prog ops Q rest (a.put o.dst v') w'):wpList prog ops Q (o :: rest) a w:=by
 refine Xm147 ?_;intro i0 hi hz0 hz1 hz2 v' w' h1 h2 h3
 refine h v' w' ?_ h2 h3
 unfold cE
 rw[List.length_append,List.map_append,hl]
 exact h1
theorem cE.low {w:World} {b base:Nat} {v:Value} {xs:List UInt8} (h:cE w base v xs) (hb:b≤base):cE w b v xs:=by
 unfold cE at h ⊢
 refine⟨h.1,h.2.imp id ?_⟩
 rintro⟨g,cap,cur,e,hg,hrest⟩
 exact⟨g,cap,cur,e,Nat.le_trans hb hg,hrest⟩
theorem Xm116 {p q:Prop} (k:q) (h:Hid q→p:=by
 intro hk
 have hc:=h.cell i _ (List.getElem?_eq_getElem hi)
 have hf:=frozen_of_row w g i _ t h
 obtain⟨i0,hi0,hz0⟩:=Option.map_eq_some_iff.1 hs
 have hsz:∀ w,(sizeOf ty).run P w= .ok 1 w:=fun w=>by simp[sizeOf,typeInfo,hi0,hz0]
 revert hc hf i0 hi0 hz0 hsz;exact hk.out):p:=h (Hy k)
theorem iI {P:Program} {ops:Array Oper} {rest:List Oper} {o:Oper} {a:Act} {w:World} {Q:Exit→Act→World→Prop} {g i:Nat} {t:TypeId} {l:List Value} (hgd:o.guard=none) (ty:TypeId) (x y:Operand) (ho:o.op= .store ty x y)
  (hx:a.eval x= .pointer (some ⟨g,i,none⟩)) (h:Av w g t l) (hi:i<l.length) (A:Option Addr) (n c:Nat) (hy:a.eval y= .slice A n c) (hs:(P.info? ty).map (·.size)=some 1) (k:wpList P ops Q rest (a.put o.dst undef) (w.setCell ⟨g,i,none⟩ (.slice A n c))):wpList P ops Q (o :: rest) a w:=by
 refine wpList_plain hgd fun _ hK=>?_
 refine Xm116 ?_;intro hc hf i0 hi0 hz0 hsz
 unfold Oper.wp execOp
 simp only[ho,hx,hy]
 go_simp
 exact hK _ _ k
theorem fV {w:World} {base:Nat} {e:TypeId} {size n k c:Nat} {A:Option Addr} {xs:List Value} (h:w.ownsRow base e size (.slice A k c) n xs):Rd w A xs:=by
 rcases h.2 with ⟨e,e0⟩|⟨g,cap,cur,e,hb,hg,_⟩
 ·have hl:=h.1
  subst e0
  have:xs= []:=List.eq_nil_of_length_eq_zero (by simpa using hl)
  exact .inl this
 ·injection e with e1 e2 e3
  subst e1
  refine .inr ⟨_,_,rfl,fun j u hu=>?_⟩
  have:=h.cells (g:=g) rfl j u hu
  rwa [iM] at this
theorem cM {w:World} {base:Nat} {e:TypeId} {size n:Nat} {v:Value} {xs:List Value} (h:w.ownsRow base e size v n xs):∃ A c,v= .slice A n c∧n≤c∧c≤maxLen:=by
 rcases h.2 with ⟨e,e0⟩|⟨g,cap,cur,e,hb,hg,hc,hm,_⟩
 ·exact⟨none,0,by rw[e,e0],by omega,by simp[maxLen]⟩
 ·exact⟨_,cap,e,hc,hm⟩
theorem aJ {w w':World} {base:Nat} {e:TypeId} {size n:Nat} {v:Value} {xs:List Value} (h:w.ownsRow base e size v n xs) (hb:Below w.heap.size w w'):w'.ownsRow base e size v n xs:=
 h.kept (row:=none) ⟨hb.os,hb.tape,hb.output,hb.size,fun k hk _=>hb.block k hk⟩ (by cases v.ownBlock <;> simp)
theorem fK {w0 w w':World} {base:Nat} {e:TypeId} {size n:Nat} {v:Value} {xs:List Value} (hb:Below base w0 w) (h:w.ownsRow base e size v n xs) (hg:w.grownBy w' v.ownBlock) (hbase:base≤w.heap.size):Below base w0 w':=
 hb.grown hg hbase fun k hk=>(World.ownsRow.lt h k hk).1
theorem eF {P:Program} {ops:Array Oper} {rest:List Oper} {o:Oper} {a:Act} {w w':World} {Q:Exit→Act→World→Prop} {v:Value} (hw:Region.wanted o (yielded ops a.tmps)=true) (h:(execOp a.eval o).run P w= .ok (.value v) w') (k:wpList P ops Q rest (a.put o.dst v) w'):wpList P ops Q (o :: rest) a w:=by
 unfold wpList
 rw[if_pos hw]
 refine .inl ?_
 unfold Oper.wp
 rw[h]
 exact k
theorem bU {S:Nat→Prop} {w w':World} {base:Nat} {e:TypeId} {size n:Nat} {v:Value} {xs:List Value} (ho:w.ownsRow base e size v n xs) (h:Fr S w w') (hv:∀ k,v.ownBlock=some k→¬ S k):w'.ownsRow base e size v n xs:=by
 exact Xc150
theorem lD {P:Program} {t e:TypeId} {size bytes:Nat} (ht:P.underlying t=some (.slice e)) (hi:(P.info? e).map (fun i=>(i.size,i.bytes))=some (size,bytes)) (hz:(P.info? e).map (fun i=>(i.zero.map (·.cells.size)))=some (some size)) (h0:0<size) (hb:size≤1000000)
  {o:Oper} {ρ:Operand→Value} (w:World) (cs:List Value) (hc:cs.length=size) (y:Operand) (ho:o.op= .buildSlice t 1 #[(0,y)]) (hy:ρ y= .agg cs.toArray):
  (execOp ρ o).run P w= .ok (.value (.slice (some ⟨w.heap.size,0,none⟩) 1 1)) (w.alloc (.cells cs.toArray e)):=by
 obtain⟨i0,hi0,hz0⟩:=Option.map_eq_some_iff.1 hi
 obtain⟨i1,hi1,hz1⟩:=Option.map_eq_some_iff.1 hz
 obtain rfl:i1=i0:=by rw[hi0] at hi1;exact(Option.some.inj hi1).symm
 obtain⟨z,hz2,hz3⟩:=Option.map_eq_some_iff.1 hz1
 injection hz0 with hz4 hz5
 have:=run_buildSlice (P:=P) w t e 1 #[(0,.agg cs.toArray)] cs.toArray i1 z ht hi0 hz2 (by rw[hz4];omega) (by rw[hz4];omega) (by
  rw[hz4]
  have:=Great.fill_whole (s:=size) h0 [Value.agg cs.toArray] ((Array.range (1*size)).map (z.cells[· % z.cells.size]!)) (fun v hv=>by
   rw[List.mem_singleton.1 hv];simp[Value.cells,hc]) zS
  simp only[List.zipIdx_cons,List.zipIdx_nil,List.map_cons,List.map_nil,Nat.zero_add] at this
  rw[this]
  simp[Value.cells])
 unfold execOp
 simp only[ho,Sem.run_bind,List.map_toArray,List.map_cons,List.map_nil,hy,this,Result.andThen_ok]
 rfl
theorem dQ {P:Program} {t e:TypeId} {size bytes:Nat} (ht:P.underlying t=some (.slice e)) (hi:(P.info? e).map (fun i=>(i.size,i.bytes))=some (size,bytes)) (hz:(P.info? e).map (fun i=>(i.zero.map (·.cells.size)))=some (some size)) (h0:0<size) (hb:size≤1000000)
  (cs:List Value) (hc:cs.length=size) {ops:Array Oper} {rest:List Oper} {a:Act} {w:World} {Q:Exit→Act→World→Prop} {d ty pos af} {y:Operand} (hy:a.eval y= .agg cs.toArray)
  (k:wpList P ops Q rest (a.put d (.slice (some ⟨w.heap.size,0,none⟩) 1 1)) (w.alloc (.cells cs.toArray e))):wpList P ops Q (⟨d,.buildSlice t 1 #[(0,y)],ty,pos,af,none⟩ :: rest) a w:=
 eF rfl (lD ht hi hz h0 hb w cs hc y rfl hy) k
theorem Eg {P:Program} {w:World} {g:Nat} {t:TypeId} {l:List Value} (h:Av w g t l) (dT sT ty elem:TypeId) (hu:P.underlying dT=some (.slice elem)) (hs:(P.info? elem).map (·.size)=some 1) (o dLen dCap:Nat) (A:Option Addr) (m c:Nat) (xs:List Value)
  (hr:Rd w A xs) (hl:xs.length=min m dLen) (hfit:o+xs.length≤l.length) (h1:∀ v ∈ xs,v.oneCell'=true):
  ∃ w',(Builtin.copy_ #[dT,sT] ty #[.slice (some ⟨g,o,none⟩) dLen dCap,.slice A m c]).run P w= .ok (goInt xs.length) w'∧Av w' g t (l.take o++xs++l.drop (o+xs.length))∧Fr (fun k=>k=g) w w'∧w'.heap.size=w.heap.size:=by
 by_cases hx:xs= []
 ·subst hx
  refine⟨w,?_,by simpa using h,Fr.refl _ _,rfl⟩
  have hn:Nat.min m dLen=0:=hl.symm
  rw[run_copy_none w dT sT ty elem _ A dLen dCap m c hu hs hn]
  rfl
 ·obtain⟨b,off,rfl⟩:=hr.someA hx
  have hsrc:∀ j v,xs[j]? =some v→w.cell? ((⟨b,off,none⟩:Addr).add j)=some v:=by
   intro j v hj
   rcases hr with e|⟨b',o',e,hc⟩
   ·exact absurd e hx
   ·cases e
    rw[iM]
    exact hc j v hj
  refine⟨_,run_copy_row P w dT sT ty elem g o dLen dCap _ m c l.toArray t xs hu hs h hl hsrc (by simpa using hfit) h1,?_,?_,by simp⟩
  ·have:=setRow_heap w g l.toArray (l.take o++xs++l.drop (o+xs.length)).toArray t (0,0) h
   exact this
  ·exact⟨rfl,rfl,rfl,by simp,fun k _ hk=>setRow_other _ _ _ _ hk⟩
theorem Cq {P:Program} {w:World} {g:Nat} {t:TypeId} {l:List Value} (h:Av w g t l) (dT sT elem:TypeId) (hu:P.underlying dT=some (.slice elem)) (hs:(P.info? elem).map (·.size)=some 1) (off dLen dCap:Nat) (A:Option Addr) (m c:Nat) (xs:List Value)
  (hr:Rd w A xs) (hl:xs.length=min m dLen) (hfit:off+xs.length≤l.length) (h1:∀ v ∈ xs,v.oneCell'=true) (o:Oper) {ρ:Operand→Value} (d x:Operand) (ho:o.op= .call {callee:=.builtin .copy,args:=#[d,x],argTypes:=#[dT,sT]})
  (hd:ρ d= .slice (some ⟨g,off,none⟩) dLen dCap) (hx:ρ x= .slice A m c):
  ∃ w',(execOp ρ o).run P w= .ok (.value (goInt xs.length)) w'∧Av w' g t (l.take off++xs++l.drop (off+xs.length))∧Fr (fun k=>k=g) w w'∧w'.heap.size=w.heap.size:=by
 obtain⟨w',hrun,h2,h3,h4⟩:=Eg h dT sT o.type elem hu hs off dLen dCap A m c xs hr hl hfit h1
 refine⟨w',?_,h2,h3,h4⟩
 unfold execOp
 simp only[ho,resolve,invoke,builtin,Sem.run_bind,Sem.run_pure,Result.andThen_ok,List.map_toArray,List.map_cons,List.map_nil,hd,hx,hrun]
theorem Fr.ofDrew {S:Nat→Prop} {w w':World} (h:Fr S w.drew w'):Fr S w w':=⟨h.os,h.tape,h.output,h.size,h.block⟩
theorem Fr.transNew {S T:Nat→Prop} {a b c:World} (h:Fr S a b) (k:Fr T b c) (hT:∀ x,T x→S x∨a.heap.size≤x):Fr S a c:=
 ⟨k.os.trans h.os,k.tape.trans h.tape,k.output.trans h.output,Nat.le_trans h.size k.size,fun i hi hs=>(k.block i (Nat.lt_of_lt_of_le hi h.size) (fun ht=>(hT i ht).elim hs (fun h'=>by omega))).trans (h.block i hi hs)⟩
theorem bT {P:Program} {t e:TypeId} {size bytes:Nat} (ht:P.underlying t=some (.slice e)) (hi:(P.info? e).map (fun i=>(i.size,i.bytes))=some (size,bytes)) (hz:(P.info? e).map (fun i=>(i.zero.map (·.cells.size)))=some (some size)) (h0:0<size)
  {w:World} {base:Nat} {v:Value} {n:Nat} {xs:List Value} (hown:w.ownsRow base e size v n xs) (hbase:base≤w.heap.size) {A:Option Addr} (news:List Value) (m c:Nat) (hr:Rd w A news) (hl:news.length=m*size) (h1:∀ u ∈ news,u.oneCell'=true) (hm:n+m≤100000000) (hmb:(n+m)*bytes≤140737488355328)
  {ops:Array Oper} {rest:List Oper} {o:Oper} {a:Act} {Q:Exit→Act→World→Prop} (hgd:o.guard=none) (s x:Operand)
  (ho:o.op= .call {callee:=.builtin .append,args:=#[s,x],argTypes:=#[t,t]})
  (hs:a.eval s=v) (hx:a.eval x= .slice A m c)
  (h:∀ v' w',w'.ownsRow base e size v' (n+m) (xs++news)→w.grownBy w' v.ownBlock→(v'.ownBlock=v.ownBlock∨v'.ownBlock=some w.heap.size)→wpList P ops Q rest (a.put o.dst v') w'):wpList P ops Q (o :: rest) a w:=by
 obtain⟨i0,hi0,hz0⟩:=Option.map_eq_some_iff.1 hi
 obtain⟨i1,hi1,hz1⟩:=Option.map_eq_some_iff.1 hz
 obtain rfl:i1=i0:=by rw[hi0] at hi1;exact(Option.some.inj hi1).symm
 obtain⟨z,hz2,hz3⟩:=Option.map_eq_some_iff.1 hz1
 injection hz0 with hz4 hz5
 exact iU w hgd s x t ho base e i1 z size bytes ht hi0 hz2 hz4 hz5 hz3 h0 v n xs hs hown A m c news hx hl hr h1 (by simp only[maxLen];omega) hmb hbase h
theorem mE {P:Program} (ty:TypeId) {w:World} {g:Nat} {t:TypeId} {l:List Value} (h:Av w g t l) {ops:Array Oper} {rest:List Oper} {a:Act} {Q:Exit→Act→World→Prop} {d tp pos af} {x:Operand}
  (hx:a.eval x= .pointer (some ⟨g,0,none⟩)) (dd:TypeDesc) (n:Nat) (hn:l.length=n) (hu:P.underlying ty=some dd) (hd:(match dd with| .struct _| .array _ _=>true|_=>false)=true) (hi:(P.info? ty).map (·.size)=some n)
  (k:wpList P ops Q rest (a.put d (.agg l.toArray)) w):wpList P ops Q (⟨d,.load ty x,tp,pos,af,none⟩ :: rest) a w:=
 cZ h rfl ty x rfl hx dd n hn hu hd hi k
theorem fO {P:Program} (ty:TypeId) {w:World} {b off:Nat} (cs:List Value) (hc:w.rangeAt b off cs) {ops:Array Oper} {rest:List Oper} {a:Act} {Q:Exit→Act→World→Prop} {d tp pos af} {x:Operand}
  (hx:a.eval x= .pointer (some ⟨b,off,none⟩)) (dd:TypeDesc) (hu:P.underlying ty=some dd) (hd:dd.isRow=true) (hi:(P.info? ty).map (·.size)=some cs.length)
  (k:wpList P ops Q rest (a.put d (.agg cs.toArray)) w):wpList P ops Q (⟨d,.load ty x,tp,pos,af,none⟩ :: rest) a w:=
 eF rfl (bJ ty x rfl b off hx cs dd hc hu hd hi) k
theorem bF {P:Program} (ty:TypeId) {w w0:World} {B g:Nat} {t:TypeId} {old:Array Value} (hb:Below B w0 w) (h:w.heap[g]? =some (.cells old t (0,0))) (hB:B≤g) (l:List Value) {ops:Array Oper} {rest:List Oper} {a:Act} {Q:Exit→Act→World→Prop} {d tp pos af} {x y:Operand}
  (hx:a.eval x= .pointer (some ⟨g,0,none⟩)) (hy:a.eval y= .agg l.toArray) (n:Nat) (hn:l.length=n) (hi:(P.info? ty).map (·.size)=some n) (hold:old.size=n) (h1:l.all (·.oneCell')=true)
  (k:∀ w2,Av w2 g t l→Below B w0 w2→(∀ k,k≠g→w2.heap[k]? =w.heap[k]?)→w2.heap.size=w.heap.size→wpList P ops Q rest (a.put d undef) w2):wpList P ops Q (⟨d,.store ty x y,tp,pos,af,none⟩ :: rest) a w:=
 aP hb h hB rfl ty x y rfl hx l hy n hn hi hold h1 k
theorem dR {P:Program} (ty:TypeId) {w w0:World} {B g:Nat} {t:TypeId} {old:List Value} (hb:Below B w0 w) (h:Av w g t old) (hB:B≤g) (l:List Value) {ops:Array Oper} {rest:List Oper} {a:Act} {Q:Exit→Act→World→Prop} {d tp pos af} {x y:Operand}
  (hx:a.eval x= .pointer (some ⟨g,0,none⟩)) (hy:a.eval y= .agg l.toArray) (n:Nat) (hn:l.length=n) (hi:(P.info? ty).map (·.size)=some n) (hold:old.length=n) (h1:l.all (·.oneCell')=true)
  (k:∀ w2,Av w2 g t l→Below B w0 w2→(∀ k,k≠g→w2.heap[k]? =w.heap[k]?)→w2.heap.size=w.heap.size→wpList P ops Q rest (a.put d undef) w2):wpList P ops Q (⟨d,.store ty x y,tp,pos,af,none⟩ :: rest) a w:=
 aP hb h hB rfl ty x y rfl hx l hy n hn hi (by simpa using hold) h1 k
section
variable {P:Program} {ty:TypeId} {w w0:World} {B g:Nat} {t:TypeId} {ops:Array Oper} {rest:List Oper} {a:Act} {Q:Exit→Act→World→Prop} {d tp pos af} {x y:Operand}
theorem LF {l:List Value} (h:Av w g t l) (n:Nat) (hn:l.length=n) {dd:TypeDesc} (hu:P.underlying ty=some dd) (hx:a.eval x= .pointer (some ⟨g,0,none⟩)) (k:wpList P ops Q rest (a.put d (.agg l.toArray)) w) (hd:(match dd with| .struct _| .array _ _=>true|_=>false)=true:=by kernel_rfl) (hi:(P.info? ty).map (·.size)=some n:=by kernel_rfl):wpList P ops Q (⟨d,.load ty x,tp,pos,af,none⟩ :: rest) a w:=
 mE ty h hx dd n hn hu hd hi k
theorem LH {l:List Value} (h:Av w g t l) (n:Nat) {dd:TypeDesc} (hu:P.underlying ty=some dd) (hx:a.eval x= .pointer (some ⟨g,0,none⟩)) (k:wpList P ops Q rest (a.put d (.agg l.toArray)) w) (hn:l.length=n:=by kernel_rfl) (hd:(match dd with| .struct _| .array _ _=>true|_=>false)=true:=by kernel_rfl) (hi:(P.info? ty).map (·.size)=some n:=by kernel_rfl):wpList P ops Q (⟨d,.load ty x,tp,pos,af,none⟩ :: rest) a w:=
 mE ty h hx dd n hn hu hd hi k
theorem LM {cs:List Value} {b off:Nat} (hc:w.rangeAt b off cs) {dd:TypeDesc} (hu:P.underlying ty=some dd) (hx:a.eval x= .pointer (some ⟨b,off,none⟩)) (k:wpList P ops Q rest (a.put d (.agg cs.toArray)) w) (hd:dd.isRow=true:=by kernel_rfl) (hi:(P.info? ty).map (·.size)=some cs.length:=by kernel_rfl):wpList P ops Q (⟨d,.load ty x,tp,pos,af,none⟩ :: rest) a w:=
 fO ty cs hc hx dd hu hd hi k
theorem SF {old:List Value} (hb:Below B w0 w) (h:Av w g t old) (hB:B≤g) (l:List Value) (n:Nat) (hx:a.eval x= .pointer (some ⟨g,0,none⟩)) (hy:a.eval y= .agg l.toArray) (k:∀ w2,Av w2 g t l→Below B w0 w2→(∀ k,k≠g→w2.heap[k]? =w.heap[k]?)→w2.heap.size=w.heap.size→wpList P ops Q rest (a.put d undef) w2) (hn:l.length=n:=by kernel_rfl) (hi:(P.info? ty).map (·.size)=some n:=by kernel_rfl) (ho:old.length=n:=by kernel_rfl) (h1:l.all (·.oneCell')=true:=by kernel_rfl):wpList P ops Q (⟨d,.store ty x y,tp,pos,af,none⟩ :: rest) a w:=
 dR ty hb h hB l hx hy n hn hi ho h1 k
theorem SN {old:Array Value} (l:List Value) (n:Nat) (hx:a.eval x= .pointer (some ⟨w.heap.size,0,none⟩)) (hy:a.eval y= .agg l.toArray) (k:∀ w2,Av w2 w.heap.size t l→Below w.heap.size w w2→(∀ k,k≠w.heap.size→w2.heap[k]? =(w.alloc (.cells old t)).heap[k]?)→w2.heap.size=(w.alloc (.cells old t)).heap.size→wpList P ops Q rest (a.put d undef) w2) (hn:l.length=n:=by kernel_rfl) (hi:(P.info? ty).map (·.size)=some n:=by kernel_rfl) (ho:old.size=n:=by kernel_rfl) (h1:l.all (·.oneCell')=true:=by kernel_rfl):wpList P ops Q (⟨d,.store ty x y,tp,pos,af,none⟩ :: rest) a (w.alloc (.cells old t)):=
 bF ty ((Below.refl _ _).alloc (Nat.le_refl _) _) (heap_alloc_new _ _) (Nat.le_refl _) l hx hy n hn hi ho h1 k
end
end Go.Proofs.YtobjgebojhjhnaaGreatDoor
