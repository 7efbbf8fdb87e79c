import Derived.Test.YtobjgebojhjhnaaGreatDoorChecked
import Derived.WalkKit
import Derived.WalkSpells
import Derived.WalkLawsBesides
import Derived.Lib.Hide
import Derived.Maps.AppendAt
import Derived.Test.YtobjgebojhjhnaaGreatDoorRel
namespace Go.Proofs.YtobjgebojhjhnaaGreatDoor
open Go.RowKit
abbrev bv (b:UInt8):Value:=.int .u8 (b.toNat:Int)
def Rd (w:World) (A:Option Addr) (xs:List Value):Prop:=
 xs= []∨∃ b off,A=some ⟨b,off,none⟩∧ ∀ j u,xs[j]? =some u→w.cell? ⟨b,off+j,none⟩=some u
theorem Rd.nil (w:World) (A:Option Addr):Rd w A []:=.inl rfl
theorem Rd.keep {w w':World} {A:Option Addr} {xs:List Value} (h:Rd w A xs) (hk:∀ b o v,w.cell? ⟨b,o,none⟩=some v→w'.cell? ⟨b,o,none⟩=some v):Rd w' A xs:=by
 rcases h with h|⟨b,off,hA,hc⟩
 ·exact .inl h
 ·exact .inr ⟨b,off,hA,fun j u hu=>hk _ _ _ (hc j u hu)⟩
theorem Rd.b {w w':World} {A:Option Addr} {xs:List Value} (h:Rd w A xs) (hb:Below w.heap.size w w'):Rd w' A xs:=
 h.keep fun b o _ hv=>(hb.cell (p:=⟨b,o,none⟩) (World.block_lt_of_cell? w _ hv)).trans hv
theorem Rd.drop {w:World} {b off:Nat} {xs:List Value} (h:Rd w (some ⟨b,off,none⟩) xs) (k:Nat):Rd w (some ⟨b,off+k,none⟩) (xs.drop k):=by
 rcases h with h|⟨b',off',hA,hc⟩
 ·exact .inl (by simp[h])
 ·cases hA
  refine .inr ⟨_,_,rfl,fun j u hu=>?_⟩
  rw[List.getElem?_drop] at hu
  rw[Nat.add_assoc]
  exact hc _ u hu
theorem Rd.take {w:World} {A:Option Addr} {xs:List Value} (h:Rd w A xs) (k:Nat):Rd w A (xs.take k):=by
 rcases h with h|⟨b',off',hA,hc⟩
 ·exact .inl (by simp[h])
 ·refine .inr ⟨_,_,hA,fun j u hu=>?_⟩
  rw[List.getElem?_take] at hu
  split at hu
  ·exact hc _ u hu
  ·cases hu
theorem Rd.cons {w:World} {A:Option Addr} {x:Value} {xs:List Value} (h:Rd w A (x :: xs)):
  ∃ b off,A=some ⟨b,off,none⟩∧ ∀ j u,(x :: xs)[j]? =some u→w.cell? ⟨b,off+j,none⟩=some u:=by
 rcases h with h|h
 ·cases h
 ·exact h
theorem Rd.someA {w:World} {A:Option Addr} {xs:List Value} (h:Rd w A xs) (hx:xs≠ []):∃ b off,A=some ⟨b,off,none⟩:=by
 rcases h with h|⟨b,off,hA,_⟩
 ·exact absurd h hx
 ·exact⟨b,off,hA⟩
theorem Rd.lt {w:World} {A:Option Addr} {xs:List Value} (h:Rd w A xs) (hx:xs≠ []) (a:Addr) (ha:A=some a):a.block<w.heap.size:=by
 rcases h with e|⟨b,off,e,hc⟩
 ·exact absurd e hx
 ·rw[e] at ha;cases ha
  obtain⟨x,xs',rfl⟩:=List.exists_cons_of_ne_nil hx
  exact World.block_lt_of_cell? w _ (hc 0 x rfl)
theorem Hy {p : Prop} (h : p) : Hid p := Lib.hid h
theorem Nm {α : Type _} (x : α) : ∃ y, y = x := ⟨x, rfl⟩
theorem KR {p:Prop} (h:p:=by kernel_rfl):p:=h
theorem OM {p:Prop} (h:p:=by omega):p:=h
theorem DC {p:Prop} (h:p:=by decide):p:=h
theorem LR {n:Nat}:n≤n:=Nat.le_refl n
theorem zG {p:Prop} (h:p:=by go_simp;first|done|rfl|omega):p:=h
theorem vR {p:Prop} (h:p:=by intro w _;go_simp;first|done|rfl):p:=h
theorem zJ {p:Prop} (h:p:=by intro w _;go_simp;first|done|rfl|omega):p:=h
theorem zI {p:Prop} (h:p:=by intro p hp;cases hp):p:=h
theorem pB {p:Prop} (h:p:=by conv=>lhs;whnf):p:=h
theorem bM {p:Prop} (h:p:=by rfl):p:=h
theorem zS {p:Prop} (h:p:=by simp):p:=h
theorem zU {p:Prop} (h:p:=by simp;omega):p:=h
theorem zV {p:Prop} (h:p:=by first|assumption|omega):p:=h
abbrev SS:=Tryz.underlying35
abbrev SU:=Tryz.underlying151
abbrev SV:=Tryz.underlying158
abbrev SY:=Tryz.underlying26
abbrev SZ:=Tryz.underlying51
abbrev Ta:=Tryz.underlying47
abbrev Tb:=Tryz.underlying37
abbrev Tc:=Tryz.underlying27
abbrev Td:=Tryz.underlying112
abbrev Te:=Tryz.underlying232
abbrev Tf:=Tryz.underlying111
abbrev Tg:=Tryz.underlying63
abbrev Ti:=Tryz.underlying32
abbrev Tj:=Tryz.underlying23
abbrev Tk:=Tryz.underlying74
abbrev Tl:=Tryz.underlying5
abbrev Tm:=Tryz.underlying234
abbrev Tn:=Tryz.underlying77
abbrev To:=Tryz.underlying22
abbrev Tp:=Tryz.underlying28
abbrev Tr:=Tryz.underlying154
abbrev Ts:=Tryz.underlying209
abbrev Tt:=Tryz.underlying24
abbrev Tu:=Tryz.underlying202
abbrev Tv:=Tryz.underlying3
abbrev Tw:=Tryz.underlying49
abbrev Tx:=Tryz.underlying245
abbrev Ty:=Tryz.underlying125
abbrev Tz:=Tryz.underlying253
abbrev TA:=Tryz.underlying91
abbrev TB:=Tryz.underlying94
abbrev TC:=Tryz.underlying84
open Go.RowKit Tryz
theorem iM (b off j:Nat):(⟨b,off,none⟩:Addr).add j=⟨b,off+j,none⟩:=by
 unfold Addr.add
 split
 ·rename_i h;subst h;rfl
 ·rfl
section
variable {P:Program} (w:World)
theorem yL (base:Nat) (t ty e:TypeId) (i:TypeInfo) (z:Value) (size bytes:Nat) (ht:P.underlying t=some (.slice e)) (hi:P.info? e=some i) (hz:i.zero=some z)
  (hsize:i.size=size) (hby:i.bytes=bytes) (hzs:z.cells.size=size) (hsz:0<size)
  (v:Value) (n:Nat) (xs:List Value) (hown:w.ownsRow base e size v n xs)
  (A:Option Addr) (m c:Nat) (news:List Value) (hl:news.length=m*size) (hr:Rd w A news) (h1:∀ u ∈ news,u.oneCell'=true)
  (hm:n+m≤maxLen) (hbytes:(n+m)*bytes≤140737488355328) (hbase:base≤w.heap.size):
  ∃ v' w',(Builtin.append_ #[t,t] ty #[v,.slice A m c]).run P w= .ok v' w'∧w'.ownsRow base e size v' (n+m) (xs++news)∧w.grownBy w' v.ownBlock∧
   (v'.ownBlock=v.ownBlock∨v'.ownBlock=some w.heap.size):=by
 rcases A with _|ad
 ·rcases hr with hr|⟨_,_,hr,_⟩
  ·subst hr
   have hm0:m=0:=by
    rcases Nat.eq_zero_or_pos m with h|h
    ·exact h
    ·have:=Nat.mul_pos h hsz
     simp at hl
     omega
   subst hm0
   refine⟨v,w,?_,by simpa using hown,World.grownBy.refl w _,.inl rfl⟩
   rcases hown.2 with ⟨rfl,rfl⟩|⟨g,cap,cur,rfl,_,_,hnc,_⟩
   ·simp[Builtin.append_,run_underlying ht,sizeOf,typeInfo,hi,Builtin.lenOf,Builtin.firstCells]
   ·simp[Builtin.append_,run_underlying ht,sizeOf,typeInfo,hi,Builtin.lenOf,Builtin.firstCells,hnc,storeCells]
  ·cases hr
 ·have hcells:∀ j u,news[j]? =some u→w.cell? (ad.add j)=some u:=by
   intro j u hu
   rcases hr with hr|⟨b,off,hA,hc⟩
   ·subst hr;simp at hu
   ·cases hA
    rw[iM]
    exact hc j u hu
  obtain⟨v',w',hrun,h2,h3,_,h5⟩:=run_append_own_at (P:=P) w base t ty e i z size bytes ht hi hz hsize hby hzs hsz v n xs hown ad m c news hl hcells h1 hm hbytes hbase
  exact⟨v',w',hrun,h2,h3,h5⟩
theorem AQ {o:Oper} {a:Act} {K:Act→World→Prop} {Q:Exit→Act→World→Prop} (s x:Operand) (t:TypeId)
  (ho:o.op= .call {callee:=.builtin .append,args:=#[s,x],argTypes:=#[t,t]})
  (base:Nat) (e:TypeId) (i:TypeInfo) (z:Value) (size bytes:Nat) (ht:P.underlying t=some (.slice e)) (hi:P.info? e=some i) (hz:i.zero=some z)
  (hsize:i.size=size) (hby:i.bytes=bytes) (hzs:z.cells.size=size) (hsz:0<size)
  (v:Value) (n:Nat) (xs:List Value) (hs:a.eval s=v) (hown:w.ownsRow base e size v n xs)
  (A:Option Addr) (m c:Nat) (news:List Value) (hx:a.eval x= .slice A m c) (hl:news.length=m*size) (hr:Rd w A news) (h1:∀ u ∈ news,u.oneCell'=true)
  (hm:n+m≤maxLen) (hbytes:(n+m)*bytes≤140737488355328) (hbase:base≤w.heap.size)
  (h:∀ v' w',w'.ownsRow base e size v' (n+m) (xs++news)→w.grownBy w' v.ownBlock→(v'.ownBlock=v.ownBlock∨v'.ownBlock=some w.heap.size)→K (a.put o.dst v') w'):o.wp P a w K Q:=by
 obtain⟨v',w',hrun,h2,h3,h4⟩:=yL (P:=P) w base t o.type e i z size bytes ht hi hz hsize hby hzs hsz v n xs hown A m c news hl hr h1 hm hbytes hbase
 unfold Oper.wp execOp
 simp only[ho,resolve,invoke,builtin,Sem.run_bind,Sem.run_pure,Result.andThen_ok,List.map_toArray,List.map_cons,List.map_nil,hs,hx,hrun]
 exact h v' w' h2 h3 h4
theorem iU {ops:Array Oper} {rest:List Oper} {o:Oper} {a:Act} {Q:Exit→Act→World→Prop} (hgd:o.guard=none) (s x:Operand) (t:TypeId)
  (ho:o.op= .call {callee:=.builtin .append,args:=#[s,x],argTypes:=#[t,t]})
  (base:Nat) (e:TypeId) (i:TypeInfo) (z:Value) (size bytes:Nat) (ht:P.underlying t=some (.slice e)) (hi:P.info? e=some i) (hz:i.zero=some z)
  (hsize:i.size=size) (hby:i.bytes=bytes) (hzs:z.cells.size=size) (hsz:0<size)
  (v:Value) (n:Nat) (xs:List Value) (hs:a.eval s=v) (hown:w.ownsRow base e size v n xs)
  (A:Option Addr) (m c:Nat) (news:List Value) (hx:a.eval x= .slice A m c) (hl:news.length=m*size) (hr:Rd w A news) (h1:∀ u ∈ news,u.oneCell'=true)
  (hm:n+m≤maxLen) (hbytes:(n+m)*bytes≤140737488355328) (hbase:base≤w.heap.size)
  (h:∀ v' w',w'.ownsRow base e size v' (n+m) (xs++news)→w.grownBy w' v.ownBlock→(v'.ownBlock=v.ownBlock∨v'.ownBlock=some w.heap.size)→wpList P ops Q rest (a.put o.dst v') w'):wpList P ops Q (o :: rest) a w:=
 wpList_plain hgd fun _ hK=>AQ w s x t ho base e i z size bytes ht hi hz hsize hby hzs hsz v n xs hs hown A m c news hx hl hr h1 hm hbytes hbase fun v' w' h2 h3 h4=>hK _ _ (h v' w' h2 h3 h4)
end
theorem vS:(prog.info? 5).map (fun i=>(i.zero,i.size,i.bytes))=some (some (.int .u8 0),1,1):=by kernel_rfl
def cE (w:World) (base:Nat) (v:Value) (xs:List UInt8):Prop:=w.ownsRow base 5 1 v xs.length (xs.map bv)
theorem dB (xs:List UInt8):∀ u ∈ xs.map bv,u.oneCell'=true:=by
 intro u hu
 simp only[List.mem_map] at hu
 obtain⟨b,_,rfl⟩:=hu
 rfl
theorem Rd.one (w:World) (x:Value) (t:TypeId):Rd (w.alloc (.cells #[x] t)) (some ⟨w.heap.size,0,none⟩) [x]:=by
 refine .inr ⟨_,_,rfl,fun j u hu=>?_⟩
 have:=cell_one_new w x t j u hu
 rwa [iM] at this
theorem cE.rd {w:World} {base:Nat} {A:Option Addr} {n c:Nat} {xs:List UInt8} (h:cE w base (.slice A n c) xs):Rd w A (xs.map bv):=by
 unfold cE at h
 rcases h.2 with ⟨e,e0⟩|⟨g,cap,cur,e,hb,hg,_⟩
 ·have:xs= []:=List.eq_nil_of_length_eq_zero e0
  subst this
  exact .inl rfl
 ·injection e with e1 e2 e3
  subst e1
  refine .inr ⟨_,_,rfl,fun j u hu=>?_⟩
  have:=h.cells (g:=g) rfl j u hu
  rwa [iM] at this
theorem cE.form {w:World} {base:Nat} {v:Value} {xs:List UInt8} (h:cE w base v xs):∃ A c,v= .slice A xs.length c∧xs.length≤c∧c≤maxLen:=by
 unfold cE at h
 rcases h.2 with ⟨e,e0⟩|⟨g,cap,cur,e,hb,hg,hc,hm,_⟩
 ·exact⟨none,0,by rw[e,e0],by omega,by simp[maxLen]⟩
 ·exact⟨_,cap,e,hc,hm⟩
theorem cE.formN {w:World} {base:Nat} {v:Value} {xs:List UInt8} (h:cE w base v xs) (n:Nat) (hn:xs.length=n):∃ A c,v= .slice A n c∧n≤c∧c≤maxLen:=by
 subst hn
 exact h.form
theorem cE.nil (w:World) (base:Nat):cE w base (.slice none 0 0) []:=World.ownsRow_nil w base _ _
theorem cE.made (w:World) (base:Nat) (hb:base≤w.heap.size) (cur:Array Value) (cap:Nat) (hm:cap≤maxLen) (hs:cur.size=cap):
  cE (w.alloc (.cells cur 5)) base (.slice (some ⟨w.heap.size,0,none⟩) 0 cap) []:=
 World.ownsRow_made w cur cap hb hm OM
theorem cE.b {w w':World} {base:Nat} {v:Value} {xs:List UInt8} (h:cE w base v xs) (hb:Below w.heap.size w w'):cE w' base v xs:=by
 unfold cE at h ⊢
 exact h.kept (row:=none) ⟨hb.os,hb.tape,hb.output,hb.size,fun k hk _=>hb.block k hk⟩ (by cases v.ownBlock <;> simp)
theorem cE.alloc {w:World} {base:Nat} {v:Value} {xs:List UInt8} (h:cE w base v xs) (o:Obj):cE (w.alloc o) base v xs:=World.ownsRow.alloc h o
theorem cE.lt {w:World} {base:Nat} {v:Value} {xs:List UInt8} (h:cE w base v xs):∀ k,v.ownBlock=some k→base≤k∧k<w.heap.size:=World.ownsRow.lt h
theorem GE {w0 w w':World} {base:Nat} {v:Value} {xs:List UInt8} (hb:Below base w0 w) (h:cE w base v xs) (hg:w.grownBy w' v.ownBlock) (hbase:base≤w.heap.size):Below base w0 w':=
 hb.grown hg hbase fun k hk=>(h.lt k hk).1
theorem Xm147 {p q:Prop} (k:q) (h:Hid q→p:=by
 intro hk
 obtain⟨i0,hi,hz0,hz1,hz2⟩:=info_parts vS
 refine iU w hgd s x 27 ho base 5 i0 (.int .u8 0) 1 1 Tc hi hz0 hz1 hz2 rfl DC v xs.length (xs.map bv) hs hown
  A m c (bs.map bv) hx (by simp[hl]) hr (dB bs) (by simp only[maxLen];omega) OM hbase ?_
 intro v' w' h1 h2 h3
 revert i0 hi hz0 hz1 hz2 v' w' h1 h2 h3;exact hk.out):p:=h (Hy k)
theorem aQ {w0 w:World} {base:Nat} {v:Value} {xs:List UInt8} (hown:cE w base v xs) (hb:Below base w0 w) (hbase:base≤w.heap.size)
  {A:Option Addr} {bs:List UInt8} (m c:Nat) (hr:Rd w A (bs.map bv)) (hl:bs.length=m) (hm:xs.length+m≤140737488355328)
  {ops:Array Oper} {rest:List Oper} {o:Oper} {a:Act} {Q:Exit→Act→World→Prop} (hgd:o.guard=none) (s x:Operand)
  (ho:o.op= .call {callee:=.builtin .append,args:=#[s,x],argTypes:=#[27,27]})
  (hs:a.eval s=v) (hx:a.eval x= .slice A m c)
  (h:∀ v' w',cE w' base v' (xs++bs)→Below base w0 w'→w.heap.size≤w'.heap.size→w.grownBy w' v.ownBlock→wpList prog ops Q rest (a.put o.dst v') w'):wpList prog ops Q (o :: rest) a w:=by
 refine Xm147 ?_;intro i0 hi hz0 hz1 hz2 v' w' h1 h2 h3
 refine h v' w' ?_ (GE hb hown h2 hbase) h2.size h2
 unfold cE
 rw[List.length_append,List.map_append,hl]
 exact h1
theorem dL {w0 w:World} {base:Nat} {v:Value} {xs:List UInt8} (hown:cE w base v xs) (hb:Below base w0 w) (hbase:base≤w.heap.size)
  (b:UInt8) {y:Int} (hy:y=b.toNat) (hm:xs.length+1≤140737488355328)
  {ops:Array Oper} {rest:List Oper} {o:Oper} {a:Act} {Q:Exit→Act→World→Prop} (hgd:o.guard=none) (s x:Operand)
  (ho:o.op= .call {callee:=.builtin .append,args:=#[s,x],argTypes:=#[27,27]})
  (hs:a.eval s=v) (hx:a.eval x= .slice (some ⟨w.heap.size,0,none⟩) 1 1)
  (h:∀ v' w',cE w' base v' (xs++ [b])→Below base w0 w'→w.heap.size≤w'.heap.size→wpList prog ops Q rest (a.put o.dst v') w'):wpList prog ops Q (o :: rest) a (w.alloc (.cells #[.int .u8 y] 5)):=by
 subst hy
 refine aQ (hown.alloc _) (hb.alloc hbase _) zU (bs:=[b]) 1 1 (Rd.one _ _ _) rfl hm hgd s x ho hs hx ?_
 intro v' w' h1 h2 h3 _
 exact h v' w' h1 h2 (by simp at h3;omega)
end Go.Proofs.YtobjgebojhjhnaaGreatDoor
namespace Go.Proofs.YtobjgebojhjhnaaGreatDoor
open Go.RowKit
def cI (w w':World):Prop:=Below w.heap.size w w'
theorem cI.refl (w:World):cI w w:=Below.refl _ _
theorem cI.trans (a b c:World) (h:cI a b) (k:cI b c):cI a c:=Below.trans h (k.mono h.size)
theorem cI.drew {a b:World} (h:cI a.drew b):cI a b:=⟨h.os,h.tape,h.output,h.size,h.block⟩
theorem cI.b {a b:World} (h:cI a b):Below a.heap.size a b:=h
def FF (l:List Value):Operand→Value
 | .tmp t=>l.getD t undef
 | .const v=>v
 | .global g=>.pointer (some ⟨g,0,none⟩)
 | .func f=>.func (.func f) #[] #[]
theorem jG (l:List Value) (d:List Deferred) (x:Operand):Act.eval ⟨l.toArray,d⟩ x=FF l x:=by
 cases x with
 |tmp t=>simp[Act.eval,FF]
 |_=>rfl
def vJ (ops:Array Oper) (o:Oper) (l:List Value):Option Bool:=
 match o.guard with
 |none=>some true
 |some (j,b)=>match bG ops j with
  |some t=>match l[t]? with
   |some (.bool v)=>some (v==b)
   |_=>none
  |none=>none
theorem iO {ops:Array Oper} {o:Oper} {l:List Value} {r:Bool} (h:vJ ops o l=some r):Region.wanted o (yielded ops l.toArray)=r:=by
 unfold vJ at h
 unfold Region.wanted
 cases hg:o.guard with
 |none=>rw[hg] at h;simpa using h
 |some g=>
  obtain⟨j,b⟩:=g
  rw[hg] at h
  dsimp only at h ⊢
  unfold bG at h
  unfold yielded
  cases hd:(ops[j]?).bind (·.dst) with
  |none=>rw[hd] at h;cases h
  |some t=>
   rw[hd] at h
   dsimp only at h ⊢
   simp only[Option.bind_some,List.getElem?_toArray]
   cases hl:l[t]? with
   |none=>rw[hl] at h;cases h
   |some v=>
    rw[hl] at h
    cases v <;> first|(cases h;done)|skip
    simp only[Option.some.injEq] at h
    subst h
    simp
theorem pF (l:List Value) (d:List Deferred) (t:Nat) (v:Value):Act.put ⟨l.toArray,d⟩ (some t) v=⟨(l.set t v).toArray,d⟩:=by
 simp[Act.put]
section
variable {P:Program} {ops:Array Oper} {R:World→World→Prop} {Q:Exit→Act→World→Prop} {w0:World} {L:List (Nat × VP)} {i:Nat} {o:Oper} {rest:List Oper} {l l':List Value} {d:List Deferred}
theorem aM {D:Nat→Bool} {w:World} {K:Act→Prop}:∀ {L:List (Nat × VP)} {a:Act},(L.all fun p=>!D p.1)=true→K a→cV ops D w K L a
 | [],_,_,h=>h
 |(j,phi) :: r,a,hD,h=>by
  simp only[List.all_cons,Bool.and_eq_true,Bool.not_eq_true'] at hD
  unfold cV
  rw[if_neg (by simp[hD.1])]
  exact aM hD.2 h
theorem PQ (hL:L.lookup i=none) (hD:(L.all fun p=>!bP ops o p.1)=true) (hw:vJ ops o l=some true) {t:Nat} (ht:o.dst=some t) {c:Value}
  (h:∀ w,R w0 w→pD P R w (fun v _=>v=c) ((execOp (Act.eval ⟨l.toArray,d⟩) o).run P w)) (hl:l.set t c=l') (k:bK P ops R Q w0 L (i+1) rest ⟨l'.toArray,d⟩):bK P ops R Q w0 L i (o :: rest) ⟨l.toArray,d⟩:=by
 subst hl
 unfold bK
 rw[hL]
 refine⟨c,fun w hR=>aM hD ?_,?_⟩
 ·unfold dZ
  rw[if_pos (iO hw)]
  exact h w hR
 ·rw[ht,pF]
  exact k
theorem LC (hL:L.lookup i=none) (hD:(L.all fun p=>!bP ops o p.1)=true) (hw:vJ ops o l=some false) {t:Nat} (ht:o.dst=some t)
  (hl:l.set t undef=l') (k:bK P ops R Q w0 L (i+1) rest ⟨l'.toArray,d⟩):bK P ops R Q w0 L i (o :: rest) ⟨l.toArray,d⟩:=by
 subst hl
 unfold bK
 rw[hL]
 refine⟨undef,fun w hR=>aM hD ?_,?_⟩
 ·unfold dZ
  rw[iO hw]
  exact rfl
 ·rw[ht,pF]
  exact k
theorem cT (hR:∀ w,R w w) (hL:L.lookup i=none) (hD:(L.all fun p=>!bP ops o p.1)=true) (hw:vJ ops o l=some true) {t:Nat} (ht:o.dst=some t) {c:Value}
  (h:∀ w,R w0 w→(execOp (Act.eval ⟨l.toArray,d⟩) o).run P w= .ok (.value c) w) (hl:l.set t c=l') (k:bK P ops R Q w0 L (i+1) rest ⟨l'.toArray,d⟩):bK P ops R Q w0 L i (o :: rest) ⟨l.toArray,d⟩:=
 PQ hL hD hw ht (fun w hw'=>by rw[h w hw'];exact⟨hR w,rfl⟩) hl k
theorem vT (hR:∀ w,R w w) (hL:L.lookup i=none) (hD:(L.all fun p=>!bP ops o p.1)=true) (hw:vJ ops o l=some true) {t:Nat} (ht:o.dst=some t) (x:Operand) (ho:o.op= .move x∨o.op= .assign x) {c:Value} (hc:FF l x=c)
  (hl:l.set t c=l') (k:bK P ops R Q w0 L (i+1) rest ⟨l'.toArray,d⟩):bK P ops R Q w0 L i (o :: rest) ⟨l.toArray,d⟩:=by
 refine cT hR hL hD hw ht (fun w _=>?_) hl k
 subst hc
 rw[← jG l d]
 rcases ho with ho|ho <;> (unfold execOp;rw[ho];rfl)
theorem nJ (hR:∀ w,R w w) (hL:L.lookup i=none) (hD:(L.all fun p=>!bP ops o p.1)=true) (hw:vJ ops o l=some true) {t:Nat} (ht:o.dst=some t) (z x y:Operand) (ho:o.op= .pick z x y) {b:Bool} (hb:FF l z= .bool b) {c:Value} (hc:(if b then FF l x else FF l y)=c)
  (hl:l.set t c=l') (k:bK P ops R Q w0 L (i+1) rest ⟨l'.toArray,d⟩):bK P ops R Q w0 L i (o :: rest) ⟨l.toArray,d⟩:=by
 refine cT hR hL hD hw ht (fun w _=>?_) hl k
 subst hc
 rw[← jG l d] at hb
 rw[← jG l d,← jG l d]
 have e:execOp (Act.eval ⟨l.toArray,d⟩) o=(do let b ← asBool (Act.eval ⟨l.toArray,d⟩ z);pure (.value (if b then Act.eval ⟨l.toArray,d⟩ x else Act.eval ⟨l.toArray,d⟩ y))):=by
  unfold execOp
  rw[ho]
 rw[e,hb]
 rfl
theorem jN (hR:∀ w,R w w) (hL:L.lookup i=none) (hD:(L.all fun p=>!bP ops o p.1)=true) (hw:vJ ops o l=some true) {t:Nat} (ht:o.dst=some t) (op:BinOp) (ty ty':TypeId) (x y:Operand) (ho:o.op= .binOp op ty x y ty')
  {X Y:Value} (hx:FF l x=X) (hy:FF l y=Y) {c:Value} (h:∀ w,((do eqGuard op ty x y X Y;binOp op ty X Y:Sem Value)).run P w= .ok c w)
  (hl:l.set t c=l') (k:bK P ops R Q w0 L (i+1) rest ⟨l'.toArray,d⟩):bK P ops R Q w0 L i (o :: rest) ⟨l.toArray,d⟩:=by
 refine cT hR hL hD hw ht (fun w _=>?_) hl k
 have e:execOp (Act.eval ⟨l.toArray,d⟩) o=(do pure (.value (← (do eqGuard op ty x y (Act.eval ⟨l.toArray,d⟩ x) (Act.eval ⟨l.toArray,d⟩ y);binOp op ty (Act.eval ⟨l.toArray,d⟩ x) (Act.eval ⟨l.toArray,d⟩ y))))):=by
  unfold execOp
  rw[ho]
 rw[e,jG,jG,hx,hy,Sem.run_bind,h w]
 rfl
theorem AV (phi:VP) (hL:L.lookup i=some phi) (hD:(L.all fun p=>!bP ops o p.1)=true) (hw:vJ ops o l=some true) (f:FuncId) (args:Array Value)
  (he:∀ w,(execOp (Act.eval ⟨l.toArray,d⟩) o).run P w= .ok (.enter f args) w)
  (h:∀ w,R w0 w→Calls P f args w fun e w'=>∃ v,e= .returned v∧R w w'∧phi v w') (k:bK P ops R Q w0 L (i+1) rest ⟨l.toArray,d⟩):bK P ops R Q w0 L i (o :: rest) ⟨l.toArray,d⟩:=by
 unfold bK
 rw[hL]
 refine⟨fun w hR=>aM hD ?_,k⟩
 unfold dZ
 rw[if_pos (iO hw),he w]
 exact h w hR
theorem tA (hL:L.lookup i=none) (hD:(L.all fun p=>!bP ops o p.1)=true) (hw:vJ ops o l=some true) {t:Nat} (ht:o.dst=some t) {c:Value} (f:FuncId) (args:Array Value)
  (he:∀ w,(execOp (Act.eval ⟨l.toArray,d⟩) o).run P w= .ok (.enter f args) w)
  (h:∀ w,R w0 w→Calls P f args w fun e w'=>e= .returned c∧R w w') (hl:l.set t c=l') (k:bK P ops R Q w0 L (i+1) rest ⟨l'.toArray,d⟩):bK P ops R Q w0 L i (o :: rest) ⟨l.toArray,d⟩:=
 PQ hL hD hw ht (fun w hw'=>by
  rw[he w]
  exact(h w hw').mono fun e w' ⟨h1,h2⟩=>⟨c,h1,h2,rfl⟩) hl k
theorem aF {D:Nat→Bool} {w:World} {K:Act→Prop} {a:Act} (h:K a):cV ops D w K [] a:=h
theorem bN {D:Nat→Bool} {w:World} {K:Act→Prop} {a:Act} {j:Nat} {phi:VP} {r:List (Nat × VP)} (hD:D j=false) (h:cV ops D w K r a):cV ops D w K ((j,phi) :: r) a:=by
 unfold cV
 rw[hD]
 exact h
theorem aC {D:Nat→Bool} {w:World} {K:Act→Prop} {j:Nat} {phi:VP} {r:List (Nat × VP)} {t:Nat} (ht:bG ops j=some t) (hD:D j=true)
  (h:∀ v,phi v w→cV ops D w K r ⟨(l.set t v).toArray,d⟩):cV ops D w K ((j,phi) :: r) ⟨l.toArray,d⟩:=by
 unfold cV
 rw[hD]
 intro v hv
 rw[ht,pF]
 exact h v hv
theorem bI {w:World} {ok:VP} (hw:vJ ops o l=some true) (h:pD P R w ok ((execOp (Act.eval ⟨l.toArray,d⟩) o).run P w)):dZ P ops R o ⟨l.toArray,d⟩ w ok:=by
 unfold dZ
 rw[if_pos (iO hw)]
 exact h
theorem rY (hL:L.lookup i=none) {t:Nat} (ht:o.dst=some t) {c:Value}
  (h:∀ w,R w0 w→cV ops (bP ops o) w (fun a'=>dZ P ops R o a' w (fun v _=>v=c)) L ⟨l.toArray,d⟩) (hl:l.set t c=l')
  (k:bK P ops R Q w0 L (i+1) rest ⟨l'.toArray,d⟩):bK P ops R Q w0 L i (o :: rest) ⟨l.toArray,d⟩:=by
 subst hl
 unfold bK
 rw[hL]
 refine⟨c,h,?_⟩
 rw[ht,pF]
 exact k
theorem cO (phi:VP) (hL:L.lookup i=some phi)
  (h:∀ w,R w0 w→cV ops (bP ops o) w (fun a'=>dZ P ops R o a' w phi) L ⟨l.toArray,d⟩)
  (k:bK P ops R Q w0 L (i+1) rest ⟨l.toArray,d⟩):bK P ops R Q w0 L i (o :: rest) ⟨l.toArray,d⟩:=by
 unfold bK
 rw[hL]
 exact⟨h,k⟩
theorem bO {a:Act} (h:∀ w,R w0 w→cV ops (fun _=>true) w (fun a'=>Q .normal a' w) L a):bK P ops R Q w0 L i [] a:=h
end
def Ee (cs:List Value):VP:=fun v w=>∃ A,v= .slice A 1 1∧Rd w A cs
theorem Ee.mono {cs:List Value} {v:Value} {w w':World} (h:cI w w'):Ee cs v w→Ee cs v w':=by
 rintro⟨A,rfl,hr⟩
 exact⟨A,rfl,hr.b h⟩
theorem Zs {α:Type}:(∀ (a b:α) (l:List α) (n:Nat),(a :: l).set (n+1) b=a :: l.set n b)∧ ∀ (a b:α) (l:List α),(a :: l).set 0 b=b :: l:=⟨fun _ _ _ _=>rfl,fun _ _ _=>rfl⟩
section
variable {P:Program} {ops:Array Oper} {R:World→World→Prop} {Q:Exit→Act→World→Prop} {w0:World} {L:List (Nat × VP)} {i:Nat} {o:Oper} {rest:List Oper} {l l':List Value} {d:List Deferred} {t:Nat} {c:Value}
theorem ZM {x:Operand} (k:bK P ops cI Q w0 L (i+1) rest ⟨l'.toArray,d⟩) (hL:L.lookup i=none:=by exact rfl) (hD:(L.all fun p=>!bP ops o p.1)=true:=by exact rfl) (hw:vJ ops o l=some true:=by exact rfl) (ht:o.dst=some t:=by exact rfl) (ho:o.op= .move x∨o.op= .assign x:=by first|exact .inl rfl|exact .inr rfl) (hc:FF l x=c:=by conv=>lhs;whnf) (hl:l.set t c=l':=by simp only[Zs];rfl):bK P ops cI Q w0 L i (o :: rest) ⟨l.toArray,d⟩:=
 vT cI.refl hL hD hw ht x ho hc hl k
theorem ZP (h:∀ w,cI w0 w→(execOp (Act.eval ⟨l.toArray,d⟩) o).run P w= .ok (.value c) w) (k:bK P ops cI Q w0 L (i+1) rest ⟨l'.toArray,d⟩) (hL:L.lookup i=none:=by exact rfl) (hD:(L.all fun p=>!bP ops o p.1)=true:=by exact rfl) (hw:vJ ops o l=some true:=by exact rfl) (ht:o.dst=some t:=by exact rfl) (hl:l.set t c=l':=by simp only[Zs];rfl):bK P ops cI Q w0 L i (o :: rest) ⟨l.toArray,d⟩:=
 cT cI.refl hL hD hw ht h hl k
theorem ZS (k:bK P ops R Q w0 L (i+1) rest ⟨l'.toArray,d⟩) (hL:L.lookup i=none:=by exact rfl) (hD:(L.all fun p=>!bP ops o p.1)=true:=by exact rfl) (hw:vJ ops o l=some false:=by exact rfl) (ht:o.dst=some t:=by exact rfl) (hl:l.set t undef=l':=by simp only[Zs];rfl):bK P ops R Q w0 L i (o :: rest) ⟨l.toArray,d⟩:=
 LC hL hD hw ht hl k
theorem ZK {z x y:Operand} {b:Bool} (k:bK P ops cI Q w0 L (i+1) rest ⟨l'.toArray,d⟩) (hL:L.lookup i=none:=by exact rfl) (hD:(L.all fun p=>!bP ops o p.1)=true:=by exact rfl) (hw:vJ ops o l=some true:=by exact rfl) (ht:o.dst=some t:=by exact rfl) (ho:o.op= .pick z x y:=by exact rfl) (hb:FF l z= .bool b:=by exact rfl) (hc:(if b then FF l x else FF l y)=c:=by conv=>lhs;whnf) (hl:l.set t c=l':=by simp only[Zs];rfl):bK P ops cI Q w0 L i (o :: rest) ⟨l.toArray,d⟩:=
 nJ cI.refl hL hD hw ht z x y ho hb hc hl k
theorem ZC (f:FuncId) (args:Array Value) (h:∀ w,R w0 w→Calls P f args w fun e w'=>e= .returned c∧R w w') (k:bK P ops R Q w0 L (i+1) rest ⟨l'.toArray,d⟩) (hL:L.lookup i=none:=by exact rfl) (hD:(L.all fun p=>!bP ops o p.1)=true:=by exact rfl) (hw:vJ ops o l=some true:=by exact rfl) (ht:o.dst=some t:=by exact rfl) (he:∀ w,(execOp (Act.eval ⟨l.toArray,d⟩) o).run P w= .ok (.enter f args) w:=by intro w;go_simp) (hl:l.set t c=l':=by simp only[Zs];rfl):bK P ops R Q w0 L i (o :: rest) ⟨l.toArray,d⟩:=
 tA hL hD hw ht f args he h hl k
end
theorem ZR {P:Program} {Q:Exit→Act→World→Prop} {id:Nat} {a:Act} {w:World} {l:List Oper} (h:bK P l.toArray cI Q w.drew [] 0 l a) (hm:P.follows .mixedOrders=true:=by kernel_rfl) (hB:sI l.toArray (([]:List (Nat × VP)).map (·.1))=true:=by kernel_rfl) (hr:l.all (fun o=>match o.dst with|some d=>decide (d<a.tmps.size)|none=>true)=true:=by kernel_rfl):(Code.region id l.toArray true).wp P Q a w:=
 nS [] cI hm hB hr cI.refl cI.trans zI h
theorem zZ {p:Prop} (h:p:=by simp only[Zs];rfl):p:=h
section
variable {P : Program} {ops : Array Oper} {Q : Exit → Act → World → Prop} {w0 : World} {L : List (Nat × VP)} {i : Nat} {o : Oper} {rest : List Oper} {l l' : List Value} {d : List Deferred} {t : Nat} {c : Value}
theorem ZQ (k : bK P ops cI Q w0 L (i + 1) rest ⟨l'.toArray, d⟩) (h : ∀ w, cI w0 w → (execOp (Act.eval ⟨l.toArray, d⟩) o).run P w = .ok (.value c) w := by intro w _;go_simp;first|done|rfl) (hL : L.lookup i = none := by exact rfl) (hD : (L.all fun p => !bP ops o p.1) = true := by exact rfl) (hw : vJ ops o l = some true := by exact rfl) (ht : o.dst = some t := by exact rfl) (hl : l.set t c = l' := by simp only [Zs]; rfl) : bK P ops cI Q w0 L i (o :: rest) ⟨l.toArray, d⟩ :=
 ZP h k hL hD hw ht hl
end
end Go.Proofs.YtobjgebojhjhnaaGreatDoor
