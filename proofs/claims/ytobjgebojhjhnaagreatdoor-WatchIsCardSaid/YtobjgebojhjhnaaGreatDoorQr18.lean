import Derived.Test.YtobjgebojhjhnaaGreatDoorQr17
import Derived.Test.YtobjgebojhjhnaaGreatDoorQr6
import Derived.Test.YtobjgebojhjhnaaGreatDoorQr16
import Derived.Great.BuildSlice
namespace Go.Proofs.YtobjgebojhjhnaaGreatDoor
open Go.RowKit
instance:Inhabited Hd:=⟨⟨0,[],[],0,0,0⟩⟩
def jM (l:List Hd):List Value:=l.flatMap fC
def NQ (l:List Hd):Prop:=∀ h ∈ l,h.ok
def oS (w:World) (A:Option Addr) (l:List Hd):Prop:=Rd w A (jM l)∧NQ l
theorem oS.b {w w':World} {A:Option Addr} {l:List Hd} (h:oS w A l) (b:Below w.heap.size w w'):oS w' A l:=⟨h.1.b b,h.2⟩
theorem Mw {l:List Hd} (h:NQ l):(jM l).length=l.length*68:=eW fC 68 l fun e he=>cJ (h e he)
theorem oS.adr {w:World} {A:Option Addr} {l:List Hd} (h:oS w A l) (hl:0<l.length):∃ b off,A=some ⟨b,off,none⟩:=by
 refine h.1.someA fun e=>?_
 have:=Mw h.2
 rw[e,List.length_nil] at this
 omega
theorem oS.nth {w:World} {b off:Nat} {l:List Hd} (h:oS w (some ⟨b,off,none⟩) l) (k:Nat) (e:Hd) (hk:l[k]? =some e):w.rangeAt b (off+k*68) (fC e)∧e.ok:=
 ⟨Rd.piece fC 68 l (fun e he=>cJ (h.2 e he)) h.1 k e hk,h.2 e (List.mem_of_getElem? hk)⟩
open Go.RowKit Tryz
def eB (l:List (List UInt8)):List Value:=l.flatMap fun x=>x.map bv
def dV (l:List (List UInt8)):Prop:=∀ x ∈ l,x.length=32
theorem xF (x:List UInt8) (l:List (List UInt8)):eB (x :: l)=x.map bv++eB l:=rfl
theorem xG (l k:List (List UInt8)):eB (l++k)=eB l++eB k:=by simp[eB]
theorem Gd (x:List UInt8):eB [x]=x.map bv:=by simp[eB]
theorem dV.tail {x:List UInt8} {l:List (List UInt8)} (h:dV (x :: l)):dV l:=fun y hy=>h y (List.mem_cons_of_mem _ hy)
theorem dV.get {l:List (List UInt8)} (h:dV l) (i:Nat) (hi:i<l.length):(l.getD i []).length=32:=by
 rw[List.getD_eq_getElem?_getD,List.getElem?_eq_getElem hi]
 exact h _ (List.getElem_mem hi)
theorem dV.append {l k:List (List UInt8)} (h:dV l) (h':dV k):dV (l++k):=fun x hx=>(List.mem_append.1 hx).elim (h x) (h' x)
theorem dV.one {x:List UInt8} (h:x.length=32):dV [x]:=fun y hy=>by rw[List.mem_singleton.1 hy];exact h
theorem nC {l:List (List UInt8)} (h:dV l):(eB l).length=32*l.length:=by
 induction l with
 |nil=>rfl
 |cons x l ih=>rw[xF,List.length_append,List.length_map,ih h.tail,h x (List.mem_cons_self ..),List.length_cons];omega
theorem My {l:List (List UInt8)} (h:dV l) (i j:Nat) (hi:i<l.length) (hj:j<32):(eB l)[32*i+j]? =((l.getD i []).map bv)[j]? :=by
 induction l generalizing i with
 |nil=>simp at hi
 |cons x l ih=>
  have hx:=h x (List.mem_cons_self ..)
  cases i with
  |zero=>rw[xF,Nat.mul_zero,Nat.zero_add,List.getElem?_append_left (by rw[List.length_map,hx];exact hj)];rfl
  |succ i=>
   rw[xF,List.getElem?_append_right (by rw[List.length_map,hx];omega),List.length_map,hx,show 32*(i+1)+j - 32=32*i+j by omega,ih h.tail i (by simpa using hi)]
   rfl
theorem JA (l:List (List UInt8)):∀ u ∈ eB l,u.oneCell'=true:=by
 intro u hu
 simp only[eB,List.mem_flatMap,List.mem_map] at hu
 obtain⟨_,_,b,_,rfl⟩:=hu
 rfl
theorem Rd.hash {w:World} {b off:Nat} {l:List (List UInt8)} (h:Rd w (some ⟨b,off,none⟩) (eB l)) (h32:dV l) (i:Nat) (hi:i<l.length):w.rangeAt b (off+i*32) ((l.getD i []).map bv):=by
 intro j v hv
 have hj:j<32:=by
  have:=(List.getElem?_eq_some_iff.1 hv).1
  rw[List.length_map,h32.get i hi] at this
  exact this
 rw[← My h32 i j hi hj] at hv
 rcases h with h|⟨b',off',hA,hc⟩
 ·rw[h] at hv;simp at hv
 ·cases hA
  rw[show off+i*32+j=off+(32*i+j) by omega]
  exact hc _ _ hv
theorem uV {l:List (List UInt8)} (h:dV l) (hl:0<l.length):eB l≠ []:=fun e=>by
 have:=nC h
 rw[e] at this
 simp at this
 omega
theorem ON:(prog.info? 35).map (fun i=>(i.size,i.bytes))=some (32,32):=by kernel_rfl
theorem OO:(prog.info? 35).map (fun i=>(i.zero.map (·.cells)))=some (some (Array.replicate 32 (.int .u8 0))):=by kernel_rfl
theorem CW {w0 w:World} {base:Nat} {v:Value} {n:Nat} {xs:List (List UInt8)} (hown:w.ownsRow base 35 32 v n (eB xs)) (hb:Below base w0 w) (hbase:base≤w.heap.size)
  {A:Option Addr} {l:List (List UInt8)} (h32:dV l) (m c:Nat) (hr:Rd w A (eB l)) (hl:l.length=m) (hm:(n+m)*32≤140737488355328)
  {ops:Array Oper} {rest:List Oper} {o:Oper} {a:Act} {Q:Exit→Act→World→Prop} (hgd:o.guard=none) (s x:Operand)
  (ho:o.op= .call {callee:=.builtin .append,args:=#[s,x],argTypes:=#[23,23]})
  (hs:a.eval s=v) (hx:a.eval x= .slice A m c)
  (h:∀ v' w',w'.ownsRow base 35 32 v' (n+m) (eB (xs++l))→Below base w0 w'→w.heap.size≤w'.heap.size→w.grownBy w' v.ownBlock→(v'.ownBlock=v.ownBlock∨v'.ownBlock=some w.heap.size)→wpList prog ops Q rest (a.put o.dst v') w'):wpList prog ops Q (o :: rest) a w:=by
 obtain⟨i0,hi,hz⟩:=Option.map_eq_some_iff.1 ON
 obtain⟨i1,hi1,hz1⟩:=Option.map_eq_some_iff.1 OO
 obtain rfl:i1=i0:=by rw[hi] at hi1;exact(Option.some.inj hi1).symm
 obtain⟨z,hz2,hz3⟩:=Option.map_eq_some_iff.1 hz1
 injection hz with hz4 hz5
 refine iU w hgd s x 23 ho base 35 i1 z 32 32 Tj hi hz2 hz4 hz5 (by rw[hz3];simp) DC v n (eB xs) hs hown
  A m c (eB l) hx (by rw[nC h32,hl];omega) hr (JA l) (by simp only[maxLen];omega) hm hbase ?_
 intro v' w' h1 h2 h3
 refine h v' w' ?_ (fK hb hown h2 hbase) h2.size h2 h3
 rw[xG]
 exact h1
set_option maxRecDepth 100000
set_option maxHeartbeats 16000000
attribute [local go_sem high] eO gO gP iV
def gZ (a b:List UInt8):List UInt8:=lW (a++b)
theorem iZ (a b:List UInt8):(gZ a b).length=32:=fP _
theorem Qo (a b : List UInt8) (ha : a.length = 32) (hb : b.length = 32) (w : World) (ht : fW w) :
    Calls prog 106 #[.agg (cK a), .agg (cK b)] w fun e w' => e = .returned (.agg (cK (gZ a b))) ∧ Below w.heap.size w w' := by
  have hz := eK
  have hzl : (List.replicate 32 (0 : UInt8)).length = 32 := by simp
  obtain ⟨zs, hzs⟩ : ∃ zs : List UInt8, zs = List.replicate 32 0 := ⟨_, rfl⟩
  rw [← hzs] at hz hzl
  clear hzs
  replace hzl := Lib.hid hzl
  obtain ⟨dd, hdd⟩ := Nm (lW (a ++ b))
  have jM : dd.length = 32 := by rw [hdd, fP]
  rw [gZ, ← hdd]
  replace hdd := Lib.hid hdd
  replace jM := Lib.hid jM
  replace ha := Lib.hid ha
  replace hb := Lib.hid hb
  obtain ⟨mk, hmks, hmk⟩ := FU 64 64 rfl (by omega)
  replace hmks := Lib.hid hmks
  have hle1 : ([] : List UInt8).length + 32 ≤ 140737488355328 := by simp
  have hle2 : a.length + 32 ≤ 140737488355328 := by rw [ha.out]; omega
  go_enter func106, ntmps106
  have b0 : Below w.heap.size w (((w.alloc (.cells (a.map bv).toArray 35)).alloc (.cells (b.map bv).toArray 35)).alloc (.cells (zs.map bv).toArray 35)) := (((Below.refl _ _).alloc (Nat.le_refl _) _).alloc (by simp) _).alloc (by simp; omega) _
  have a0 : Av (((w.alloc (.cells (a.map bv).toArray 35)).alloc (.cells (b.map bv).toArray 35)).alloc (.cells (zs.map bv).toArray 35)) w.heap.size 35 (a.map bv) := Av.alloc (heap_alloc2_old _ _ _) _
  have a1 : Av (((w.alloc (.cells (a.map bv).toArray 35)).alloc (.cells (b.map bv).toArray 35)).alloc (.cells (zs.map bv).toArray 35)) (w.heap.size + 1) 35 (b.map bv) := Av.alloc (heap_alloc2_new _ _ _) _
  have a2 : Av (((w.alloc (.cells (a.map bv).toArray 35)).alloc (.cells (b.map bv).toArray 35)).alloc (.cells (zs.map bv).toArray 35)) (w.heap.size + 1 + 1) 35 (zs.map bv) := by
    have := heap_alloc_new ((w.alloc (.cells (a.map bv).toArray 35)).alloc (.cells (b.map bv).toArray 35)) (.cells (zs.map bv).toArray 35)
    have e : ∀ (v : World) (o : Obj), (v.alloc o).heap.size = v.heap.size + 1 := fun v o => by simp
    rw [e, e] at this
    exact this
  go_upto_region 1 with fail
  generalize ((w.alloc (.cells (a.map bv).toArray 35)).alloc (.cells (b.map bv).toArray 35)).alloc (.cells (zs.map bv).toArray 35) = w0 at *
  have hmade := cE.made w0 w0.heap.size (Nat.le_refl _) mk 64 (by simp only [maxLen]; omega) hmks.out
  have hbm := (Below.refl w0.heap.size w0).alloc (Nat.le_refl _) (.cells mk 5)
  have hr0 := a0.rd.b hbm
  go_wp2_with (first
    | (at_builtin
       refine aQ hmade hbm hbm.size 32 32 hr0 ha.out hle1 rfl (.tmp 7) (.tmp 8) rfl rfl rfl ?_
       intro y1 w1 hown hb1 hz1 hg1
       rw [List.nil_append] at hown
       have hr1 := a1.rd.b hb1)
    | (at_builtin
       refine aQ hown hb1 hb1.size 32 32 hr1 hb.out hle2 rfl (.tmp 10) (.tmp 11) rfl rfl rfl ?_
       intro y2 w2 hown2 hb2 hz2 hg2
       obtain ⟨A2, c2, rfl, hc2, _⟩ := hown2.formN 64 (by rw [List.length_append, ha.out, hb.out])))
  replace a2 := a2.b hb2
  replace b0 := b0.trans (hb2.mono b0.size)
  refine (Ep (a ++ b) A2 64 c2 (by rw [List.length_append, ha.out, hb.out]) hc2 (by omega) w2 hown2.rd (ht.b b0)).mono ?_
  rintro e w3 ⟨rfl, b3⟩
  rw [← hdd.out]
  replace a2 := a2.b b3
  replace b3 := b0.trans (b3.mono b0.size)
  go_wp2_with (refine aP b3 a2 (by omega) rfl _ _ _ rfl rfl (dd.map bv) rfl 32 (by rw [List.length_map, jM.out]) (by kernel_rfl) (by rw [List.size_toArray, List.length_map]; exact hzl.out) (by simp [Value.oneCell']) ?_
               intro w6 a6 b6 k6 z6)
  refine bodyPost_ret (results_cell_row rfl _ _ (w.heap.size + 1 + 1) _ _ (0, 0) _ rfl a6 SS rfl (by rw [List.size_toArray, List.length_map, jM.out]; kernel_rfl)) rfl ⟨rfl, b6⟩
end Go.Proofs.YtobjgebojhjhnaaGreatDoor
namespace Go.Proofs.YtobjgebojhjhnaaGreatDoor
set_option maxRecDepth 100000
set_option maxHeartbeats 16000000
open Go.RowKit Tryz
def iF (n h:Int):Int:=if h<0 then 0 else (min (max n 0) 4096+2 ^ (min h 12).toNat - 1) / 2 ^ (min h 12).toNat
theorem Xc168 {p:Prop} (h:p:=by
 go_enter func131,ntmps131
 go_wp2
 all_goals
  go_ret
  refine⟨congrArg (fun x=>Ending.returned (Value.int IntKind.i64 x)) ?_,rfl⟩
  omega):p:=h
theorem NT (n h:Int) (w:World):Calls prog 131 #[.int .i64 n,.int .i64 h] w fun e w'=>e= .returned (.int .i64 (iF n h))∧w'=w:=by
 by_cases hh:h<0
 ·go_enter func131,ntmps131
  go_wp2
  go_ret
  exact⟨by rw[iF,if_pos hh];rfl,rfl⟩
 ·have h0:0≤h:=by omega
  by_cases h12:12<h
  ·have hm:min h 12=12:=by omega
   rw[iF,if_neg hh,hm]
   exact Xc168
  ·rcases (show h=0∨h=1∨h=2∨h=3∨h=4∨h=5∨h=6∨h=7∨h=8∨h=9∨h=10∨h=11∨h=12 by omega) with rfl|rfl|rfl|rfl|rfl|rfl|rfl|rfl|rfl|rfl|rfl|rfl|rfl
   all_goals
    rw[iF,if_neg DC]
    first
     |rw[show (2:Int) ^ (min (0:Int) 12).toNat=1 by decide]
     |rw[show (2:Int) ^ (min (1:Int) 12).toNat=2 by decide]
     |rw[show (2:Int) ^ (min (2:Int) 12).toNat=4 by decide]
     |rw[show (2:Int) ^ (min (3:Int) 12).toNat=8 by decide]
     |rw[show (2:Int) ^ (min (4:Int) 12).toNat=16 by decide]
     |rw[show (2:Int) ^ (min (5:Int) 12).toNat=32 by decide]
     |rw[show (2:Int) ^ (min (6:Int) 12).toNat=64 by decide]
     |rw[show (2:Int) ^ (min (7:Int) 12).toNat=128 by decide]
     |rw[show (2:Int) ^ (min (8:Int) 12).toNat=256 by decide]
     |rw[show (2:Int) ^ (min (9:Int) 12).toNat=512 by decide]
     |rw[show (2:Int) ^ (min (10:Int) 12).toNat=1024 by decide]
     |rw[show (2:Int) ^ (min (11:Int) 12).toNat=2048 by decide]
     |rw[show (2:Int) ^ (min (12:Int) 12).toNat=4096 by decide]
    exact Xc168
theorem OP (n:Int) (k:Nat) (h12:k≤12) (hlo:∀ j:Nat,j<k→1<iF n j) (hhi:iF n k≤1) (w:World):Calls prog 102 #[.int .i64 n] w fun e w'=>e= .returned (.int .i64 (k:Int))∧w'=w:=by
 have HW:=Hy (fun (h:Int) w=>NT n h w)
 go_enter func102,ntmps102
 go_wp2
 go_loopw [3] (fun i wr=>∃ j:Nat,j≤k∧i= .int .i64 (j:Int)∧wr=w) (fun i _=>k - (intOf i).toNat)
 case atStart=>exact⟨0,by omega,rfl,rfl⟩
 case round=>
  obtain⟨j,hj,rfl,rfl⟩:=hrel
  by_cases hjk:j<k
  ·have h1:=hlo j hjk
   have h2:decide (1<iF n j)=true:=by simpa using h1
   go_wp2_with (go_at_call 131;refine(HW.out _ _).mono ?_;rintro e w' ⟨rfl,rfl⟩)
   refine⟨⟨j+1,by omega,by go_num,trivial⟩,?_⟩
   simp[intOf];omega
  ·obtain rfl:j=k:=by omega
   have h2:decide (1<iF n j)=false:=by simp;omega
   go_wp2_with (go_at_call 131;refine(HW.out _ _).mono ?_;rintro e w' ⟨rfl,rfl⟩)
   go_ret
   exact⟨rfl,rfl⟩
theorem Mz (w:World) (A:Option Addr) (n c n' c':Nat):(binOp .eql 23 (.slice A n c) (.slice none n' c')).run prog w= .ok (.bool A.isNone) w:=
 Lib.run_eql_slice_nil w _ _ A n c n' c' Tj
attribute [local go_sem high] Mz
theorem OQ (l:List (List UInt8)) (h32:dV l) (A:Option Addr) (n c:Nat) (w:World) (hr:Rd w A (eB l)) (hn:l.length=n) (hm:n≤100000):
  Calls prog 40 #[.slice A n c] w fun e w'=>∃ v,e= .returned v∧w'.ownsRow w.heap.size 35 32 v n (eB l)∧Below w.heap.size w w':=by
 cases A with
 |none=>
  have hb:l= []:=by
   rcases hr with h|⟨_,_,h,_⟩
   ·cases l with
    |nil=>rfl
    |cons x l=>exact absurd h (uV h32 zS)
   ·cases h
  subst hb
  subst hn
  clear hm hr
  have hnn:(none:Option Addr).isNone=true:=rfl
  go_enter func40,ntmps40
  go_wp2
  go_ret
  exact⟨_,rfl,World.ownsRow_nil _ _ _ _,Below.refl _ _⟩
 |some a=>
  have hmade:(w.alloc (.cells #[] 35)).ownsRow w.heap.size 35 32 (.slice (some ⟨w.heap.size,0,none⟩) 0 0) 0 (eB []):=World.ownsRow_made w #[] 0 LR (by simp[maxLen]) rfl
  have hb1:=(Below.refl w.heap.size w).alloc LR (.cells #[] 35)
  have hr1:=hr.b hb1
  have hnn:(some a:Option Addr).isNone=false:=rfl
  have Hn:=Hy hn
  clear hn
  go_enter func40,ntmps40
  go_wp2_with (at_builtin;refine CW hmade hb1 zS h32 n c hr1 Hn.out OM rfl (.tmp 5) (.tmp 6) rfl rfl rfl ?_;intro v1 w1 hown1 hb2 hz2 _ _)
  go_ret
  rw[List.nil_append,Nat.zero_add] at hown1
  exact⟨_,rfl,hown1,hb2⟩
end Go.Proofs.YtobjgebojhjhnaaGreatDoor
namespace Go.Proofs.YtobjgebojhjhnaaGreatDoor
open Go.RowKit Tryz
theorem qO (xs:Array Value) (off:Nat) (v:Array Value) (h:xs.extract off (off+32)=v) (w:World):(part 35 xs off).run prog w= .ok (.agg v) w:=by
 simp[part,isAgg,run_underlying SS,h]
theorem gK {P:Program} (d:Nat) (xs ys:Array Value) (f:Field) (fs:List Field) (w:World) (hn:(f.name== "_")=false) {t o:Nat} (ht:f.type=t) (ho:f.offset=o) (a b:Value) (r:Bool) (ha:(part t xs o).run P w= .ok a w) (hb:(part t ys o).run P w= .ok b w)
  (hr:(Op.equalIn d t a b).run P w= .ok r w) (R:Bool) (hR:(Op.eqFields d xs ys fs).run P w= .ok R w):(Op.eqFields d xs ys (f :: fs)).run P w= .ok (r && R) w:=by
 subst ht ho
 rw[Op.eqFields,if_pos (by simpa using hn),Sem.run_bind,ha,Result.andThen_ok,Sem.run_bind,hb,Result.andThen_ok,Sem.run_bind,hr,Result.andThen_ok]
 cases r
 ·simp
 ·simpa using hR
set_option maxRecDepth 100000
set_option maxHeartbeats 16000000
def Qy (bs:List UInt8):VP:=fun v w=>∃ A c,v= .slice A bs.length c∧Rd w A (bs.map bv)
theorem Qy.mono {bs:List UInt8} {v:Value} {w w':World} (h:cI w w'):Qy bs v w→Qy bs v w':=by
 rintro⟨A,c,rfl,hr⟩
 exact⟨A,c,rfl,hr.b h⟩
theorem Kn: #[Value.int IntKind.u32 0,Value.int IntKind.u32 0,Value.int IntKind.u32 0,Value.int IntKind.u32 0,Value.int IntKind.u32 0,Value.int IntKind.u32 0,Value.int IntKind.u32 0,Value.int IntKind.u32 0,Value.slice none 0 0,Value.int IntKind.u64 0]=(fU (List.replicate 8 0) none 0 0 0).toArray:=by
 rw[fU,List.map_replicate,wc,mI];rfl
def Sq (h:List fH) (N:Int):VP:=fun v _=>∃ A c,v= .agg (fU h A 0 c N).toArray
def Ko (b:Nat):VP:=fun v w=>∃ g,v= .pointer (some ⟨g,0,none⟩)∧b≤g∧Av w g 245 (fU (List.replicate 8 0) none 0 0 0)
theorem Ko.mono {b:Nat} {v:Value} {w w':World} (h:cI w w'):Ko b v w→Ko b v w':=by
 rintro⟨g,rfl,hb,ha⟩
 exact⟨g,rfl,hb,ha.b h⟩
theorem Dl {ρ:Operand→Value} {w:World} (o:Oper) (ho:o.op= .alloc 245):(execOp ρ o).run prog w= .ok (.value (.pointer (some ⟨w.heap.size,0,none⟩))) (w.alloc (.cells (fU (List.replicate 8 0) none 0 0 0).toArray 245)):=by
 have hz:=Kn
 unfold execOp
 simp only[ho]
 go_simp
theorem BN {P:Program} {R:World→World→Prop} {w:World} {ok:VP} {r:Result Next} (f:FuncId) (args:Array Value) (he:r= .ok (.enter f args) w) (h:Calls P f args w fun e w''=>∃ v,e= .returned v∧R w w''∧ok v w''):pD P R w ok r:=by
 rw[he]
 exact h
def Ec (h:List fH):Nat→List UInt8
 |0=>List.replicate 32 0
 |n+1=>(Ec h n).set n (w8 (h.getD (n / 4) 0) (24 - 8*(n % 4)))
theorem pS (h:List fH) (n:Nat):(Ec h n).length=32:=by
 induction n with
 |zero=>simp[Ec]
 |succ n ih=>rw[Ec,List.length_set,ih]
theorem Kp (h:List fH) (k:Nat):Ec h (4*k)=pZ h k:=by
 induction k with
 |zero=>rfl
 |succ k ih=>
  rw[show 4*(k+1)=4*k+3+1 by omega,Ec,Ec,Ec,Ec,ih,pZ]
  rw[show 4*k / 4=k by omega,show (4*k+1) / 4=k by omega,show (4*k+2) / 4=k by omega,show (4*k+3) / 4=k by omega,show 4*k % 4=0 by omega,show (4*k+1) % 4=1 by omega,show (4*k+2) % 4=2 by omega,show (4*k+3) % 4=3 by omega]
theorem RN (h : List fH) (hh : h.length = 8) (rs : List UInt8) (A : Option Addr) (n c : Nat) (hn : rs.length = n) (hn6 : n < 64) (_ : n ≤ c) (N : Nat) (h1 : N < 18446744073709551616) (h64 : N % 64 = n)
    (w : World) (hq : Rd w A (rs.map bv)) :
    Calls prog 128 #[.agg (fU h A n c N).toArray] w fun e w' =>
      e = .returned (.agg (cK (Mk (dW ((n + (gR N + 9)) / 64) h (rs ++ jI N))))) ∧ Below w.heap.size w w' := by
  have hs := Ob h hh A n c N (by omega) (by omega) (by omega) true (by simp; omega)
  have hpl : (jI N).length = gR N + 9 := pM N 8
  have hpz : (n + (gR N + 9)) % 64 = 0 ∧ 64 ≤ n + (gR N + 9) := by rw [gR]; split <;> omega
  obtain ⟨h', hh'⟩ : ∃ l, l = dW ((n + (gR N + 9)) / 64) h (rs ++ jI N) := ⟨_, rfl⟩
  have hl' : h'.length = 8 := by rw [hh', bQ _ _ _ hh]
  rw [← hh']
  replace hh' := Lib.hid hh'
  replace hl' := Lib.hid hl'
  obtain ⟨ss, hss⟩ : ∃ ss : List Value, ss = fU h A n c N := ⟨_, rfl⟩
  have c9 : ss[9]? = some (.int .u64 (N : Int)) := by rw [hss, fU, List.getElem?_append_right (by simp [hh])]; simp [hh]
  rw [← hss] at hs ⊢
  have hsl : ss.length = 10 := by rw [hss]; simp [fU, hh]
  replace hss := Lib.hid hss
  replace hsl := Lib.hid hsl
  replace hh := Lib.hid hh
  replace hpl := Lib.hid hpl
  replace hn := Lib.hid hn
  replace h64 := Lib.hid h64
  replace c9 := Lib.hid c9
  obtain ⟨zs, hzs⟩ : ∃ zs : List UInt8, zs = List.replicate 32 0 := ⟨_, rfl⟩
  have hz := eK
  rw [← hzs] at hz
  have hzl : (zs.map bv).length = 32 := by rw [hzs]; simp
  replace hzs := Lib.hid hzs
  replace hzl := Lib.hid hzl
  go_enter func128, ntmps128
  have hb0 : Below w.heap.size w ((w.alloc (.cells ss.toArray 245)).alloc (.cells (zs.map bv).toArray 35)) := ((Below.refl _ _).alloc (Nat.le_refl _) _).alloc (by simp) _
  have ha1 : Av ((w.alloc (.cells ss.toArray 245)).alloc (.cells (zs.map bv).toArray 35)) w.heap.size 245 ss := heap_alloc2_old _ _ _
  have ha2 : Av ((w.alloc (.cells ss.toArray 245)).alloc (.cells (zs.map bv).toArray 35)) (w.heap.size + 1) 35 (zs.map bv) := heap_alloc2_new _ _ _
  go_wp2_with (refine cZ ha1 rfl _ _ rfl rfl _ 10 hsl.out Tx rfl (by kernel_rfl) ?_)
  generalize (w.alloc (.cells ss.toArray 245)).alloc (.cells (zs.map bv).toArray 35) = w0 at *
  refine (hs w0).mono ?_
  rintro e w1 ⟨rfl, b1⟩
  replace ha1 := ha1.b b1
  replace ha2 := ha2.b b1
  replace b1 := hb0.trans (b1.mono hb0.size)
  clear hb0 hs
  go_wp2_with fail
  have HP := Lib.hid (RL N h1)
  have hdr : (rs ++ jI N).drop (64 * ((n + (gR N + 9)) / 64)) = [] := List.drop_of_length_le (by rw [List.length_append, hn.out, hpl.out]; omega)
  obtain ⟨N2, hN2⟩ := Nm (IntKind.u64.wrap ((N : Int) + IntKind.u64.wrap ((gR N + 9 : Nat) : Int)))
  have HW : ∀ (w' : World) (B : Option Addr) (cB : Nat), Below w.heap.size w w' → Rd w' B ((jI N).map bv) → Calls prog 129 #[.agg ss.toArray, .slice B (jI N).length cB] w' fun e w'' => ∃ v, e = .returned v ∧ cI w' w'' ∧ Sq h' N2 v w'' := by
    intro w' B cB hB hrb
    have HW := Km h hh.out rs A n c hn.out hn6 N (by omega) (by omega) (by have := h64.out; omega) (jI N) B (gR N + 9) cB hpl.out (by have := hpz; rw [gR]; split <;> omega) w' (hq.b hB) hrb
    rw [hpz.1, ← hss.out, hdr, ← hh'.out, ← hN2] at HW
    rw [hpl.out]
    exact HW.mono fun e w'' ⟨A3, c3, he, _, _, hb⟩ => ⟨_, he, hb, A3, c3, rfl⟩
  replace HW := Lib.hid HW
  have hwa := ha2.lt
  refine bL 6 [(3, Qy (jI N)), (4, Sq h' N2), (5, Ko (w.heap.size + 2))] cI (by kernel_rfl) (by kernel_rfl) (by kernel_rfl) (by kernel_rfl) (by kernel_rfl) cI.refl cI.trans (by intro p hp v w w' hR; simp only [List.mem_cons, List.not_mem_nil, or_false] at hp; rcases hp with rfl | rfl | rfl; exact Qy.mono hR; exact id; exact Ko.mono hR) ?_
  refine ZP (c := .agg ss.toArray) (fun w hw => aE (ha1.b hw.drew) _ _ rfl rfl _ 10 hsl.out Tx rfl (by kernel_rfl)) ?_
  refine ZP (fun w _ => by go_simp; first | done | rfl) ?_
  refine ZP (c := .int .u64 (N : Int)) (fun w hw => by have := (ha1.b hw.drew).cell 9 _ c9.out; go_simp; first | done | rfl) ?_
  refine AV _ rfl rfl rfl 139 #[.int .u64 (N : Int)] (fun w => by go_simp) (fun w hw => (HP.out w).mono ?_) ?_
  · rintro e w' ⟨v, rfl, hown, hb⟩
    obtain ⟨A', c', rfl, _, _⟩ := hown.form
    exact ⟨_, rfl, hb, _, _, rfl, hown.rd⟩
  refine cO _ rfl (fun w2 hw => aC rfl rfl fun v hv => bN rfl (bN rfl (aF (bI rfl ?_)))) ?_
  · obtain ⟨B, cB, rfl, hrb⟩ := hv
    simp only [List.set_cons_succ, List.set_cons_zero]
    exact BN 129 #[.agg ss.toArray, .slice B (jI N).length cB] (by go_simp) (HW.out w2 B cB (b1.trans (hw.drew.mono b1.size)) hrb)
  refine cO _ rfl (fun w2 hw => aM rfl (bI rfl ?_)) ?_
  · rw [Dl _ rfl]
    exact ⟨(Below.refl _ _).alloc (Nat.le_refl _) _, w2.heap.size, rfl, by have := hw.drew.size; omega, heap_alloc_new _ _⟩
  refine bO fun w2 hw2 => aC rfl rfl fun v hv => aC rfl rfl fun v4 hv4 => aC rfl rfl fun v5 hv5 => aF ?_
  simp only [List.set_cons_succ, List.set_cons_zero]
  obtain ⟨B, cB, rfl, hrb⟩ := hv
  obtain ⟨A3, c3, rfl⟩ := hv4
  obtain ⟨g3, rfl, hg3, ha3⟩ := hv5
  replace hw2 := hw2.drew
  replace ha1 := ha1.b hw2
  replace ha2 := ha2.b hw2
  have b2 := b1.trans (hw2.mono b1.size)
  clear b1 hw2 hrb HP HW hpz hh' hN2 hdr hwa
  simp only [List.drop_succ_cons, List.drop_zero]
  have hg3' : w.heap.size ≤ g3 := by omega
  have hztl : (fU (List.replicate 8 0) none 0 0 0).length = 10 := by simp [fU]
  go_wp2_with (refine aP b2 ha3 hg3' rfl _ _ _ rfl rfl (fU h' A3 0 c3 N2) rfl 10 (by simp [fU, hl'.out]) (by kernel_rfl) (by rw [List.size_toArray]; exact hztl) (by simp [fU, Value.oneCell']) ?_
               intro w4 a4 b4 k4 z4
               replace z4 := Lib.hid z4
               replace ha2 := ha2.same (k4 _ (by omega)))
  have z5 : w.heap.size + 1 < g3 := by omega
  have hb4g : w.heap.size ≤ g3 := by omega
  have a5 : Av (w4.alloc (.cells (zs.map bv).toArray 35)) w4.heap.size 35 ((Ec h' 0).map bv) := by
    have := heap_alloc_new w4 (.cells (zs.map bv).toArray 35)
    rw [hzs.out] at this ⊢
    exact this
  have a4' := a4.alloc (.cells (zs.map bv).toArray 35)
  have z6 : g3 < w4.heap.size := a4.lt
  have b5 := b4.alloc b4.size (.cells (zs.map bv).toArray 35)
  have a6 := ha2.alloc (.cells (zs.map bv).toArray 35)
  clear k4 ha2 a4 ha1
  obtain ⟨st, hst⟩ := Nm (fU h' A3 0 c3 N2)
  rw [← hst] at a4'
  have hcw : ∀ k, k < 8 → st[k]? = some (wc (h'.getD k 0)) := fun k hk => by
    rw [hst, fU, List.getElem?_append_left (by simp [hl'.out, hk])]; simp [List.getElem?_eq_getElem (show k < h'.length by rw [hl'.out]; exact hk)]
  replace hst := Lib.hid hst
  replace hcw := Lib.hid hcw
  go_loopw [5, 6] (fun i _ wr => ∃ k : Nat, k ≤ 8 ∧ i = .int .i64 k ∧ Below w.heap.size w wr ∧ Av wr w4.heap.size 35 ((Ec h' (4 * k)).map bv) ∧ Av wr g3 245 st ∧ Av wr (w.heap.size + 1) 35 (zs.map bv)) (fun i _ _ => 8 - (intOf i).toNat)
  case atStart => exact ⟨0, by omega, rfl, b5, a5, a4', a6⟩
  case round =>
    clear a5 a6 b5 a4' b4
    obtain ⟨k, hk, rfl, hb, ha, has, hr0⟩ := hrel
    by_cases hk8 : k < 8
    · have hk1 : (k : Int) < 8 := by omega
      have hk0 : 0 ≤ (k : Int) := by omega
      have hcx := hcw.out k hk8
      generalize hgx : h'.getD k 0 = x at hcx
      replace hgx := Lib.hid hgx
      have e24 : wn x / 16777216 % 256 = ((w8 x 24).toNat : Int) := by rw [show (16777216 : Int) = 2 ^ 24 by decide]; exact vA x 24
      have e16 : wn x / 65536 % 256 = ((w8 x 16).toNat : Int) := by rw [show (65536 : Int) = 2 ^ 16 by decide]; exact vA x 16
      have e8 : wn x / 256 % 256 = ((w8 x 8).toNat : Int) := by rw [show (256 : Int) = 2 ^ 8 by decide]; exact vA x 8
      have e0 : wn x % 256 = ((w8 x 0).toNat : Int) := by have := vA x 0; simpa using this
      go_wp2
      go_loopw [6] (fun i wr => ∃ j : Nat, j ≤ 4 ∧ i = .int .i64 j ∧ Below w.heap.size w wr ∧ Av wr w4.heap.size 35 ((Ec h' (4 * k + j)).map bv) ∧ Av wr g3 245 st ∧ Av wr (w.heap.size + 1) 35 (zs.map bv)) (fun i _ => 4 - (intOf i).toNat)
      case atStart => exact ⟨0, by omega, rfl, hb, ha, has, hr0⟩
      case round =>
        clear hb ha has hr0
        obtain ⟨j, hj, rfl, hb, ha, has, hr0⟩ := hrel
        have cK := has.cell k _ hcx
        rcases (show j = 0 ∨ j = 1 ∨ j = 2 ∨ j = 3 ∨ j = 4 by omega) with rfl | rfl | rfl | rfl | rfl
        · have hp0 : 0 ≤ 4 * (k : Int) := by omega
          have hq0 : 4 * (k : Int) < 32 := by omega
          have hfz0 : wr.frozen? ⟨w4.heap.size, 4 * k, none⟩ = false := frozen_of_row _ _ _ _ _ ha
          have hcl0 := ha.get (4 * k) (by simp [pS]; omega)
          go_wp2
          replace hb := hb.setCell (p := ⟨w4.heap.size, 4 * k, none⟩) (by simp only; omega) (bv (w8 x 24))
          replace ha := ha.set (4 * k) (bv (w8 x 24))
          rw [← List.map_set] at ha
          replace hr0 := hr0.other ⟨w4.heap.size, 4 * k, none⟩ (bv (w8 x 24)) (by simp only; omega)
          replace has := has.other ⟨w4.heap.size, 4 * k, none⟩ (bv (w8 x 24)) (by simp only; omega)
          refine ⟨⟨0 + 1, by omega, rfl, hb, ?_, has, hr0⟩, ?_⟩
          · rw [show 4 * k + (0 + 1) = 4 * k + 1 by omega, Ec, show (4 * k) / 4 = k by omega, show (4 * k) % 4 = 0 by omega, hgx.out]; exact ha
          · simp [intOf]
        · have hp0 : 0 ≤ 4 * (k : Int) + 1 := by omega
          have hq0 : 4 * (k : Int) + 1 < 32 := by omega
          have hfz0 : wr.frozen? ⟨w4.heap.size, 4 * k + 1, none⟩ = false := frozen_of_row _ _ _ _ _ ha
          have hcl0 := ha.get (4 * k + 1) (by simp [pS]; omega)
          go_wp2
          replace hb := hb.setCell (p := ⟨w4.heap.size, 4 * k + 1, none⟩) (by simp only; omega) (bv (w8 x 16))
          replace ha := ha.set (4 * k + 1) (bv (w8 x 16))
          rw [← List.map_set] at ha
          replace hr0 := hr0.other ⟨w4.heap.size, 4 * k + 1, none⟩ (bv (w8 x 16)) (by simp only; omega)
          replace has := has.other ⟨w4.heap.size, 4 * k + 1, none⟩ (bv (w8 x 16)) (by simp only; omega)
          refine ⟨⟨1 + 1, by omega, rfl, hb, ?_, has, hr0⟩, ?_⟩
          · rw [show 4 * k + (1 + 1) = 4 * k + 1 + 1 by omega, Ec, show (4 * k + 1) / 4 = k by omega, show (4 * k + 1) % 4 = 1 by omega, hgx.out]; exact ha
          · simp [intOf]
        · have hp0 : 0 ≤ 4 * (k : Int) + 2 := by omega
          have hq0 : 4 * (k : Int) + 2 < 32 := by omega
          have hfz0 : wr.frozen? ⟨w4.heap.size, 4 * k + 2, none⟩ = false := frozen_of_row _ _ _ _ _ ha
          have hcl0 := ha.get (4 * k + 2) (by simp [pS]; omega)
          go_wp2
          replace hb := hb.setCell (p := ⟨w4.heap.size, 4 * k + 2, none⟩) (by simp only; omega) (bv (w8 x 8))
          replace ha := ha.set (4 * k + 2) (bv (w8 x 8))
          rw [← List.map_set] at ha
          replace hr0 := hr0.other ⟨w4.heap.size, 4 * k + 2, none⟩ (bv (w8 x 8)) (by simp only; omega)
          replace has := has.other ⟨w4.heap.size, 4 * k + 2, none⟩ (bv (w8 x 8)) (by simp only; omega)
          refine ⟨⟨2 + 1, by omega, rfl, hb, ?_, has, hr0⟩, ?_⟩
          · rw [show 4 * k + (2 + 1) = 4 * k + 2 + 1 by omega, Ec, show (4 * k + 2) / 4 = k by omega, show (4 * k + 2) % 4 = 2 by omega, hgx.out]; exact ha
          · simp [intOf]
        · have hp0 : 0 ≤ 4 * (k : Int) + 3 := by omega
          have hq0 : 4 * (k : Int) + 3 < 32 := by omega
          have hfz0 : wr.frozen? ⟨w4.heap.size, 4 * k + 3, none⟩ = false := frozen_of_row _ _ _ _ _ ha
          have hcl0 := ha.get (4 * k + 3) (by simp [pS]; omega)
          go_wp2
          replace hb := hb.setCell (p := ⟨w4.heap.size, 4 * k + 3, none⟩) (by simp only; omega) (bv (w8 x 0))
          replace ha := ha.set (4 * k + 3) (bv (w8 x 0))
          rw [← List.map_set] at ha
          replace hr0 := hr0.other ⟨w4.heap.size, 4 * k + 3, none⟩ (bv (w8 x 0)) (by simp only; omega)
          replace has := has.other ⟨w4.heap.size, 4 * k + 3, none⟩ (bv (w8 x 0)) (by simp only; omega)
          refine ⟨⟨3 + 1, by omega, rfl, hb, ?_, has, hr0⟩, ?_⟩
          · rw [show 4 * k + (3 + 1) = 4 * k + 3 + 1 by omega, Ec, show (4 * k + 3) / 4 = k by omega, show (4 * k + 3) % 4 = 3 by omega, hgx.out]; exact ha
          · simp [intOf]
        · go_wp2
          refine ⟨⟨k + 1, by omega, by go_num, hb, ha, has, hr0⟩, ?_⟩
          simp [intOf]; omega
    · obtain rfl : k = 8 := by omega
      rw [Kp] at ha
      have hw1 : w.heap.size ≤ w.heap.size + 1 := by omega
      go_wp2_with (first
        | refine cZ ha rfl _ _ rfl rfl _ 32 (by rw [List.length_map, eJ]) SS rfl (by kernel_rfl) ?_
        | (refine aP hb hr0 hw1 rfl _ _ _ rfl rfl ((pZ h' 8).map bv) rfl 32 (by rw [List.length_map, eJ]) (by kernel_rfl) (by rw [List.size_toArray]; exact hzl.out) (by simp [Value.oneCell']) ?_
           intro w6 a6 b6 k6 z6))
      refine bodyPost_ret (results_cell_row rfl _ _ (w.heap.size + 1) _ _ (0, 0) _ rfl a6 SS rfl (by rw [List.size_toArray, List.length_map, eJ]; kernel_rfl)) rfl ⟨rfl, b6⟩
attribute [local go_sem high] eO gO gP iV
theorem Qz (bs : List UInt8) (B : Option Addr) (m c : Nat) (hm : bs.length = m) (hm2 : m ≤ 140737488355328) (w : World) (hr : Rd w B (bs.map bv)) :
    Calls prog 100 #[.slice B m c] w fun e w' => e = .returned (.agg (cK (uS bs))) ∧ Below w.heap.size w w' := by
  have hz := eK
  have hzl : (List.replicate 32 (0 : UInt8)).length = 32 := by simp
  obtain ⟨zs, hzs⟩ : ∃ zs : List UInt8, zs = List.replicate 32 0 := ⟨_, rfl⟩
  rw [← hzs] at hz hzl
  clear hzs
  replace hzl := Lib.hid hzl
  obtain ⟨ss, hss⟩ := Nm (uS bs)
  have hsl : ss.length = 32 := by rw [hss, iQ]
  rw [← hss]
  replace hss := Lib.hid hss
  replace hsl := Lib.hid hsl
  replace hm := Lib.hid hm
  go_enter func100, ntmps100
  have hb0 := (Below.refl w.heap.size w).alloc (Nat.le_refl _) (.cells (zs.map bv).toArray 35)
  have ha2 : Av (w.alloc (.cells (zs.map bv).toArray 35)) w.heap.size 35 (zs.map bv) := heap_alloc_new _ _
  go_wp2_with fail
  generalize w.alloc (.cells (zs.map bv).toArray 35) = w0 at *
  refine (Pf w0).mono ?_
  rintro e w1 ⟨rfl, b1⟩
  replace ha2 := ha2.b b1
  replace b1 := hb0.trans (b1.mono hb0.size)
  have HW := Km kS (by rw [kS, dE]) [] none 0 0 rfl (by omega) 0 (by omega) (by omega) rfl bs B m c hm.out (by omega) w1 (Rd.nil _ _) (hr.b b1)
  rw [List.nil_append, Nat.zero_add] at HW
  have e1 : IntKind.u64.wrap (0 + IntKind.u64.wrap (m : Int)) = (m : Int) := by rw [IntKind.wrap_u64, IntKind.wrap_u64]; omega
  rw [e1] at HW
  obtain ⟨h1, hh1⟩ := Nm (dW (m / 64) kS bs)
  have hl1 : h1.length = 8 := by rw [hh1, bQ _ _ _ (by rw [kS, dE])]
  rw [← hh1] at HW
  replace HW := Lib.hid HW
  replace hh1 := Lib.hid hh1
  replace hl1 := Lib.hid hl1
  clear e1 hb0
  go_wp2_with fail
  refine HW.out.mono ?_
  rintro e w2 ⟨A2, c2, rfl, hc2, hr2, b2⟩
  clear HW
  replace ha2 := ha2.b b2
  replace b2 := b1.trans (b2.mono b1.size)
  have HE := RN h1 hl1.out (bs.drop (64 * (m / 64))) A2 (m % 64) c2 (by rw [List.length_drop, hm.out]; omega) (by omega) hc2 m (by omega) rfl w2 hr2
  rw [hh1.out] at HE
  have hss2 := hss.out
  rw [uS, hm.out] at hss2
  rw [← hss2, ← hh1.out] at HE
  replace HE := Lib.hid HE
  clear hss2
  go_wp2_with fail
  refine HE.out.mono ?_
  rintro e w3 ⟨rfl, b3⟩
  clear HE
  replace ha2 := ha2.b b3
  replace b3 := b2.trans (b3.mono b2.size)
  go_wp2_with (refine aP b3 ha2 (Nat.le_refl _) rfl _ _ _ rfl rfl (ss.map bv) rfl 32 (by rw [List.length_map, hsl.out]) (by kernel_rfl) (by rw [List.size_toArray, List.length_map]; exact hzl.out) (by simp [Value.oneCell']) ?_
               intro w6 a6 b6 k6 z6)
  refine bodyPost_ret (results_cell_row rfl _ _ w.heap.size _ _ (0, 0) _ rfl a6 SS rfl (by rw [List.size_toArray, List.length_map, hsl.out]; kernel_rfl)) rfl ⟨rfl, b6⟩
theorem BO (bs : List UInt8) (B : Option Addr) (m c : Nat) (hm : bs.length = m) (hm2 : m ≤ 140737488355328) (w : World) (hr : Rd w B (bs.map bv)) :
    Calls prog 67 #[.slice B m c] w fun e w' => e = .returned (.agg (cK (lW bs))) ∧ Below w.heap.size w w' := by
  have hz := eK
  have hzl : (List.replicate 32 (0 : UInt8)).length = 32 := by simp
  obtain ⟨zs, hzs⟩ : ∃ zs : List UInt8, zs = List.replicate 32 0 := ⟨_, rfl⟩
  rw [← hzs] at hz hzl
  clear hzs
  replace hzl := Lib.hid hzl
  obtain ⟨ss, hss⟩ := Nm (uS bs)
  have hsl : ss.length = 32 := by rw [hss, iQ]
  rw [lW, ← hss]
  obtain ⟨dd, hdd⟩ := Nm (uS ss)
  have jM : dd.length = 32 := by rw [hdd, iQ]
  rw [← hdd]
  replace hss := Lib.hid hss
  replace hsl := Lib.hid hsl
  replace hdd := Lib.hid hdd
  replace jM := Lib.hid jM
  replace hm := Lib.hid hm
  go_enter func67, ntmps67
  have hb0 := (Below.refl w.heap.size w).alloc (Nat.le_refl _) (.cells (zs.map bv).toArray 35)
  have ha2 : Av (w.alloc (.cells (zs.map bv).toArray 35)) w.heap.size 35 (zs.map bv) := heap_alloc_new _ _
  go_wp2_with fail
  generalize w.alloc (.cells (zs.map bv).toArray 35) = w0 at *
  refine (Qz bs B m c hm.out hm2 w0 (hr.b hb0)).mono ?_
  rintro e w1 ⟨rfl, b1⟩
  rw [← hss.out]
  replace ha2 := ha2.b b1
  replace b1 := hb0.trans (b1.mono hb0.size)
  have q1 := Lib.hid ha2.lt
  go_wp2_with (refine aP (b1.alloc b1.size _) (heap_alloc_new _ _) b1.size rfl _ _ _ rfl rfl (ss.map bv) rfl 32 (by rw [List.length_map, hsl.out]) (by kernel_rfl) (by rw [List.size_toArray, List.length_map]; exact hzl.out) (by simp [Value.oneCell']) ?_
               intro w2 a3 b2 k2 z2
               replace z2 := Lib.hid z2
               replace ha2 := (ha2.alloc (.cells (zs.map bv).toArray 35)).same (k2 _ (Nat.ne_of_lt q1.out)))
  refine (Qz ss _ 32 32 hsl.out (by omega) w2 a3.rd).mono ?_
  rintro e w3 ⟨rfl, b3⟩
  rw [← hdd.out]
  replace ha2 := ha2.b b3
  replace b3 := b2.trans (b3.mono b2.size)
  go_wp2_with (refine aP b3 ha2 (Nat.le_refl _) rfl _ _ _ rfl rfl (dd.map bv) rfl 32 (by rw [List.length_map, jM.out]) (by kernel_rfl) (by rw [List.size_toArray, List.length_map]; exact hzl.out) (by simp [Value.oneCell']) ?_
               intro w6 a6 b6 k6 z6)
  refine bodyPost_ret (results_cell_row rfl _ _ w.heap.size _ _ (0, 0) _ rfl a6 SS rfl (by rw [List.size_toArray, List.length_map, jM.out]; kernel_rfl)) rfl ⟨rfl, b6⟩
end Go.Proofs.YtobjgebojhjhnaaGreatDoor
namespace Go.Proofs.YtobjgebojhjhnaaGreatDoor
open Go.RowKit
def Sr:List (List UInt8)→List (List UInt8)
 | []=>[]
 | [x]=>[gZ x x]
 |x :: y :: r=>gZ x y :: Sr r
set_option maxRecDepth 100000
set_option maxHeartbeats 16000000
open Go.RowKit Tryz
attribute [local go_sem high] eO gO gP iV
theorem Oe (a b : List UInt8) (ha : a.length = 32) (hb : b.length = 32) (w : World) :
    Calls prog 110 #[.agg (cK a), .agg (cK b)] w fun e w' => e = .returned (.agg (cK (gZ a b))) ∧ Below w.heap.size w w' := by
  have hz := eK
  have hzl : (List.replicate 32 (0 : UInt8)).length = 32 := by simp
  obtain ⟨zs, hzs⟩ : ∃ zs : List UInt8, zs = List.replicate 32 0 := ⟨_, rfl⟩
  rw [← hzs] at hz hzl
  clear hzs
  replace hzl := Lib.hid hzl
  obtain ⟨dd, hdd⟩ := Nm (lW (a ++ b))
  have jM : dd.length = 32 := by rw [hdd, fP]
  rw [gZ, ← hdd]
  replace hdd := Lib.hid hdd
  replace jM := Lib.hid jM
  replace ha := Lib.hid ha
  replace hb := Lib.hid hb
  have hle1 : ([] : List UInt8).length + 32 ≤ 140737488355328 := by simp
  have hle2 : a.length + 32 ≤ 140737488355328 := by rw [ha.out]; omega
  go_enter func110, ntmps110
  have b0 : Below w.heap.size w (((w.alloc (.cells (a.map bv).toArray 35)).alloc (.cells (b.map bv).toArray 35)).alloc (.cells (zs.map bv).toArray 35)) := (((Below.refl _ _).alloc (Nat.le_refl _) _).alloc (by simp) _).alloc (by simp; omega) _
  have a0 : Av (((w.alloc (.cells (a.map bv).toArray 35)).alloc (.cells (b.map bv).toArray 35)).alloc (.cells (zs.map bv).toArray 35)) w.heap.size 35 (a.map bv) := Av.alloc (heap_alloc2_old _ _ _) _
  have a1 : Av (((w.alloc (.cells (a.map bv).toArray 35)).alloc (.cells (b.map bv).toArray 35)).alloc (.cells (zs.map bv).toArray 35)) (w.heap.size + 1) 35 (b.map bv) := Av.alloc (heap_alloc2_new _ _ _) _
  have a2 : Av (((w.alloc (.cells (a.map bv).toArray 35)).alloc (.cells (b.map bv).toArray 35)).alloc (.cells (zs.map bv).toArray 35)) (w.heap.size + 1 + 1) 35 (zs.map bv) := by
    have := heap_alloc_new ((w.alloc (.cells (a.map bv).toArray 35)).alloc (.cells (b.map bv).toArray 35)) (.cells (zs.map bv).toArray 35)
    have e : ∀ (v : World) (o : Obj), (v.alloc o).heap.size = v.heap.size + 1 := fun v o => by simp
    rw [e, e] at this
    exact this
  go_upto_region 1 with fail
  generalize ((w.alloc (.cells (a.map bv).toArray 35)).alloc (.cells (b.map bv).toArray 35)).alloc (.cells (zs.map bv).toArray 35) = w0 at *
  have hmade := cE.made w0 w0.heap.size (Nat.le_refl _) #[] 0 (by simp only [maxLen]; omega) rfl
  have hbm := (Below.refl w0.heap.size w0).alloc (Nat.le_refl _) (.cells #[] 5)
  have hr0 := a0.rd.b hbm
  go_wp2_with (first
    | (at_builtin
       refine aQ hmade hbm hbm.size 32 32 hr0 ha.out hle1 rfl (.tmp 6) (.tmp 7) rfl rfl rfl ?_
       intro y1 w1 hown hb1 hz1 hg1
       rw [List.nil_append] at hown
       have hr1 := a1.rd.b hb1)
    | (at_builtin
       refine aQ hown hb1 hb1.size 32 32 hr1 hb.out hle2 rfl (.tmp 9) (.tmp 10) rfl rfl rfl ?_
       intro y2 w2 hown2 hb2 hz2 hg2
       obtain ⟨A2, c2, rfl, hc2, _⟩ := hown2.formN 64 (by rw [List.length_append, ha.out, hb.out])))
  replace a2 := a2.b hb2
  replace b0 := b0.trans (hb2.mono b0.size)
  refine (BO (a ++ b) A2 64 c2 (by rw [List.length_append, ha.out, hb.out]) (by omega) w2 hown2.rd).mono ?_
  rintro e w3 ⟨rfl, b3⟩
  rw [← hdd.out]
  replace a2 := a2.b b3
  replace b3 := b0.trans (b3.mono b0.size)
  go_wp2_with (refine aP b3 a2 (by omega) rfl _ _ _ rfl rfl (dd.map bv) rfl 32 (by rw [List.length_map, jM.out]) (by kernel_rfl) (by rw [List.size_toArray, List.length_map]; exact hzl.out) (by simp [Value.oneCell']) ?_
               intro w6 a6 b6 k6 z6)
  refine bodyPost_ret (results_cell_row rfl _ _ (w.heap.size + 1 + 1) _ _ (0, 0) _ rfl a6 SS rfl (by rw [List.size_toArray, List.length_map, jM.out]; kernel_rfl)) rfl ⟨rfl, b6⟩
end Go.Proofs.YtobjgebojhjhnaaGreatDoor
namespace Go.Proofs.YtobjgebojhjhnaaGreatDoor
open Go.RowKit Tryz
theorem DF:∀ k:Nat,k≤12→1≤(2:Int) ^ k∧(2:Int) ^ k≤4096:=by decide
theorem Ca (n ht:Int) (w:World):Calls prog 109 #[.int .i64 n,.int .i64 ht] w fun e w'=>e= .returned (.int .i64 (iF n ht))∧w'=w:=by
 by_cases hh:ht<0
 ·go_enter func109,ntmps109
  go_wp2
  go_ret
  exact⟨by rw[iF,if_pos hh];rfl,rfl⟩
 ·have h0:0≤ht:=by omega
  obtain⟨M,hM⟩:=Nm (min (max n 0) 4096)
  have hM0:0≤M:=by omega
  have hM1:M≤4096:=by omega
  obtain⟨V,hV⟩:=Nm (iF n ht)
  have hVk:∀ k:Nat,(min ht 12).toNat=k→V=(M+2 ^ k - 1) / 2 ^ k:=fun k hk=>by rw[hV,iF,if_neg hh,hk,hM]
  rw[← hV]
  clear hV hh
  replace hVk:=Hy hVk
  rcases (show n<0∨(0≤n∧n≤4096)∨4096<n by omega) with hn|hn|hn <;>
  ·go_enter func109,ntmps109
   go_wp2
   all_goals try (exfalso;omega)
   all_goals
    go_loopw [5,6] (fun p i wr=>∃ (k:Nat) (P:Int),Hid (P=2 ^ k)∧k≤12∧(k:Int)≤ht∧p= .int .i64 P∧i= .int .i64 (k:Int)∧wr=w) (fun _ i _=>12 - (intOf i).toNat)
    case atStart=>exact⟨0,1,Hy DC,by omega,by omega,rfl,rfl,rfl⟩
    case round=>
     obtain⟨k,P,hP,hk,hkh,rfl,rfl,rfl⟩:=hrel
     have hpb:=DF k hk
     rw[← hP.out] at hpb
     by_cases hlt:(k:Int)<ht∧k<12
     ·have t1:decide ((k:Int)<ht)=true:=decide_eq_true hlt.1
      have t2:decide ((k:Int)<12)=true:=decide_eq_true OM
      have hpb2:=DF (k+1) OM
      rw[Int.pow_succ,← hP.out] at hpb2
      go_wp2
      refine⟨⟨k+1,P*2,Hy (by rw[Int.pow_succ,hP.out]),by omega,by omega,rfl,rfl,trivial⟩,?_⟩
      simp[intOf];omega
     ·have hv:=Hy (hVk.out k OM)
      rw[← hP.out] at hv
      have hP0:(P==0)=false:=by simp;omega
      have hP1:P≠0:=by omega
      by_cases hl:(k:Int)<ht
      ·have t1:decide ((k:Int)<ht)=true:=decide_eq_true hl
       have t2:decide ((k:Int)<12)=false:=decide_eq_false OM
       go_wp2
       go_ret
       refine⟨congrArg (fun x=>Ending.returned (Value.int IntKind.i64 x)) ?_,rfl⟩
       rw[hv.out]
       congr 1
       omega
      ·have t1:decide ((k:Int)<ht)=false:=decide_eq_false hl
       go_wp2
       go_ret
       refine⟨congrArg (fun x=>Ending.returned (Value.int IntKind.i64 x)) ?_,rfl⟩
       rw[hv.out]
       congr 1
       omega
theorem MZ (n:Int) (k:Nat) (h12:k≤12) (hlo:∀ j:Nat,j<k→1<iF n j) (hhi:iF n k≤1) (w:World):Calls prog 75 #[.int .i64 n] w fun e w'=>e= .returned (.int .i64 (k:Int))∧w'=w:=by
 have HW:=Hy (fun (h:Int) w=>Ca n h w)
 go_enter func75,ntmps75
 go_wp2
 go_loopw [3] (fun i wr=>∃ j:Nat,j≤k∧i= .int .i64 (j:Int)∧wr=w) (fun i _=>k - (intOf i).toNat)
 case atStart=>exact⟨0,by omega,rfl,rfl⟩
 case round=>
  obtain⟨j,hj,rfl,rfl⟩:=hrel
  by_cases hjk:j<k
  ·have h1:=hlo j hjk
   have h2:decide (1<iF n j)=true:=by simpa using h1
   go_wp2_with (go_at_call 109;refine(HW.out _ _).mono ?_;rintro e w' ⟨rfl,rfl⟩)
   refine⟨⟨j+1,by omega,by go_num,trivial⟩,?_⟩
   simp[intOf];omega
  ·obtain rfl:j=k:=by omega
   have h2:decide (1<iF n j)=false:=by simp;omega
   go_wp2_with (go_at_call 109;refine(HW.out _ _).mono ?_;rintro e w' ⟨rfl,rfl⟩)
   go_ret
   exact⟨rfl,rfl⟩
open Go.RowKit
attribute [local go_sem high] eO gO gP
end Go.Proofs.YtobjgebojhjhnaaGreatDoor
namespace Go.Proofs.YtobjgebojhjhnaaGreatDoor
set_option maxRecDepth 100000
set_option maxHeartbeats 16000000
open Go.RowKit Tryz
theorem QR (h:Hd) (k:h.ok) (w:World):
  Calls prog 73 #[.agg (fC h).toArray] w fun e w'=>(∃ A c,e= .returned (.slice A 80 c)∧cE w' w.heap.size (.slice A 80 c) (DZ h))∧Below w.heap.size w w':=by
 have HF:=fun (n:Nat) (hn:n<4294967296) (w:World)=>QQ n hn w
 obtain⟨c0,c3,c4,c5⟩:=Bu k
 obtain⟨W,hW⟩:=Nm (w.alloc (.cells (fC h).toArray 37))
 obtain⟨H,hH⟩:=Nm (w.heap.size)
 have aW:Av W H 37 (fC h):=by rw[hW,hH];exact heap_alloc_new _ _
 have bW:Below H w W:=by rw[hW,hH];exact(Below.refl _ _).alloc LR _
 have sW:W.heap.size=H+1:=by rw[hW,hH];simp
 have q1:=k.2.1
 have q2:=k.2.2.1
 have hB80:=pN k
 have hres:Cm.lo 4 h.ver++h.prev++h.root++Cm.lo 4 h.time++Cm.lo 4 h.bits++Cm.lo 4 h.nonce=DZ h:=by simp[DZ]
 obtain⟨V,hV⟩:=Nm (DZ h)
 rw[← hV] at hres hB80 ⊢
 have hN:∃ n0 n3 n4 n5:Nat,h.ver=n0∧h.time=n3∧h.bits=n4∧h.nonce=n5:=⟨_,_,_,_,rfl,rfl,rfl,rfl⟩
 obtain⟨n0,n3,n4,n5,e0,e3,e4,e5⟩:=hN
 have F0:=Hy (fun w=>HF n0 (by have:=k.1;omega) w)
 have F3:=Hy (fun w=>HF n3 (by have:=k.2.2.2.1;omega) w)
 have F4:=Hy (fun w=>HF n4 (by have:=k.2.2.2.2.1;omega) w)
 have F5:=Hy (fun w=>HF n5 (by have:=k.2.2.2.2.2;omega) w)
 clear HF
 rw[e0] at c0 hres
 rw[e3] at c3 hres
 rw[e4] at c4 hres
 rw[e5] at c5 hres
 have d0:=aW.cell 0 _ c0
 have p1:=nM (Av.hd_prev aW)
 have p2:=nM (Av.hd_root k aW)
 clear e0 e3 e4 e5 c0
 replace hV:=Hy hV
 replace hW:=Hy hW
 replace hH:=Hy hH
 replace sW:=Hy sW
 replace hres:=Hy hres
 replace hB80:=Hy hB80
 replace q1:=Hy q1
 replace q2:=Hy q2
 replace c3:=Hy c3
 replace c4:=Hy c4
 replace c5:=Hy c5
 go_enter func73,ntmps73
 go_upto_region 1 with fail
 rw[← hW.out,← hH.out]
 go_upto_region 2 with (go_at_call 108;refine(F0.out W).mono ?_;rintro e w1 ⟨⟨A1,c1,rfl,o1⟩,b1⟩)
 have p1':=p1.b b1
 have p2':=p2.b b1
 go_upto_region 3 with (at_builtin;refine aQ o1 b1 b1.size 32 32 p1' q1.out (by simp only[Cm.lo_length];omega) rfl (.tmp 7) (.tmp 9) rfl rfl rfl ?_;intro v2 w2 o2 b2 _ _)
 have p2'':=p2.b b2
 go_upto_region 4 with (at_builtin;refine aQ o2 b2 b2.size 32 32 p2'' q2.out (by simp only[List.length_append,Cm.lo_length,q1.out];omega) rfl (.tmp 11) (.tmp 13) rfl rfl rfl ?_;intro v3 w3 o3 b3 _ _)
 have d3:=(aW.b b3).cell 65 _ c3.out
 go_upto_region 5 with (first
  |(go_at_call 108;refine(F3.out w3).mono ?_;rintro e w4 ⟨⟨A4,c4',rfl,r4⟩,b4⟩;have o4:=o3.b b4;have bb4:=b3.trans (b4.mono b3.size))
  |(at_builtin;refine aQ o4 bb4 bb4.size 4 c4' r4.rd (Cm.lo_length _ _) (by simp only[List.length_append,Cm.lo_length,q1.out,q2.out];omega) rfl (.tmp 15) (.tmp 18) rfl rfl rfl ?_;intro v5 w5 o5 b5 _ _))
 have d4:=(aW.b b5).cell 66 _ c4.out
 go_upto_region 6 with (first
  |(go_at_call 108;refine(F4.out w5).mono ?_;rintro e w6 ⟨⟨A6,c6',rfl,r6⟩,b6⟩;have o6:=o5.b b6;have bb6:=b5.trans (b6.mono b5.size))
  |(at_builtin;refine aQ o6 bb6 bb6.size 4 c6' r6.rd (Cm.lo_length _ _) (by simp only[List.length_append,Cm.lo_length,q1.out,q2.out];omega) rfl (.tmp 20) (.tmp 23) rfl rfl rfl ?_;intro v7 w7 o7 b7 _ _))
 have d5:=(aW.b b7).cell 67 _ c5.out
 go_wp2_with (first
  |(go_at_call 108;refine(F5.out w7).mono ?_;rintro e w8 ⟨⟨A8,c8',rfl,r8⟩,b8⟩;have o8:=o7.b b8;have bb8:=b7.trans (b8.mono b7.size))
  |(at_builtin;refine aQ o8 bb8 bb8.size 4 c8' r8.rd (Cm.lo_length _ _) (by simp only[List.length_append,Cm.lo_length,q1.out,q2.out];omega) rfl (.tmp 25) (.tmp 28) rfl rfl rfl ?_;intro v9 w9 o9 b9 _ _))
 rw[hres.out] at o9
 obtain⟨A9,c9,rfl,_⟩:=o9.formN 80 hB80.out
 go_ret
 have e9:H≤W.heap.size:=by rw[sW.out];omega
 rw[← hH.out]
 exact⟨⟨A9,c9,rfl,o9.low e9⟩,bW.trans (b9.mono e9)⟩
theorem QS (h:Hd) (k:h.ok) (w:World):
  Calls prog 49 #[.agg (fC h).toArray] w fun e w'=>e= .returned (.agg (cK (dS h)))∧Below w.heap.size w w':=by
 have HP:=QR h k
 have HD:=fun (w:World) (A:Option Addr) (c:Nat) (r:Rd w A ((DZ h).map bv))=>BO (DZ h) A 80 c (pN k) OM w r
 obtain⟨W,hW⟩:=Nm ((w.alloc (.cells (fC h).toArray 37)).alloc (.cells ((List.replicate 32 (0:UInt8)).map bv).toArray 35))
 obtain⟨H,hH⟩:=Nm (w.heap.size)
 have aW:Av W H 37 (fC h):=by rw[hW,hH];exact heap_alloc2_old _ _ _
 have rW:Av W (H+1) 35 ((List.replicate 32 (0:UInt8)).map bv):=by rw[hW,hH];exact heap_alloc2_new _ _ _
 have bW:Below H w W:=by rw[hW,hH];exact((Below.refl _ _).alloc LR _).alloc zS _
 have sW:W.heap.size=H+2:=by rw[hW,hH];simp
 have h68:=Hy (cJ k)
 have hz:=eK
 obtain⟨zs,hzs⟩:∃ zs:List UInt8,zs=List.replicate 32 0:=⟨_,rfl⟩
 have hzl:zs.length=32:=by rw[hzs];simp
 rw[← hzs] at hW rW hz
 clear hzs
 obtain⟨I,hI⟩:=Nm (dS h)
 have hIl:I.length=32:=by rw[hI];exact fZ h
 have HD2:Hid (∀ (w:World) (A:Option Addr) (c:Nat) (_:Rd w A ((DZ h).map bv)),Calls prog 67 #[.slice A 80 c] w fun e w'=>e= .returned (.agg (cK I))∧Below w.heap.size w w'):=Hy (by intro w A c r;rw[hI];exact HD w A c r)
 rw[← hI]
 clear HD
 replace HP:=Hy HP
 replace hI:=Hy hI
 replace hW:=Hy hW
 replace hH:=Hy hH
 replace sW:=Hy sW
 replace hzl:=Hy hzl
 replace hIl:=Hy hIl
 go_enter func49,ntmps49
 go_upto_region 1 with fail
 rw[← hW.out,← hH.out]
 have hH1:w.heap.size≤H+1:=by rw[hH.out];omega
 have hHW:w.heap.size≤W.heap.size:=by rw[sW.out,hH.out];omega
 rw[hH.out] at bW
 go_wp2_with (first
  |((with_reducible refine LF aW 68 h68.out Tb ?_ ?_);rfl)
  |(go_at_call 73;refine(HP.out W).mono ?_;rintro e w1 ⟨⟨A1,c1,rfl,o1⟩,b1⟩;have r1:=o1.rd)
  |(go_at_call 67;refine(HD2.out w1 A1 c1 r1).mono ?_;rintro e w2 ⟨rfl,b2⟩;have r2:=(rW.b b1).b b2;have bb3:=bW.trans ((b1.trans (b2.mono b1.size)).mono hHW))
  |((with_reducible refine dR 35 bb3 r2 hH1 (I.map bv) ?_ ?_ 32 ?_ ?_ ?_ ?_ ?_);rfl;rfl;(rw[List.length_map,hIl.out]);kernel_rfl;(rw[List.length_map];exact hzl.out);(simp[Value.oneCell']);intro w6 a6 b6 k6 z6))
 refine bodyPost_ret (results_cell_row rfl _ _ (H+1) _ _ (0,0) _ bM a6 SS rfl (by rw[List.size_toArray,List.length_map,hIl.out];kernel_rfl)) rfl ⟨rfl,b6⟩
end Go.Proofs.YtobjgebojhjhnaaGreatDoor
