import Derived.Test.YtobjgebojhjhnaaGreatDoorQr7
namespace Go.Proofs.YtobjgebojhjhnaaGreatDoor
set_option maxRecDepth 100000
set_option maxHeartbeats 16000000
open Go.RowKit Tryz
attribute [local go_sem high] eO gO gP
theorem BM {w:World} {base:Nat} {e t:TypeId} {size n g:Nat} {v:Value} {xs l:List Value} (h:w.ownsRow base e size v n xs) (ha:Av w g t l) (ht:e≠t):v.ownBlock≠some g:=by
 rcases h.2 with ⟨h1,_⟩|⟨g',cap,cur,e1,e2,e3,_⟩
 ·rw[h1];simp[Value.ownBlock]
 ·rw[e1]
  intro h'
  have:g'=g:=by simpa [Value.ownBlock] using h'
  subst this
  unfold Av at ha
  rw[e3] at ha
  injection Option.some.inj ha with _ h2
  exact ht h2
theorem Kh (ver lock:Nat) (l:List (lI × Sl)) (m:List (fA × Sl)) (A1 A2:Option Addr) (n1 n2 c1 c2:Nat) (hn1:l.length=n1) (hn2:m.length=n2) (hm1:n1≤maxLen) (hm2:n2≤maxLen) (w:World) (h1:fB w A1 l) (h2:dH w A2 m):
  Calls prog 96 #[.agg #[.int .u32 (ver:Int),.slice A1 n1 c1,.slice A2 n2 c2,.int .u32 (lock:Int)]] w fun e w'=>e= .returned (.bool (fN (cQ ver l m lock)))∧Below w.heap.size w w':=by
 obtain⟨b,hb⟩:=Nm (fN (cQ ver l m lock))
 have hsane:=iE (cQ ver l m lock)
 simp only[cQ,List.length_map,hn1,hn2,List.forall_mem_map] at hsane
 rw[← hb]
 rw[show FZ.mk ver (l.map (·.1)) (m.map (·.1)) lock=cQ ver l m lock from rfl,← hb] at hsane
 clear hb
 unfold maxLen at hm1 hm2
 replace hn1:=Hy hn1
 replace hn2:=Hy hn2
 replace hsane:=Hy hsane
 obtain⟨W,hW⟩:=Nm (w.alloc (.cells #[.int .u32 (ver:Int),.slice A1 n1 c1,.slice A2 n2 c2,.int .u32 (lock:Int)] 32))
 have bW:Below w.heap.size w W:=by rw[hW];exact(Below.refl _ _).alloc LR _
 have aW:Av W w.heap.size 32 [.int .u32 (ver:Int),.slice A1 n1 c1,.slice A2 n2 c2,.int .u32 (lock:Int)]:=by rw[hW];exact heap_alloc_new _ _
 go_enter func96,ntmps96
 go_upto_region 1 with fail
 rw[← hW]
 have hW':=Hy hW
 clear hW
 have q1:=aW.cell 1 _ rfl
 have q2:=aW.cell 2 _ rfl
 go_wp2
 go_loop [3] (fun i=>∃ k:Nat,k≤n1∧i= .int .i64 (k:Int)∧Hid (∀ e ∈ l.take k,e.1.scr.length≤10000)) (fun i=>n1 - (intOf i).toNat)
 case atStart=>exact⟨0,by omega,rfl,Hy zS⟩
 case round=>
  obtain⟨k,hk,rfl,hall⟩:=hrel
  by_cases hlt:k<n1
  ·have t4:decide ((k:Int)<(n1:Int))=true:=by simp;omega
   obtain⟨e,he⟩:∃ e,l[k]? =some e:=⟨_,List.getElem?_eq_getElem (by rw[hn1.out];exact hlt)⟩
   obtain⟨b1,off,rfl⟩:=h1.adr (by rw[hn1.out];omega)
   obtain⟨hrng,hin⟩:=(h1.b bW).nth k e he
   obtain⟨i32,i33,i34⟩:=uU hin
   obtain⟨q,hq⟩:∃ q,e.1.scr.length=q:=⟨_,rfl⟩
   rw[hq] at i33
   have hc:=hrng 33 _ i33
   have m0:0≤(k:Int):=by omega
   have m1:(k:Int)<(n1:Int):=by omega
   clear i32 i33 i34 hin hrng
   replace he:=Hy he
   replace hq:=Hy hq
   by_cases hq1:q≤10000
   ·have t5:decide ((10000:Int)<(q:Int))=false:=by simp;omega
    exact Xc138
   ·have t5:decide ((10000:Int)<(q:Int))=true:=by simp;omega
    exact Xc145
  ·obtain rfl:n1=k:=by omega
   have t4:decide ((n1:Int)<(n1:Int))=false:=by simp
   go_wp2
   go_loop [4] (fun i=>∃ j:Nat,j≤n2∧i= .int .i64 (j:Int)∧Hid (∀ e ∈ m.take j,e.1.scr.length≤10000)) (fun i=>n2 - (intOf i).toNat)
   case atStart=>exact⟨0,by omega,rfl,Hy zS⟩
   case round=>
    obtain⟨j,hj,rfl,hall2⟩:=hrel
    by_cases hlt2:j<n2
    ·have t5:decide ((j:Int)<(n2:Int))=true:=by simp;omega
     obtain⟨e,he⟩:∃ e,m[j]? =some e:=⟨_,List.getElem?_eq_getElem (by rw[hn2.out];exact hlt2)⟩
     obtain⟨b1,off,rfl⟩:=h2.adr (by rw[hn2.out];omega)
     obtain⟨hrng,hin⟩:=(h2.b bW).nth j e he
     obtain⟨q,hq⟩:∃ q,e.1.scr.length=q:=⟨_,rfl⟩
     have i33:(kB e)[1]? =some (BE q e.2):=by rw[← hq];rfl
     have hc:=hrng 1 _ i33
     have m0:0≤(j:Int):=by omega
     have m1:(j:Int)<(n2:Int):=by omega
     clear i33 hin hrng
     replace he:=Hy he
     replace hq:=Hy hq
     by_cases hq1:q≤10000
     ·have t6:decide ((10000:Int)<(q:Int))=false:=by simp;omega
      exact Xc137
     ·have t6:decide ((10000:Int)<(q:Int))=true:=by simp;omega
      go_wp2
      go_ret
      refine⟨?_,bW⟩
      have:b=false:=by
       cases b
       ·rfl
       ·have:=(hsane.out.1 rfl).2.2 e (List.mem_of_getElem? he.out)
        rw[hq.out] at this
        exact absurd this hq1
      rw[this];rfl
    ·obtain rfl:n2=j:=by omega
     have t5:decide ((n2:Int)<(n2:Int))=false:=by simp
     have hs1:∀ e ∈ l,e.1.scr.length≤10000:=fun e he=>hall.out e (by rw[List.take_of_length_le (by rw[hn1.out];omega)];exact he)
     have hs2:∀ e ∈ m,e.1.scr.length≤10000:=fun e he=>hall2.out e (by rw[List.take_of_length_le (by rw[hn2.out];omega)];exact he)
     have hbv:b=decide (1≤n1∧n1≤1000∧n2≤1000):=by
      cases b
      ·by_cases hc:1≤n1∧n1≤1000∧n2≤1000
       ·have:=hsane.out.2 ⟨⟨hc.1,hc.2.1,hc.2.2⟩,hs1,hs2⟩
        simp at this
       ·simp[hc]
      ·have:=(hsane.out.1 rfl).1
       simp[this]
     clear hs1 hs2
     by_cases w0:1≤n1
     ·have t8:decide ((1:Int)≤(n1:Int))=true:=by simp;omega
      by_cases w1:n1≤1000
      ·have t6:decide ((n1:Int)≤1000)=true:=by simp;omega
       by_cases w2:n2≤1000
       ·have t7:decide ((n2:Int)≤1000)=true:=by simp;omega
        obtain rfl:b=true:=by rw[hbv];simp[w0,w1,w2]
        clear hbv
        go_wp2
        go_ret
        exact⟨rfl,bW⟩
       ·have t7:decide ((n2:Int)≤1000)=false:=by simp;omega
        obtain rfl:b=false:=by rw[hbv];simp[w2]
        clear hbv
        go_wp2
        go_ret
        exact⟨rfl,bW⟩
      ·have t6:decide ((n1:Int)≤1000)=false:=by simp;omega
       obtain rfl:b=false:=by rw[hbv];simp[w1]
       clear hbv
       go_wp2
       go_ret
       exact⟨rfl,bW⟩
     ·have t8:decide ((1:Int)≤(n1:Int))=false:=by simp;omega
      have t9:decide (1≤n1)=false:=by simp;omega
      obtain rfl:b=false:=by rw[hbv];simp[w0]
      clear hbv
      go_wp2
      go_ret
      exact⟨rfl,bW⟩
theorem Qx (m:Int) (h0:0≤m) (K:Nat) (hK:K≤8) (w:World):
  Calls prog 97 #[.int .u64 m,.int .i64 (K:Int)] w fun e w'=>∃ v,e= .returned v∧cE w' w.heap.size v (Cm.lo K m.toNat)∧Below w.heap.size w w':=by
 go_enter func97,ntmps97
 go_wp2
 go_loopw [5,6] (fun v i wr=>∃ k:Nat,k≤K∧i= .int .i64 (k:Int)∧cE wr w.heap.size v (Cm.lo k m.toNat)∧Below w.heap.size w wr) (fun _ i _=>K - (intOf i).toNat)
 case atStart=>exact⟨0,Nat.zero_le _,rfl,cE.nil _ _,Below.refl _ _⟩
 case round=>
  obtain⟨k,hk,rfl,ho,hbr⟩:=hrel
  have hll:(Cm.lo k m.toNat).length≤8:=by rw[Cm.lo_length];omega
  by_cases hkm:k<K
  ·have t1:decide ((k:Int)<(K:Int))=true:=by simp;omega
   go_wp2_with (at_builtin;refine dL ho hbr hbr.size (UInt8.ofNat (m.toNat / 256 ^ k)) (tR m h0 k) OM rfl (.tmp 12) (.tmp 19) rfl rfl rfl ?_;intro v3 w3 hown3 hb4 hz4)
   go_roundw
   case rel=>exact⟨k+1,by omega,by go_num,by rw[Cm.lo_snoc];exact hown3,hb4⟩
   case measure=>simp[intOf];omega
  ·obtain rfl:K=k:=by omega
   have t1:decide ((K:Int)<(K:Int))=false:=by simp
   go_wp2
   go_ret
   exact⟨_,rfl,ho,hbr⟩
theorem Ki (n:Nat) (K:Nat) (hK:K≤8) (w:World):
  Calls prog 97 #[.int .u64 (n:Int),.int .i64 (K:Int)] w fun e w'=>∃ v,e= .returned v∧cE w' w.heap.size v (Cm.lo K n)∧Below w.heap.size w w':=by
 have:=Qx (n:Int) OM K hK w
 rwa [Int.toNat_natCast] at this
theorem Gn (bs:List UInt8) (A:Option Addr) (n c:Nat) (hn:bs.length=n) (hm:n≤1000000) (w:World) (hr:Rd w A (bs.map bv)):
  Calls prog 99 #[.slice A n c] w fun e w'=>∃ v,e= .returned v∧cE w' w.heap.size v (Cm.put n++bs)∧Below w.heap.size w w':=by
 have HP:=uW [] none 0 0 (n:Int) OM (Cm.put n) (by rw[Int.toNat_natCast,List.nil_append]) w (Rd.nil _ _) rfl OM
 have hpl:=(Cm.size_le n).2
 have hpl2:(Cm.put n).length≤9:=by rw[Cm.put_length];exact hpl
 replace HP:=Hy HP
 replace hn:=Hy hn
 go_enter func99,ntmps99
 go_wp2_with (first
  |(go_at_call 98;refine(HP.out).mono ?_;rintro e w1 ⟨v1,rfl,o1,b1⟩)
  |(at_builtin;refine aQ o1 b1 b1.size n c (hr.b b1) hn.out OM rfl (.tmp 8) (.tmp 9) rfl rfl rfl ?_;intro v2 w2 o2 b2 z2 gr2))
 go_ret
 exact⟨_,rfl,o2,b2⟩
theorem Xm103 {p q:Prop} (k:q) (h:Hid q→p:=by
 intro hk
 rw[hs] at HS
 obtain⟨W,hW⟩:=Nm (w.alloc (.cells #[.int .u32 (ver:Int),.slice A1 n1 c1,.slice A2 n2 c2,.int .u32 (lock:Int)] 32))
 obtain⟨T,hT1⟩:=Nm (w.heap.size)
 have bW:Below w.heap.size w W:=by rw[hW];exact(Below.refl _ _).alloc LR _
 have aT:Av W T 32 [.int .u32 (ver:Int),.slice A1 n1 c1,.slice A2 n2 c2,.int .u32 (lock:Int)]:=by rw[hW,hT1];exact heap_alloc_new _ _
 have HS2:=HS.out W (h1.b bW) (h2.b bW)
 replace HS2:=Hy HS2
 revert HS W hW T hT1 bW aT HS2;exact hk.out):p:=h (Hy k)
theorem Kj (ver lock:Nat) (l:List (lI × Sl)) (m:List (fA × Sl)) (A1 A2:Option Addr) (n1 n2 c1 c2:Nat) (hn1:l.length=n1) (hn2:m.length=n2) (w:World) (h1:fB w A1 l) (h2:dH w A2 m) (hm1:n1≤maxLen) (hm2:n2≤maxLen) (hs:fN (cQ ver l m lock)=false):
  Calls prog 66 #[.agg #[.int .u32 (ver:Int),.slice A1 n1 c1,.slice A2 n2 c2,.int .u32 (lock:Int)]] w fun e w'=>e= .returned (.tuple #[.slice none 0 0,.int .i64 3])∧Below w.heap.size w w':=by
 have HS:=Hy (fun w h1 h2=>Kh ver lock l m A1 A2 n1 n2 c1 c2 hn1 hn2 hm1 hm2 w h1 h2)
 refine Xm103 ?_;try clear HS;intro HS W hW T hT1 bW aT HS2
 clear hs hn1 hn2 HS
 replace hW:=Hy hW
 replace hT1:=Hy hT1
 go_enter func66,ntmps66
 go_upto_region 1 with fail
 rw[← hT1.out]
 rw[← hW.out]
 go_wp2_with (first
  |((with_reducible refine LH aT 4 Ti ?_ ?_);rfl)
  |(go_at_call 96;refine(HS2.out).mono ?_;rintro e w2 ⟨rfl,b2⟩))
 go_ret2
 exact⟨rfl,bW.trans (b2.mono bW.size)⟩
theorem MH (ver lock:Nat) (hver:ver<4294967296) (hlock:lock<4294967296) (l:List (lI × Sl)) (m:List (fA × Sl)) (A1 A2:Option Addr) (n1 n2 c1 c2:Nat) (hn1:l.length=n1) (hn2:m.length=n2) (w:World) (h1:fB w A1 l) (h2:dH w A2 m) (hs:fN (cQ ver l m lock)=true):
  Calls prog 66 #[.agg #[.int .u32 (ver:Int),.slice A1 n1 c1,.slice A2 n2 c2,.int .u32 (lock:Int)]] w fun e w'=>∃ v,e= .returned (.tuple #[v,.int .i64 0])∧cE w' w.heap.size v (yT (cQ ver l m lock))∧Below w.heap.size w w':=by
 have hsn:=(iE _).1 hs
 simp only[cQ,List.length_map,hn1,hn2,List.forall_mem_map] at hsn
 obtain⟨⟨k1,k2,k3⟩,s1,s2⟩:=hsn
 have HS:=Hy (fun w h1 h2=>Kh ver lock l m A1 A2 n1 n2 c1 c2 hn1 hn2 (by simp only[maxLen];omega) (by simp only[maxLen];omega) w h1 h2)
 refine Xm103 ?_;try clear HS;intro HS W hW T hT1 bW aT HS2
 have HV:=fun w=>Ki ver 4 OM w
 have HK:=fun w=>Ki lock 4 OM w
 have HC1:=fun w=>uW [] none 0 0 (n1:Int) OM (Cm.put n1) (by rw[Int.toNat_natCast,List.nil_append]) w (Rd.nil _ _) rfl OM
 have HC2:=fun w=>uW [] none 0 0 (n2:Int) OM (Cm.put n2) (by rw[Int.toNat_natCast,List.nil_append]) w (Rd.nil _ _) rfl OM
 have hp1:(Cm.put n1).length≤9:=by rw[Cm.put_length];exact(Cm.size_le n1).2
 have hp2:(Cm.put n2).length≤9:=by rw[Cm.put_length];exact(Cm.size_le n2).2
 have hWs:w.heap.size≤W.heap.size:=bW.size
 clear hs HS
 replace s1:=Hy s1
 replace s2:=Hy s2
 replace hn1:=Hy hn1
 replace hn2:=Hy hn2
 replace HV:=Hy HV
 replace HK:=Hy HK
 replace HC1:=Hy HC1
 replace HC2:=Hy HC2
 replace hW:=Hy hW
 replace hT1:=Hy hT1
 go_enter func66,ntmps66
 go_upto_region 1 with fail
 rw[← hT1.out]
 rw[← hW.out]
 go_upto_region 3 with (first
  |((with_reducible refine LH aT 4 Ti ?_ ?_);rfl)
  |(go_at_call 96;refine(HS2.out).mono ?_;rintro e wa ⟨rfl,ba⟩))
 have aTa:=aT.b ba
 have cTa:=aTa.cell 0 _ rfl
 go_upto_region 4 with (go_at_call 97;refine(HV.out wa).mono ?_;rintro e wb ⟨vb,rfl,ob,bb⟩)
 have bqb:=ba.trans (bb.mono ba.size)
 have ownb:cE wb W.heap.size vb (Cm.lo 4 ver):=cE.low ob ba.size
 have aTb:=aT.b bqb
 have cTb:=aTb.cell 1 _ rfl
 clear ob ba bb aTa cTa HS2
 obtain⟨ln0,hln0⟩:∃ ln,(Cm.put n1).length=ln:=⟨_,rfl⟩
 have hlb0:=hln0
 replace hln0:=Hy hln0
 go_upto_region 5 with (first
  |(go_at_call 98;refine(HC1.out wb).mono ?_;rintro e x0 ⟨y0,rfl,p0,d0⟩;obtain⟨D0,e0,rfl,_,_⟩:=p0.formN ln0 hln0.out)
  |(at_builtin;refine aQ (ownb.b d0) (bqb.trans (d0.mono bqb.size)) (Nat.le_trans bqb.size d0.size) ln0 e0 p0.rd hln0.out (by rw[Cm.lo_length];omega) rfl (.tmp 15) (.tmp 20) rfl rfl rfl ?_;intro v0 w0 own0 bq0 z0 gr0))
 have aT0:=aT.b bq0
 clear d0 p0 gr0 z0 ownb bqb
 obtain⟨hd,hhd⟩:=Nm (Cm.lo 4 ver++Cm.put n1)
 have hhl:hd.length≤13:=by rw[hhd,List.length_append,Cm.lo_length];omega
 rw[← hhd] at own0
 replace hhd:=Hy hhd
 clear cTb aTb
 go_wp2
 clear aT0
 go_loopw [4,5,6] (fun v i _ wr=>∃ (k:Nat) (bs:List UInt8),k≤n1∧i= .int .i64 (k:Int)∧Below W.heap.size W wr∧cE wr W.heap.size v bs∧Hid (bs=hd++(l.take k).flatMap (fun e=>Mx e.1))∧bs.length≤13+k*10049) (fun _ i _ _=>n1 - (intOf i).toNat)
 case atStart=>exact⟨0,hd,Nat.zero_le _,rfl,bq0,own0,Hy zS,by omega⟩
 case round=>
  clear own0 bq0
  obtain⟨k,bs,hk,rfl,bq,own,hbs,hbl⟩:=hrel
  have aTr:=aT.b bq
  have cTr:=aTr.cell 1 _ rfl
  by_cases hlt:k<n1
  ·have t1:decide ((k:Int)<(n1:Int))=true:=by simp;omega
   obtain⟨e,he⟩:∃ e,l[k]? =some e:=⟨_,List.getElem?_eq_getElem (by rw[hn1.out];exact hlt)⟩
   obtain⟨bX,off,rfl⟩:=h1.adr (by rw[hn1.out];omega)
   obtain⟨hrng,hin⟩:=(h1.b (bW.trans (bq.mono bW.size))).nth k e he
   obtain⟨i32,i33,i34⟩:=uU hin
   have hl35:=iR hin
   have hone35:=nV (tY e)
   have p32:=hin.1.1
   have hscr:=hin.2.1
   have hscrW:=fun w' (hE:Below wr.heap.size wr w')=>hin.2.1.b hE
   have hs1e:=s1.out e (List.mem_of_getElem? he)
   obtain⟨q,hq⟩:∃ q,e.1.scr.length=q:=⟨_,rfl⟩
   rw[hq] at i33 hs1e
   have hpl:=(Cm.size_le q).2
   have hpl2:(Cm.put q).length≤9:=by rw[Cm.put_length];exact hpl
   have hi4:=hin.1.2.1
   have hq4:=hin.1.2.2
   have m0:0≤(k:Int):=by omega
   have m1:(k:Int)<(n1:Int):=by omega
   have prd:∀ w' g,Av w' g 97 (sB e)→Rd w' (some ⟨g,0,none⟩) (e.1.prev.map bv):=fun w' g a=>by
    have h:=a.rd.take (e.1.prev.map bv).length
    rw[sB,List.take_left'] at h
    ·exact h
    ·rfl
   have HL1:=fun w=>Ki e.1.idx 4 OM w
   have HL2:=fun w=>Ki e.1.seq 4 OM w
   have HSC:=fun w r=>Gn e.1.scr e.2.1 q e.2.2 hq OM w r
   replace he:=Hy he
   replace hq:=Hy hq
   replace hl35:=Hy hl35
   replace hone35:=Hy hone35
   replace p32:=Hy p32
   replace hscr:=Hy hscr
   replace hscrW:=Hy hscrW
   replace prd:=Hy prd
   replace HL1:=Hy HL1
   replace HL2:=Hy HL2
   replace HSC:=Hy HSC
   replace i32:=Hy i32
   replace i33:=Hy i33
   replace i34:=Hy i34
   clear hin hpl
   have aT0:=aT.b bq
   have cT1:=aT0.cell 1 _ rfl
   go_upto_region 9 with (first
    |(refine wpList_load_mid rfl _ _ rfl bX (off+k*35) rfl (sB e) _ hrng underlying97 rfl (by rw[hl35.out];kernel_rfl) ?_)
    |((with_reducible refine SN (sB e) 35 ?_ ?_ ?_ (hn:=hl35.out) (h1:=hone35.out));rfl;rfl;intro w3 a3 b3 k3 z3))
   obtain⟨X,hX⟩:=Nm (wr.heap.size)
   rw[← hX] at a3 ⊢
   replace hX:=Hy hX
   have own3:=own.b b3
   have bq3:=bq.trans (b3.mono bq.size)
   have hb3:=b3
   clear k3 z3 own hrng cT1 aT0
   go_upto_region 10 with (at_builtin;refine aQ own3 bq3 bq3.size 32 32 (prd.out w3 X a3) p32.out OM rfl (.tmp 34) (.tmp 36) rfl rfl rfl ?_;intro v4 w4 own4 bq4 z4 gr4)
   have a4:=(Fr.of_grown gr4).av a3 (fun e=>BM own3 a3 DC e.symm)
   have bl4:(bs++e.1.prev).length≤bs.length+32:=by rw[List.length_append,p32.out];exact Nat.le_refl _
   obtain⟨bs4,hbs4⟩:=Nm (bs++e.1.prev)
   rw[← hbs4] at own4 bl4
   replace hbs4:=Hy hbs4
   clear gr4 z4 own3 bq3 a3
   have c32:=a4.cell 32 _ i32.out
   go_upto_region 11 with (first
    |(go_at_call 97;refine(HL1.out w4).mono ?_;rintro e x5 ⟨y5,rfl,p5,d5⟩;obtain⟨D5,e5,rfl,_,_⟩:=p5.formN 4 (Cm.lo_length _ _))
    |(at_builtin;refine aQ (own4.b d5) (bq4.trans (d5.mono bq4.size)) (Nat.le_trans bq4.size d5.size) 4 e5 p5.rd (Cm.lo_length _ _) OM rfl (.tmp 38) (.tmp 42) rfl rfl rfl ?_;intro v5 w5 own5 bq5 z5 gr5))
   have aX5:=(Fr.of_grown gr5).av (a4.b d5) (fun e=>BM (own4.b d5) (a4.b d5) DC e.symm)
   have aT5:=aT.b bq5
   clear d5 p5 gr5 z5 own4 bq4 a4
   have bl5:(bs4++Cm.lo 4 e.1.idx).length≤bs.length+36:=by rw[List.length_append,Cm.lo_length];omega
   obtain⟨bs5,hbs5⟩:=Nm (bs4++Cm.lo 4 e.1.idx)
   rw[← hbs5] at own5 bl5
   replace hbs5:=Hy hbs5
   clear c32 aT5
   have c33:=aX5.cell 33 _ i33.out
   have hsr:=h1.b (bW.trans (bq5.mono bW.size))
   have hscr5:=(hsr.2 e (List.mem_of_getElem? he.out)).2.1
   clear hsr
   obtain⟨ln6,hln6⟩:∃ ln,(Cm.put q++e.1.scr).length=ln:=⟨_,rfl⟩
   have hlb6:=hln6
   rw[List.length_append,hq.out] at hlb6
   replace hln6:=Hy hln6
   go_upto_region 12 with (first
    |(go_at_call 99;refine(HSC.out w5 hscr5).mono ?_;rintro e x6 ⟨y6,rfl,p6,d6⟩;obtain⟨D6,e6,rfl,_,_⟩:=p6.formN ln6 hln6.out)
    |(at_builtin;refine aQ (own5.b d6) (bq5.trans (d6.mono bq5.size)) (Nat.le_trans bq5.size d6.size) ln6 e6 p6.rd hln6.out OM rfl (.tmp 44) (.tmp 47) rfl rfl rfl ?_;intro v6 w6 own6 bq6 z6 gr6))
   have aX6:=(Fr.of_grown gr6).av (aX5.b d6) (fun e=>BM (own5.b d6) (aX5.b d6) DC e.symm)
   have aT6:=aT.b bq6
   clear d6 p6 gr6 z6 own5 bq5 aX5
   have bl6:(bs5++(Cm.put q++e.1.scr)).length≤bs.length+(45+q):=by rw[List.length_append,List.length_append,hq.out];omega
   obtain⟨bs6,hbs6⟩:=Nm (bs5++(Cm.put q++e.1.scr))
   rw[← hbs6] at own6 bl6
   replace hbs6:=Hy hbs6
   clear c33 aT6 hscr5
   have c34:=aX6.cell 34 _ i34.out
   go_wp2_with (first
    |(go_at_call 97;refine(HL2.out w6).mono ?_;rintro e x7 ⟨y7,rfl,p7,d7⟩;obtain⟨D7,e7,rfl,_,_⟩:=p7.formN 4 (Cm.lo_length _ _))
    |(at_builtin;refine aQ (own6.b d7) (bq6.trans (d7.mono bq6.size)) (Nat.le_trans bq6.size d7.size) 4 e7 p7.rd (Cm.lo_length _ _) OM rfl (.tmp 49) (.tmp 53) rfl rfl rfl ?_;intro v7 w7 own7 bq7 z7 gr7))
   have bl7:(bs6++Cm.lo 4 e.1.seq).length≤bs.length+(49+q):=by rw[List.length_append,Cm.lo_length];omega
   obtain⟨bs7,hbs7⟩:=Nm (bs6++Cm.lo 4 e.1.seq)
   rw[← hbs7] at own7 bl7
   replace hbs7:=Hy hbs7
   go_roundw
   case rel=>exact⟨k+1,bs7,by omega,by go_num,bq7,own7,Hy (by
    rw[hbs7.out,hbs6.out,hbs5.out,hbs4.out,hbs.out,List.take_add_one,he.out]
    simp only[Option.toList_some,List.flatMap_append,List.flatMap_cons,List.flatMap_nil,List.append_nil,Mx,hq.out,List.append_assoc]),by omega⟩
   case measure=>simp[intOf];omega
  ·obtain rfl:n1=k:=by omega
   have t1:decide ((n1:Int)<(n1:Int))=false:=by simp
   have cTr2:=aTr.cell 2 _ rfl
   obtain⟨bh,hbh⟩:=Nm (bs++Cm.put n2)
   have hbhl:bh.length≤bs.length+9:=by rw[hbh,List.length_append];omega
   obtain⟨ln8,hln8⟩:∃ ln,(Cm.put n2).length=ln:=⟨_,rfl⟩
   have hlb8:=hln8
   replace hln8:=Hy hln8
   go_upto_region 14 with (first
    |(go_at_call 98;refine(HC2.out wr).mono ?_;rintro e x8 ⟨y8,rfl,p8,d8⟩;obtain⟨D8,e8,rfl,_,_⟩:=p8.formN ln8 hln8.out)
    |(at_builtin;refine aQ (own.b d8) (bq.trans (d8.mono bq.size)) (Nat.le_trans bq.size d8.size) ln8 e8 p8.rd hln8.out OM rfl (.tmp 55) (.tmp 60) rfl rfl rfl ?_;intro v8 w8 own8 bq8 z8 gr8))
   have aT8:=aT.b bq8
   clear d8 p8 gr8 z8 own bq
   rw[← hbh] at own8
   replace hbh:=Hy hbh
   clear aTr cTr cTr2
   go_wp2
   clear aT8
   go_loopw [4,7] (fun v i wr=>∃ (j:Nat) (bs:List UInt8),j≤n2∧i= .int .i64 (j:Int)∧Below W.heap.size W wr∧cE wr W.heap.size v bs∧Hid (bs=bh++(m.take j).flatMap (fun e=>vD e.1))∧bs.length≤bh.length+j*10017) (fun _ i _=>n2 - (intOf i).toNat)
   case atStart=>exact⟨0,bh,Nat.zero_le _,rfl,bq8,own8,Hy zS,by omega⟩
   case round=>
    clear own8 bq8
    obtain⟨j,bt,hj,rfl,bq,own,hbt,hbtl⟩:=hrel
    have aTr:=aT.b bq
    have cTr:=aTr.cell 2 _ rfl
    by_cases hlt2:j<n2
    ·have t2:decide ((j:Int)<(n2:Int))=true:=by simp;omega
     obtain⟨e,he⟩:∃ e,m[j]? =some e:=⟨_,List.getElem?_eq_getElem (by rw[hn2.out];exact hlt2)⟩
     obtain⟨bX,off,rfl⟩:=h2.adr (by rw[hn2.out];omega)
     obtain⟨hrng,hin⟩:=(h2.b (bW.trans (bq.mono bW.size))).nth j e he
     have hs2e:=s2.out e (List.mem_of_getElem? he)
     obtain⟨q,hq⟩:∃ q,e.1.scr.length=q:=⟨_,rfl⟩
     rw[hq] at hs2e
     have hpl:=(Cm.size_le q).2
     have hpl2:(Cm.put q).length≤9:=by rw[Cm.put_length];exact hpl
     have m0:0≤(j:Int):=by omega
     have m1:(j:Int)<(n2:Int):=by omega
     have HL1:=fun w=>Ki e.1.val 8 OM w
     have HSC:=fun w r=>Gn e.1.scr e.2.1 q e.2.2 hq OM w r
     have c0:=hrng 0 _ (show (kB e)[0]? =some (.int .u64 (e.1.val:Int)) from rfl)
     have aT0:=aT.b bq
     have cT2:=aT0.cell 2 _ rfl
     replace he:=Hy he
     replace hq:=Hy hq
     replace HL1:=Hy HL1
     replace HSC:=Hy HSC
     clear hin hpl hrng
     rw[Nat.add_zero] at c0
     go_upto_region 18 with (first
      |(go_at_call 97;refine(HL1.out wr).mono ?_;rintro e x5 ⟨y5,rfl,p5,d5⟩;obtain⟨D5,e5,rfl,_,_⟩:=p5.formN 8 (Cm.lo_length _ _))
      |(at_builtin;refine aQ (own.b d5) (bq.trans (d5.mono bq.size)) (Nat.le_trans bq.size d5.size) 8 e5 p5.rd (Cm.lo_length _ _) OM rfl (.tmp 69) (.tmp 76) rfl rfl rfl ?_;intro v5 w5 own5 bq5 z5 gr5))
     have aT5:=aT.b bq5
     clear d5 p5 gr5 z5 own bq
     have bl5:(bt++Cm.lo 8 e.1.val).length≤bt.length+8:=by rw[List.length_append,Cm.lo_length];omega
     obtain⟨bs5,hbs5⟩:=Nm (bt++Cm.lo 8 e.1.val)
     rw[← hbs5] at own5 bl5
     replace hbs5:=Hy hbs5
     have hsr:=(h2.b (bW.trans (bq5.mono bW.size)))
     obtain⟨hrng,hin⟩:=hsr.nth j e he.out
     have hscr5:=hin.2.1
     have c1:=hrng 1 _ (show (kB e)[1]? =some (BE e.1.scr.length e.2) from rfl)
     rw[hq.out] at c1
     have cT2:=aT5.cell 2 _ rfl
     clear hrng hin hsr c0 aT0
     obtain⟨ln6,hln6⟩:∃ ln,(Cm.put q++e.1.scr).length=ln:=⟨_,rfl⟩
     have hlb6:=hln6
     rw[List.length_append,hq.out] at hlb6
     replace hln6:=Hy hln6
     go_wp2_with (first
      |(go_at_call 99;refine(HSC.out w5 hscr5).mono ?_;rintro e x6 ⟨y6,rfl,p6,d6⟩;obtain⟨D6,e6,rfl,_,_⟩:=p6.formN ln6 hln6.out)
      |(at_builtin;refine aQ (own5.b d6) (bq5.trans (d6.mono bq5.size)) (Nat.le_trans bq5.size d6.size) ln6 e6 p6.rd hln6.out OM rfl (.tmp 78) (.tmp 85) rfl rfl rfl ?_;intro v6 w6 own6 bq6 z6 gr6))
     have bl6:(bs5++(Cm.put q++e.1.scr)).length≤bt.length+(17+q):=by rw[List.length_append,List.length_append,hq.out];omega
     obtain⟨bs6,hbs6⟩:=Nm (bs5++(Cm.put q++e.1.scr))
     rw[← hbs6] at own6 bl6
     replace hbs6:=Hy hbs6
     go_roundw
     case rel=>exact⟨j+1,bs6,by omega,by go_num,bq6,own6,Hy (by
      rw[hbs6.out,hbs5.out,hbt.out,List.take_add_one,he.out]
      simp only[Option.toList_some,List.flatMap_append,List.flatMap_cons,List.flatMap_nil,List.append_nil,vD,hq.out,List.append_assoc]),by omega⟩
     case measure=>simp[intOf];omega
    ·obtain rfl:n2=j:=by omega
     have t2:decide ((n2:Int)<(n2:Int))=false:=by simp
     have cTr3:=aTr.cell 3 _ rfl
     go_wp2_with (first
      |(go_at_call 97;refine(HK.out wr).mono ?_;rintro e x9 ⟨y9,rfl,p9,d9⟩;obtain⟨D9,e9,rfl,_,_⟩:=p9.formN 4 (Cm.lo_length _ _))
      |(at_builtin;refine aQ (own.b d9) (bq.trans (d9.mono bq.size)) (Nat.le_trans bq.size d9.size) 4 e9 p9.rd (Cm.lo_length _ _) OM rfl (.tmp 87) (.tmp 91) rfl rfl rfl ?_;intro v9 w9 own9 bq9 z9 gr9))
     obtain⟨lnf,hlnf⟩:∃ ln,(bt++Cm.lo 4 lock).length=ln:=⟨_,rfl⟩
     obtain⟨Af,cf,rfl,_,_⟩:=own9.formN lnf hlnf
     replace hlnf:=Hy hlnf
     go_ret2
     refine⟨_,rfl,?_,bW.trans (bq9.mono bW.size)⟩
     have hb2:=hbt.out
     rw[List.take_of_length_le (by rw[hn2.out];omega),hbh.out,hbs.out,List.take_of_length_le (by rw[hn1.out];omega),hhd.out] at hb2
     rw[hb2] at own9
     simp only[yT,cQ,List.length_map,hn1.out,hn2.out,List.flatMap_map]
     simp only[List.append_assoc] at own9
     exact cE.low own9 hWs
end Go.Proofs.YtobjgebojhjhnaaGreatDoor
