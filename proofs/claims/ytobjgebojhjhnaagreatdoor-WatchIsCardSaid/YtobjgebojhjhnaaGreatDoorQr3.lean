import Derived.Test.YtobjgebojhjhnaaGreatDoorQr2
import Derived.Test.YtobjgebojhjhnaaGreatDoorCMath
import Derived.WalkKit
import Derived.WalkSpells
import Derived.WalkLawsBesides
import Derived.Lib.Hide
namespace Go.Proofs.YtobjgebojhjhnaaGreatDoor
open Go.RowKit
def fM:Nat→List Oper→List Oper
 |_,[]=>[]
 |0,o :: r=>⟨o.dst,o.op,o.type,o.pos,o.after.push ⟨0,.data⟩,o.guard⟩ :: r
 |n+1,o :: r=>o :: fM n r
theorem nU:∀ (n:Nat) (l:List Oper),(fM n l).length=l.length
 |_,[]=>by rw[fM]
 |0,_ :: _=>by rw[fM,List.length_cons,List.length_cons]
 |n+1,_ :: r=>by rw[fM,List.length_cons,List.length_cons,nU n r]
theorem pQ:∀ (n:Nat) (l:List Oper) (j:Nat),(fM n l)[j]? =(l[j]?).map fun o=>if j=n then ⟨o.dst,o.op,o.type,o.pos,o.after.push ⟨0,.data⟩,o.guard⟩ else o
 |_,[],j=>by rw[fM];rfl
 |0,o :: r,0=>by rw[fM];rfl
 |0,o :: r,j+1=>by
  rw[fM,List.getElem?_cons_succ,List.getElem?_cons_succ]
  cases r[j]? with
  |none=>rfl
  |some x=>simp
 |n+1,o :: r,0=>by rw[fM];rfl
 |n+1,o :: r,j+1=>by
  rw[fM,List.getElem?_cons_succ,List.getElem?_cons_succ,pQ n r j]
  cases r[j]? with
  |none=>rfl
  |some x=>simp
section
variable {P:Program} {Q:Exit→Act→World→Prop} {l:List Oper} {n:Nat}
theorem wU (tmps:Array Value):yielded (fM n l).toArray tmps=yielded l.toArray tmps:=by
 funext j
 unfold yielded
 have e:((fM n l).toArray[j]?).bind (·.dst)=(l.toArray[j]?).bind (·.dst):=by
  simp only[List.getElem?_toArray,pQ]
  cases l[j]? with
  |none=>rfl
  |some o=>
   simp only[Option.map_some,Option.bind_some]
   split <;> rfl
 rw[e]
theorem tV {listed:Array Bool} (h0:listed.getD 0 false=true):Region.ready .any (fM n l).toArray listed=Region.ready .any l.toArray listed:=by
 unfold Region.ready
 simp only[List.size_toArray,nU]
 refine List.filter_congr fun j _=>?_
 simp only[List.getElem?_toArray,pQ]
 cases l[j]? with
 |none=>rfl
 |some o=>
  simp only[Option.map_some,Option.getD_some]
  congr 1
  split
  ·simp only[Array.all_push,h0,Bool.or_true,Bool.and_true]
  ·rfl
theorem GX {i:Nat} {K:Act→World→Prop} {a:Act} {w:World} (h:wpOp P (fM n l).toArray Q i K a w):wpOp P l.toArray Q i K a w:=by
 unfold wpOp at h ⊢
 simp only[List.getElem?_toArray,pQ,wU] at h ⊢
 cases hl:l[i]? with
 |none=>rw[hl] at h;exact h
 |some o=>
  rw[hl] at h
  simp only[Option.map_some] at h ⊢
  split at h <;> exact h
theorem Jt {ops:Array Oper} {i:Nat} {K K':Act→World→Prop} {a:Act} {w:World} (hk:∀ a w,K a w→K' a w) (h:wpOp P ops Q i K a w):wpOp P ops Q i K' a w:=wpOp_mono hk h
theorem GY {listed:Array Bool} (h0:listed.getD 0 false=true) (i:Nat):(listed.setIfInBounds i true).getD 0 false=true:=by
 rw[Array.getD_eq_getD_getElem?] at h0 ⊢
 rw[Array.getElem?_setIfInBounds]
 split
 ·split
  ·rfl
  ·rename_i h1 h2;subst h1;rw[Array.getElem?_eq_none OM] at h0;cases h0
 ·exact h0
theorem wV:∀ (fuel:Nat) (listed:Array Bool) (a:Act) (w:World),listed.getD 0 false=true→wpAny P .any (fM n l).toArray Q fuel listed a w→wpAny P .any l.toArray Q fuel listed a w
 |0,listed,a,w,h0,h=>by
  unfold wpAny at h ⊢
  rw[tV h0] at h
  exact h
 |fuel+1,listed,a,w,h0,h=>by
  unfold wpAny at h ⊢
  rw[tV h0] at h
  exact⟨h.1,fun i hi=>Jt (fun a' w' h'=>wV fuel _ a' w' (GY h0 i) h') (GX (h.2 i hi))⟩
end
theorem qN {P:Program} {Q:Exit→Act→World→Prop} {id:Nat} {a:Act} {w:World} {l l':List Oper} (m n:Nat) (L:List (Nat × VP)) (R:World→World→Prop) (hm:P.follows .mixedOrders=true) (hl:fM m l=l')
  {d:Option Tmp} {x:Operand} {tp:TypeId} {ps:String} {r:List Oper} (h0:l=⟨d,.move x,tp,ps,#[],none⟩ :: r) (hm0:0<m) (hs:Region.noSelect l.toArray=true) (hf:Region.free .any l.toArray (Array.replicate l.toArray.size false) 0=true)
  (hQ2:∀ c a' w,Q (.panic c) (a'.put d (a.eval x)) w→Q (.panic c) a' w)
  (hT:pY l'.toArray n=true) (hB:sI l'.toArray (L.map (·.1))=true)
  (hkn:L.all (fun p=>decide (p.1<n))=true)
  (hrange:l'.all (fun o=>match o.dst with|some d=>decide (d<a.tmps.size)|none=>true)=true)
  (hrefl:∀ w,R w w) (htr:∀ a b d,R a b→R b d→R a d) (hmono:∀ p ∈ L,∀ v w w',R w w'→p.2 v w→p.2 v w')
  (h:bK P l'.toArray R (fun _ a' w'=>wpList P l'.toArray Q (l'.drop n) a' w') w.drew L 0 (l'.take n) a):(Code.region id l.toArray true).wp P Q a w:=by
 refine wp_region_any hm ?_
 have h1:=sK n L R hT hB hkn hrange hrefl htr hmono h
 subst hl
 subst h0
 obtain⟨m,rfl⟩:∃ k,m=k+1:=⟨m - 1,by omega⟩
 have hsz:(fM (m+1) (⟨d,.move x,tp,ps,#[],none⟩ :: r)).toArray.size=r.length+1:=by rw[List.size_toArray,nU,List.length_cons]
 have hsz2:(⟨d,.move x,tp,ps,#[],none⟩ :: r:List Oper).toArray.size=r.length+1:=by rw[List.size_toArray,List.length_cons]
 rw[hsz] at h1
 rw[hsz2] at hf
 show wpAny P .any (⟨d,.move x,tp,ps,#[],none⟩ :: r:List Oper).toArray Q (⟨d,.move x,tp,ps,#[],none⟩ :: r:List Oper).toArray.size (Array.replicate (⟨d,.move x,tp,ps,#[],none⟩ :: r:List Oper).toArray.size false) a w.drew
 rw[hsz2]
 have hr1:0 ∈ Region.ready .any (fM (m+1) (⟨d,.move x,tp,ps,#[],none⟩ :: r)).toArray (Array.replicate (r.length+1) false):=by
  rw[mem_ready]
  exact⟨by simp[Array.getD_eq_getD_getElem?],⟨d,.move x,tp,ps,#[],none⟩,by rw[List.getElem?_toArray,fM];rfl,fun e he=>by simp at he⟩
 have hr2:0 ∈ Region.ready .any (⟨d,.move x,tp,ps,#[],none⟩ :: r:List Oper).toArray (Array.replicate (r.length+1) false):=by
  rw[mem_ready]
  exact⟨by simp[Array.getD_eq_getD_getElem?],⟨d,.move x,tp,ps,#[],none⟩,rfl,fun e he=>by simp at he⟩
 unfold wpAny at h1
 have h2:=h1.2 0 hr1
 unfold wpOp at h2
 rw[List.getElem?_toArray,fM] at h2
 simp only[List.getElem?_cons_zero,Region.wanted,if_true] at h2
 have h3:wpAny P .any (fM (m+1) (⟨d,.move x,tp,ps,#[],none⟩ :: r)).toArray Q r.length ((Array.replicate (r.length+1) false).setIfInBounds 0 true) (a.put d (a.eval x)) w.drew:=by
  rcases h2 with h2|h2
  ·exact h2
  ·exact absurd h2.1.1 (Array.not_mem_empty _)
 have h4:=wV _ _ _ _ (by simp[Array.getD_eq_getD_getElem?]) h3
 exact wpAny_take (i:=0) (oi:=⟨d,.move x,tp,ps,#[],none⟩) (v:=a.eval x) rfl hs hf (by simpa using hr2) hQ2 (Or.inl ⟨rfl,fun w=>rfl⟩) h4
end Go.Proofs.YtobjgebojhjhnaaGreatDoor
namespace Go.Proofs.YtobjgebojhjhnaaGreatDoor
set_option maxRecDepth 100000
set_option maxHeartbeats 16000000
open Go.RowKit Tryz
attribute [local go_sem high] eO gO gP iV
theorem Da (bs:List UInt8) (A:Option Addr) (n c:Nat) (w:World) (hr:Rd w A (bs.map bv)) (hn:bs.length=n) (hm:(n:Int)≤140737488355000):
  Calls prog 36 #[.slice A n c] w fun e w'=>∃ v,e= .returned v∧cE w' w.heap.size v bs∧Below w.heap.size w w':=by
 cases A with
 |none=>
  have hb:bs= []:=by
   rcases hr with h|⟨_,_,h,_⟩
   ·simpa using h
   ·cases h
  subst hb
  clear hn hm hr
  have hnn:(none:Option Addr).isNone=true:=rfl
  go_enter func36,ntmps36
  go_wp2
  go_ret
  exact⟨_,rfl,cE.nil _ _,Below.refl _ _⟩
 |some a=>
  have hmade:=cE.made w w.heap.size LR #[] 0 (by simp only[maxLen];omega) rfl
  have hb1:=(Below.refl w.heap.size w).alloc LR (.cells #[] 5)
  have hr1:=hr.b hb1
  have hnn:(some a:Option Addr).isNone=false:=rfl
  have Hn:=Hy hn
  clear hn
  go_enter func36,ntmps36
  go_wp2_with (at_builtin;refine aQ hmade hb1 zS n c hr1 Hn.out zU rfl (.tmp 5) (.tmp 6) rfl rfl rfl ?_;intro v1 w1 hown1 hb2 hz2 _)
  go_ret
  exact⟨_,rfl,hown1,hb2⟩
end Go.Proofs.YtobjgebojhjhnaaGreatDoor
namespace Go.Proofs.YtobjgebojhjhnaaGreatDoor
set_option maxRecDepth 100000
set_option maxHeartbeats 16000000
open Go.RowKit Tryz
theorem Dd (n:Int) (h:0≤n):(n<253∧Cm.size n.toNat=1)∨(253≤n∧n<65536∧Cm.size n.toNat=3)∨(65536≤n∧n<4294967296∧Cm.size n.toNat=5)∨(4294967296≤n∧Cm.size n.toNat=9):=by
 rcases Cm.size_cases n.toNat with c|c|c|c
 ·exact .inl OM
 ·exact .inr (.inl OM)
 ·exact .inr (.inr (.inl OM))
 ·exact .inr (.inr (.inr OM))
theorem mM (n:Int) (h:0≤n) (w:World):
  Calls prog 114 #[.int .u64 n] w fun e w'=>e= .returned (.int .i64 (Cm.size n.toNat:Int))∧w=w':=by
 rcases Dd n h with ⟨c1,c2⟩|⟨c0,c1,c2⟩|⟨c0,c1,c2⟩|⟨c1,c2⟩
 all_goals
  rw[c2];clear c2
  go_enter func114,ntmps114
  go_wp2
  go_ret
  exact⟨rfl,rfl⟩
theorem yY (bs:List UInt8) (A:Option Addr) (n c:Nat) (m:Int) (h0:0≤m) (hsm:Cm.size m.toNat=1) (w:World) (hr:Rd w A (bs.map bv)) (hn:bs.length=n) (hm:(n:Int)≤140737488355000):
  Calls prog 81 #[.slice A n c,.int .u64 m] w fun e w'=>∃ v,e= .returned v∧cE w' w.heap.size v (bs++ [UInt8.ofNat m.toNat])∧Below w.heap.size w w':=by
 have hsz:=mM m h0 w
 rw[hsm] at hsz
 have H:=Hy hsz
 have Hn:=Hy hn
 have hmk:=pP n 1 1 rfl OM
 have hle:bs.length+16≤140737488355328:=by omega
 have hmade:=cE.made w w.heap.size LR (madeCells #[.int .u8 0] (n+1)) (n+1) (by simp only[maxLen];omega) (by simp[size_madeCells])
 have hr1:=hr.b ((Below.refl w.heap.size w).alloc LR (.cells (madeCells #[.int .u8 0] (n+1)) 5))
 have hb1:=(Below.refl w.heap.size w).alloc LR (.cells (madeCells #[.int .u8 0] (n+1)) 5)
 clear hsz hsm hn
 go_enter func81,ntmps81
 go_wp2_with (first
  |(go_at_call 114;refine(H.out).mono ?_;rintro e w' ⟨rfl,rfl⟩)
  |(at_builtin;refine aQ hmade hb1 zS n c hr1 Hn.out zU rfl (.tmp 15) (.tmp 16) rfl rfl rfl ?_;intro v1 w1 hown1 hb2 hz2 _)
  |(at_builtin;refine dL hown1 hb2 hb2.size _ (FX m h0) zU rfl (.tmp 24) (.tmp 27) rfl rfl rfl ?_;intro v2 w2 hown2 hb3 hz3))
 go_ret
 exact⟨v2,rfl,hown2,hb3⟩
theorem Xc67 {p:Prop} (h:p:=by
 go_wp2_with (at_builtin;refine dL ho hbr hbr.size (UInt8.ofNat (m.toNat / 256 ^ k)) (tR m h0 k) zU rfl (.tmp 44) (.tmp 50) rfl rfl rfl ?_;intro v3 w3 hown3 hb4 hz4)
 go_roundw
 case rel=>exact⟨k+1,by omega,by go_num,by rw[Cm.lo_snoc];simpa using hown3,hb4⟩
 case measure=>simp[intOf];omega):p:=h
theorem yZ (bs:List UInt8) (A:Option Addr) (n c:Nat) (m:Int) (h0:0≤m) (hsm:Cm.size m.toNat=3) (w:World) (hr:Rd w A (bs.map bv)) (hn:bs.length=n) (hm:(n:Int)≤140737488355000):
  Calls prog 81 #[.slice A n c,.int .u64 m] w fun e w'=>∃ v,e= .returned v∧cE w' w.heap.size v (bs++253 :: Cm.lo 2 m.toNat)∧Below w.heap.size w w':=by
 have hsz:=mM m h0 w
 rw[hsm] at hsz
 have H:=Hy hsz
 have Hn:=Hy hn
 have hmk:=pP n 3 3 rfl OM
 have hle:bs.length+16≤140737488355328:=by omega
 have hmade:=cE.made w w.heap.size LR (madeCells #[.int .u8 0] (n+3)) (n+3) (by simp only[maxLen];omega) (by simp[size_madeCells])
 have hr1:=hr.b ((Below.refl w.heap.size w).alloc LR (.cells (madeCells #[.int .u8 0] (n+3)) 5))
 have hb1:=(Below.refl w.heap.size w).alloc LR (.cells (madeCells #[.int .u8 0] (n+3)) 5)
 clear hsz hsm hn
 go_enter func81,ntmps81
 go_wp2_with (first
  |(go_at_call 114;refine(H.out).mono ?_;rintro e w' ⟨rfl,rfl⟩)
  |(at_builtin;refine aQ hmade hb1 zS n c hr1 Hn.out zU rfl (.tmp 15) (.tmp 16) rfl rfl rfl ?_;intro v1 w1 hown1 hb2 hz2 _)
  |(at_builtin;refine dL hown1 hb2 hb2.size 253 rfl zU rfl (.tmp 31) (.tmp 32) rfl rfl rfl ?_;intro v2 w2 hown2 hb3 hz3))
 go_loopw [6,41] (fun v i wr=>∃ k:Nat,k≤2∧i= .int .i64 k∧cE wr w.heap.size v (bs++253 :: Cm.lo k m.toNat)∧Below w.heap.size w wr) (fun _ i _=>2 - (intOf i).toNat)
 case atStart=>exact⟨0,by omega,rfl,by simpa [Cm.lo] using hown2,hb3⟩
 case round=>
  obtain⟨k,hk,rfl,ho,hbr⟩:=hrel
  have hll:(Cm.lo k m.toNat).length≤2:=by rw[Cm.lo_length];exact hk
  by_cases hkm:k<2
  ·exact Xc67
  ·obtain rfl:k=2:=by omega
   go_wp2
   go_ret
   exact⟨_,rfl,ho,hbr⟩
theorem zC (bs:List UInt8) (A:Option Addr) (n c:Nat) (m:Int) (h0:0≤m) (hsm:Cm.size m.toNat=5) (w:World) (hr:Rd w A (bs.map bv)) (hn:bs.length=n) (hm:(n:Int)≤140737488355000):
  Calls prog 81 #[.slice A n c,.int .u64 m] w fun e w'=>∃ v,e= .returned v∧cE w' w.heap.size v (bs++254 :: Cm.lo 4 m.toNat)∧Below w.heap.size w w':=by
 have hsz:=mM m h0 w
 rw[hsm] at hsz
 have H:=Hy hsz
 have Hn:=Hy hn
 have hmk:=pP n 5 5 rfl OM
 have hle:bs.length+16≤140737488355328:=by omega
 have hmade:=cE.made w w.heap.size LR (madeCells #[.int .u8 0] (n+5)) (n+5) (by simp only[maxLen];omega) (by simp[size_madeCells])
 have hr1:=hr.b ((Below.refl w.heap.size w).alloc LR (.cells (madeCells #[.int .u8 0] (n+5)) 5))
 have hb1:=(Below.refl w.heap.size w).alloc LR (.cells (madeCells #[.int .u8 0] (n+5)) 5)
 clear hsz hsm hn
 go_enter func81,ntmps81
 go_wp2_with (first
  |(go_at_call 114;refine(H.out).mono ?_;rintro e w' ⟨rfl,rfl⟩)
  |(at_builtin;refine aQ hmade hb1 zS n c hr1 Hn.out zU rfl (.tmp 15) (.tmp 16) rfl rfl rfl ?_;intro v1 w1 hown1 hb2 hz2 _)
  |(at_builtin;refine dL hown1 hb2 hb2.size 254 rfl zU rfl (.tmp 36) (.tmp 37) rfl rfl rfl ?_;intro v2 w2 hown2 hb3 hz3))
 go_loopw [6,41] (fun v i wr=>∃ k:Nat,k≤4∧i= .int .i64 k∧cE wr w.heap.size v (bs++254 :: Cm.lo k m.toNat)∧Below w.heap.size w wr) (fun _ i _=>4 - (intOf i).toNat)
 case atStart=>exact⟨0,by omega,rfl,by simpa [Cm.lo] using hown2,hb3⟩
 case round=>
  obtain⟨k,hk,rfl,ho,hbr⟩:=hrel
  have hll:(Cm.lo k m.toNat).length≤4:=by rw[Cm.lo_length];exact hk
  by_cases hkm:k<4
  ·exact Xc67
  ·obtain rfl:k=4:=by omega
   go_wp2
   go_ret
   exact⟨_,rfl,ho,hbr⟩
theorem zE (bs:List UInt8) (A:Option Addr) (n c:Nat) (m:Int) (h0:0≤m) (hsm:Cm.size m.toNat=9) (w:World) (hr:Rd w A (bs.map bv)) (hn:bs.length=n) (hm:(n:Int)≤140737488355000):
  Calls prog 81 #[.slice A n c,.int .u64 m] w fun e w'=>∃ v,e= .returned v∧cE w' w.heap.size v (bs++255 :: Cm.lo 8 m.toNat)∧Below w.heap.size w w':=by
 have hsz:=mM m h0 w
 rw[hsm] at hsz
 have H:=Hy hsz
 have Hn:=Hy hn
 have hmk:=pP n 9 9 rfl OM
 have hle:bs.length+16≤140737488355328:=by omega
 have hmade:=cE.made w w.heap.size LR (madeCells #[.int .u8 0] (n+9)) (n+9) (by simp only[maxLen];omega) (by simp[size_madeCells])
 have hr1:=hr.b ((Below.refl w.heap.size w).alloc LR (.cells (madeCells #[.int .u8 0] (n+9)) 5))
 have hb1:=(Below.refl w.heap.size w).alloc LR (.cells (madeCells #[.int .u8 0] (n+9)) 5)
 clear hsz hsm hn
 go_enter func81,ntmps81
 go_wp2_with (first
  |(go_at_call 114;refine(H.out).mono ?_;rintro e w' ⟨rfl,rfl⟩)
  |(at_builtin;refine aQ hmade hb1 zS n c hr1 Hn.out zU rfl (.tmp 15) (.tmp 16) rfl rfl rfl ?_;intro v1 w1 hown1 hb2 hz2 _)
  |(at_builtin;refine dL hown1 hb2 hb2.size 255 rfl zU rfl (.tmp 19) (.tmp 20) rfl rfl rfl ?_;intro v2 w2 hown2 hb3 hz3))
 go_loopw [6,41] (fun v i wr=>∃ k:Nat,k≤8∧i= .int .i64 k∧cE wr w.heap.size v (bs++255 :: Cm.lo k m.toNat)∧Below w.heap.size w wr) (fun _ i _=>8 - (intOf i).toNat)
 case atStart=>exact⟨0,by omega,rfl,by simpa [Cm.lo] using hown2,hb3⟩
 case round=>
  obtain⟨k,hk,rfl,ho,hbr⟩:=hrel
  have hll:(Cm.lo k m.toNat).length≤8:=by rw[Cm.lo_length];exact hk
  by_cases hkm:k<8
  ·exact Xc67
  ·obtain rfl:k=8:=by omega
   go_wp2
   go_ret
   exact⟨_,rfl,ho,hbr⟩
theorem De (bs:List UInt8) (A:Option Addr) (n c:Nat) (m:Int) (h0:0≤m) (O:List UInt8) (hO:bs++Cm.put m.toNat=O) (w:World) (hr:Rd w A (bs.map bv)) (hn:bs.length=n) (hm:(n:Int)≤140737488355000):
  Calls prog 81 #[.slice A n c,.int .u64 m] w fun e w'=>∃ v,e= .returned v∧cE w' w.heap.size v O∧Below w.heap.size w w':=by
 subst hO
 unfold Cm.put
 rcases Cm.size_cases m.toNat with h|h|h|h
 ·rw[if_pos h.1]
  exact yY bs A n c m h0 h.2 w hr hn hm
 ·rw[if_neg OM,Cm.mark,if_pos h.2.1,h.2.2]
  exact yZ bs A n c m h0 h.2.2 w hr hn hm
 ·rw[if_neg OM,Cm.mark,if_neg OM,if_pos h.2.1,h.2.2]
  exact zC bs A n c m h0 h.2.2 w hr hn hm
 ·rw[if_neg OM,Cm.mark,if_neg OM,if_neg OM,h.2]
  exact zE bs A n c m h0 h.2 w hr hn hm
attribute [local go_sem high] eO gO gP iV
theorem EO (n:Int) (h:0≤n) (w:World):
  Calls prog 127 #[.int .u64 n] w fun e w'=>e= .returned (.int .i64 (Cm.size n.toNat:Int))∧w=w':=by
 rcases Dd n h with ⟨c1,c2⟩|⟨c0,c1,c2⟩|⟨c0,c1,c2⟩|⟨c1,c2⟩
 all_goals
  rw[c2];clear c2
  go_enter func127,ntmps127
  go_wp2
  go_ret
  exact⟨rfl,rfl⟩
theorem Xm48 {p q:Prop} (k:q) (h:Hid q→p:=by
 intro hk
 have H:=Hy (fun w=>EO m h0 w)
 rw[hsm] at H
 have Hn:=Hy hn
 have hle:bs.length+16≤140737488355328:=by omega
 have hmade:=cE.made w w.heap.size LR #[] 0 (by simp only[maxLen];omega) rfl
 have hb1:=(Below.refl w.heap.size w).alloc LR (.cells #[] 5)
 have hr1:=hr.b hb1
 skip
 go_enter func98,ntmps98
 revert H Hn hle hmade hb1 hr1;exact hk.out):p:=h (Hy k)
theorem Dg (bs:List UInt8) (A:Option Addr) (n c:Nat) (m:Int) (h0:0≤m) (hsm:Cm.size m.toNat=1) (w:World) (hr:Rd w A (bs.map bv)) (hn:bs.length=n) (hm:(n:Int)≤140737488355000):
  Calls prog 98 #[.slice A n c,.int .u64 m] w fun e w'=>∃ v,e= .returned v∧cE w' w.heap.size v (bs++ [UInt8.ofNat m.toNat])∧Below w.heap.size w w':=by
 refine Xm48 ?_;try clear hsm hn;intro H Hn hle hmade hb1 hr1
 go_wp2_with (first
  |(go_at_call 127;refine(H.out _).mono ?_;rintro e w' ⟨rfl,rfl⟩)
  |(at_builtin;refine aQ hmade hb1 zS n c hr1 Hn.out zU rfl (.tmp 9) (.tmp 10) rfl rfl rfl ?_;intro v1 w1 hown1 hb2 hz2 _)
  |(at_builtin;refine dL hown1 hb2 hb2.size _ (FX m h0) zU rfl (.tmp 16) (.tmp 19) rfl rfl rfl ?_;intro v2 w2 hown2 hb3 hz3))
 go_ret
 exact⟨v2,rfl,hown2,hb3⟩
theorem Xc68 {p:Prop} (h:p:=by
 go_wp2_with (at_builtin;refine dL ho hbr hbr.size (UInt8.ofNat (m.toNat / 256 ^ k)) (tR m h0 k) zU rfl (.tmp 35) (.tmp 42) rfl rfl rfl ?_;intro v3 w3 hown3 hb4 hz4)
 go_roundw
 case rel=>exact⟨k+1,by omega,by go_num,by rw[Cm.lo_snoc];simpa using hown3,hb4⟩
 case measure=>simp[intOf];omega):p:=h
theorem Dh (bs:List UInt8) (A:Option Addr) (n c:Nat) (m:Int) (h0:0≤m) (hsm:Cm.size m.toNat=3) (w:World) (hr:Rd w A (bs.map bv)) (hn:bs.length=n) (hm:(n:Int)≤140737488355000):
  Calls prog 98 #[.slice A n c,.int .u64 m] w fun e w'=>∃ v,e= .returned v∧cE w' w.heap.size v (bs++253 :: Cm.lo 2 m.toNat)∧Below w.heap.size w w':=by
 refine Xm48 ?_;try clear hsm hn;intro H Hn hle hmade hb1 hr1
 go_wp2_with (first
  |(go_at_call 127;refine(H.out _).mono ?_;rintro e w' ⟨rfl,rfl⟩)
  |(at_builtin;refine aQ hmade hb1 zS n c hr1 Hn.out zU rfl (.tmp 9) (.tmp 10) rfl rfl rfl ?_;intro v1 w1 hown1 hb2 hz2 _)
  |(at_builtin;refine dL hown1 hb2 hb2.size 253 rfl zU rfl (.tmp 25) (.tmp 27) rfl rfl rfl ?_;intro v2 w2 hown2 hb3 hz3))
 go_loopw [5,8] (fun v i wr=>∃ k:Nat,k≤2∧i= .int .i64 k∧cE wr w.heap.size v (bs++253 :: Cm.lo k m.toNat)∧Below w.heap.size w wr) (fun _ i _=>2 - (intOf i).toNat)
 case atStart=>exact⟨0,by omega,rfl,by simpa [Cm.lo] using hown2,hb3⟩
 case round=>
  obtain⟨k,hk,rfl,ho,hbr⟩:=hrel
  have hll:(Cm.lo k m.toNat).length≤2:=by rw[Cm.lo_length];exact hk
  by_cases hkm:k<2
  ·exact Xc68
  ·obtain rfl:k=2:=by omega
   go_wp2
   go_ret
   exact⟨_,rfl,ho,hbr⟩
theorem Di (bs:List UInt8) (A:Option Addr) (n c:Nat) (m:Int) (h0:0≤m) (hsm:Cm.size m.toNat=5) (w:World) (hr:Rd w A (bs.map bv)) (hn:bs.length=n) (hm:(n:Int)≤140737488355000):
  Calls prog 98 #[.slice A n c,.int .u64 m] w fun e w'=>∃ v,e= .returned v∧cE w' w.heap.size v (bs++254 :: Cm.lo 4 m.toNat)∧Below w.heap.size w w':=by
 refine Xm48 ?_;try clear hsm hn;intro H Hn hle hmade hb1 hr1
 go_wp2_with (first
  |(go_at_call 127;refine(H.out _).mono ?_;rintro e w' ⟨rfl,rfl⟩)
  |(at_builtin;refine aQ hmade hb1 zS n c hr1 Hn.out zU rfl (.tmp 9) (.tmp 10) rfl rfl rfl ?_;intro v1 w1 hown1 hb2 hz2 _)
  |(at_builtin;refine dL hown1 hb2 hb2.size 254 rfl zU rfl (.tmp 25) (.tmp 27) rfl rfl rfl ?_;intro v2 w2 hown2 hb3 hz3))
 go_loopw [5,8] (fun v i wr=>∃ k:Nat,k≤4∧i= .int .i64 k∧cE wr w.heap.size v (bs++254 :: Cm.lo k m.toNat)∧Below w.heap.size w wr) (fun _ i _=>4 - (intOf i).toNat)
 case atStart=>exact⟨0,by omega,rfl,by simpa [Cm.lo] using hown2,hb3⟩
 case round=>
  obtain⟨k,hk,rfl,ho,hbr⟩:=hrel
  have hll:(Cm.lo k m.toNat).length≤4:=by rw[Cm.lo_length];exact hk
  by_cases hkm:k<4
  ·exact Xc68
  ·obtain rfl:k=4:=by omega
   go_wp2
   go_ret
   exact⟨_,rfl,ho,hbr⟩
theorem Dj (bs:List UInt8) (A:Option Addr) (n c:Nat) (m:Int) (h0:0≤m) (hsm:Cm.size m.toNat=9) (w:World) (hr:Rd w A (bs.map bv)) (hn:bs.length=n) (hm:(n:Int)≤140737488355000):
  Calls prog 98 #[.slice A n c,.int .u64 m] w fun e w'=>∃ v,e= .returned v∧cE w' w.heap.size v (bs++255 :: Cm.lo 8 m.toNat)∧Below w.heap.size w w':=by
 refine Xm48 ?_;try clear hsm hn;intro H Hn hle hmade hb1 hr1
 go_wp2_with (first
  |(go_at_call 127;refine(H.out _).mono ?_;rintro e w' ⟨rfl,rfl⟩)
  |(at_builtin;refine aQ hmade hb1 zS n c hr1 Hn.out zU rfl (.tmp 9) (.tmp 10) rfl rfl rfl ?_;intro v1 w1 hown1 hb2 hz2 _)
  |(at_builtin;refine dL hown1 hb2 hb2.size 255 rfl zU rfl (.tmp 25) (.tmp 27) rfl rfl rfl ?_;intro v2 w2 hown2 hb3 hz3))
 go_loopw [5,8] (fun v i wr=>∃ k:Nat,k≤8∧i= .int .i64 k∧cE wr w.heap.size v (bs++255 :: Cm.lo k m.toNat)∧Below w.heap.size w wr) (fun _ i _=>8 - (intOf i).toNat)
 case atStart=>exact⟨0,by omega,rfl,by simpa [Cm.lo] using hown2,hb3⟩
 case round=>
  obtain⟨k,hk,rfl,ho,hbr⟩:=hrel
  have hll:(Cm.lo k m.toNat).length≤8:=by rw[Cm.lo_length];exact hk
  by_cases hkm:k<8
  ·exact Xc68
  ·obtain rfl:k=8:=by omega
   go_wp2
   go_ret
   exact⟨_,rfl,ho,hbr⟩
theorem uW (bs:List UInt8) (A:Option Addr) (n c:Nat) (m:Int) (h0:0≤m) (O:List UInt8) (hO:bs++Cm.put m.toNat=O) (w:World) (hr:Rd w A (bs.map bv)) (hn:bs.length=n) (hm:(n:Int)≤140737488355000):
  Calls prog 98 #[.slice A n c,.int .u64 m] w fun e w'=>∃ v,e= .returned v∧cE w' w.heap.size v O∧Below w.heap.size w w':=by
 subst hO
 unfold Cm.put
 rcases Cm.size_cases m.toNat with h|h|h|h
 ·rw[if_pos h.1]
  exact Dg bs A n c m h0 h.2 w hr hn hm
 ·rw[if_neg OM,Cm.mark,if_pos h.2.1,h.2.2]
  exact Dh bs A n c m h0 h.2.2 w hr hn hm
 ·rw[if_neg OM,Cm.mark,if_neg OM,if_pos h.2.1,h.2.2]
  exact Di bs A n c m h0 h.2.2 w hr hn hm
 ·rw[if_neg OM,Cm.mark,if_neg OM,if_neg OM,h.2]
  exact Dj bs A n c m h0 h.2 w hr hn hm
end Go.Proofs.YtobjgebojhjhnaaGreatDoor
namespace Go.Proofs.YtobjgebojhjhnaaGreatDoor
open Go.RowKit
attribute [local go_sem high] eO gO gP iV
end Go.Proofs.YtobjgebojhjhnaaGreatDoor
namespace Go.Proofs.YtobjgebojhjhnaaGreatDoor
open Go.RowKit
attribute [local go_sem high] eO gO gP iV
end Go.Proofs.YtobjgebojhjhnaaGreatDoor
namespace Go.Proofs.YtobjgebojhjhnaaGreatDoor
open Go.RowKit
attribute [local go_sem high] eO gO gP iV
end Go.Proofs.YtobjgebojhjhnaaGreatDoor
namespace Go.Proofs.YtobjgebojhjhnaaGreatDoor
open Go.RowKit
set_option maxRecDepth 100000
set_option maxHeartbeats 16000000
open Go.RowKit Tryz
theorem QQ (n:Nat) (_:n<4294967296) (w:World):
  Calls prog 108 #[.int .u32 (n:Int)] w fun e w'=>(∃ A c,e= .returned (.slice A 4 c)∧cE w' w.heap.size (.slice A 4 c) (Cm.lo 4 n))∧Below w.heap.size w w':=by
 have e0:IntKind.u8.wrap (n:Int)=((n % 256:Nat):Int):=by rw[IntKind.wrap_u8];omega
 have e1:IntKind.u8.wrap ((n:Int) / 256)=((n / 256 % 256:Nat):Int):=by rw[IntKind.wrap_u8];omega
 have e2:IntKind.u8.wrap ((n:Int) / 65536)=((n / 65536 % 256:Nat):Int):=by rw[IntKind.wrap_u8];omega
 have e3:IntKind.u8.wrap ((n:Int) / 16777216)=((n / 16777216 % 256:Nat):Int):=by rw[IntKind.wrap_u8];omega
 go_enter func108,ntmps108
 go_wp2
 go_ret
 have hc:(#[Value.int .u8 ((n:Int) % 256),.int .u8 ((n:Int) / 256 % 256),.int .u8 ((n:Int) / 65536 % 256),.int .u8 ((n:Int) / 16777216 % 256)]:Array Value)=((Cm.lo 4 n).map bv).toArray:=by
  simp[Cm.lo,bv]
  omega
 rw[hc]
 refine⟨⟨_,_,rfl,?_⟩,(Below.refl _ _).alloc LR _⟩
 have:=World.ownsRow_lit (base:=w.heap.size) (e:=5) (size:=1) w ((Cm.lo 4 n).map bv).toArray 4 LR DC (by simp[Cm.lo])
 simpa [cE,Cm.lo] using this
def mP (i:Nat):Nat→List Oper→List Oper
 |_,[]=>[]
 |0,o :: r=>⟨o.dst,o.op,o.type,o.pos,o.after.push ⟨i,.data⟩,o.guard⟩ :: r
 |n+1,o :: r=>o :: mP i n r
theorem vI (i:Nat):∀ (n:Nat) (l:List Oper),(mP i n l).length=l.length
 |_,[]=>by rw[mP]
 |0,_ :: _=>by rw[mP,List.length_cons,List.length_cons]
 |n+1,_ :: r=>by rw[mP,List.length_cons,List.length_cons,vI i n r]
theorem uH (i:Nat):∀ (n:Nat) (l:List Oper) (j:Nat),(mP i n l)[j]? =(l[j]?).map fun o=>if j=n then ⟨o.dst,o.op,o.type,o.pos,o.after.push ⟨i,.data⟩,o.guard⟩ else o
 |_,[],j=>by rw[mP];rfl
 |0,o :: r,0=>by rw[mP];rfl
 |0,o :: r,j+1=>by
  rw[mP,List.getElem?_cons_succ,List.getElem?_cons_succ]
  cases r[j]? with
  |none=>rfl
  |some x=>simp
 |n+1,o :: r,0=>by rw[mP];rfl
 |n+1,o :: r,j+1=>by
  rw[mP,List.getElem?_cons_succ,List.getElem?_cons_succ,uH i n r j]
  cases r[j]? with
  |none=>rfl
  |some x=>simp
def Gv (i m:Nat) (l:List Oper):Bool:=
 decide (i≠m) && match l[i]?,l[m]? with
 |some oi,some om=>(match oi.op with| .extract _ _=>true|_=>false) && oi.guard.isNone && oi.after.all (fun e=>!(Region.binds .any e) || om.after.any (fun f=>Region.binds .any f && f.on==e.on)) &&
   (List.range l.length).all (fun j=>j==i || oi.after.any (fun e=>Region.binds .any e && e.on==j) || match l[j]? with|some oj=>oj.after.any (fun e=>Region.binds .any e && e.on==i) || oi.apart l.toArray oj|none=>true)
 |_,_=>false
section
variable {P:Program} {Q:Exit→Act→World→Prop} {l:List Oper} {i m:Nat}
theorem Cg (tmps:Array Value):yielded (mP i m l).toArray tmps=yielded l.toArray tmps:=by
 funext j
 unfold yielded
 have e:((mP i m l).toArray[j]?).bind (·.dst)=(l.toArray[j]?).bind (·.dst):=by
  simp only[List.getElem?_toArray,uH]
  cases l[j]? with
  |none=>rfl
  |some o=>
   simp only[Option.map_some,Option.bind_some]
   split <;> rfl
 rw[e]
theorem kX {listed:Array Bool} {j:Nat}:j ∈ Region.ready .any (mP i m l).toArray listed↔j ∈ Region.ready .any l.toArray listed∧(j=m→listed.getD i false=true):=by
 rw[mem_ready,mem_ready]
 simp only[List.getElem?_toArray,uH]
 cases hj:l[j]? with
 |none=>simp
 |some o=>
  simp only[Option.map_some,Option.some.injEq,exists_eq_left']
  by_cases h:j=m
  ·simp only[h,if_true,Array.mem_push,forall_const]
   constructor
   ·rintro⟨h1,h2⟩
    exact⟨⟨h1,fun e he hb=>h2 e (Or.inl he) hb⟩,h2 ⟨i,.data⟩ (Or.inr rfl) rfl⟩
   ·rintro⟨⟨h1,h2⟩,h3⟩
    refine⟨h1,fun e he hb=>?_⟩
    rcases he with he|rfl
    ·exact h2 e he hb
    ·exact h3
  ·simp only[h,if_false,false_implies,and_true]
theorem Gw {j:Nat} {K:Act→World→Prop} {a:Act} {w:World} (h:wpOp P (mP i m l).toArray Q j K a w):wpOp P l.toArray Q j K a w:=by
 unfold wpOp at h ⊢
 simp only[List.getElem?_toArray,uH,Cg] at h ⊢
 cases hl:l[j]? with
 |none=>rw[hl] at h;exact h
 |some o=>
  rw[hl] at h
  simp only[Option.map_some] at h ⊢
  split at h <;> exact h
theorem Ch {x:Operand} {ix:Nat} {o:Oper} (ho:o.op= .extract x ix) (a:Act):(∃ v,∀ w,(execOp a.eval o).run P w= .ok (.value v) w)∨(∃ t:String,∀ w,(execOp a.eval o).run P w=((stuck t:Sem Next).run P w)):=by
 have e:execOp a.eval o=(do pure (.value (← Instr.extract (a.eval x) ix))):=by
  unfold execOp
  simp only[ho]
 rw[e]
 unfold Instr.extract
 cases a.eval x with
 |tuple vs=>
  cases h:vs[ix]? with
  |some v=>exact .inl ⟨v,fun w=>by simp[h]⟩
  |none=>exact .inr ⟨_,fun w=>by simp[h,stuck];rfl⟩
 |_=>exact .inr ⟨_,fun w=>by simp[stuck];rfl⟩
theorem Lc (hB:Gv i m l=true) (hs:Region.noSelect l.toArray=true) (hQ2:∀ d v c a w,(l[i]?).bind (·.dst)=d→Q (.panic c) (a.put d v) w→Q (.panic c) a w) (hna:∀ (o:Oper) a w,l[i]? =some o→noRoomEvent ∉ ((execOp (Act.eval a) o).runT P w #[]).2):
  ∀ (fuel:Nat) (listed:Array Bool) (a:Act) (w:World),listed.size=l.length→wpAny P .any (mP i m l).toArray Q fuel listed a w→wpAny P .any l.toArray Q fuel listed a w:=by
 unfold Gv at hB
 simp only[Bool.and_eq_true,decide_eq_true_eq] at hB
 obtain⟨him,hB⟩:=hB
 cases hoi:l[i]? with
 |none=>rw[hoi] at hB;simp at hB
 |some oi=>
  cases hom:l[m]? with
  |none=>rw[hoi,hom] at hB;simp at hB
  |some om=>
   rw[hoi,hom] at hB
   simp only[Bool.and_eq_true,Array.all_eq_true',List.all_eq_true,List.mem_range] at hB
   obtain⟨⟨⟨hop,hgd⟩,haf⟩,hfr⟩:=hB
   have hil:=(List.getElem?_eq_some_iff.1 hoi).1
   have hml:=(List.getElem?_eq_some_iff.1 hom).1
   have hgd':oi.guard=none:=by simpa using hgd
   have key:∀ listed:Array Bool,listed.size=l.length→m ∈ Region.ready .any l.toArray listed→listed.getD i false=false→i ∈ Region.ready .any l.toArray listed:=by
    intro listed hsz hm hi
    rw[mem_ready] at hm ⊢
    obtain⟨_,o,ho,hall⟩:=hm
    rw[List.getElem?_toArray,hom] at ho
    injection ho with ho
    subst ho
    refine⟨?_,oi,by rw[List.getElem?_toArray];exact hoi,fun e he hb=>?_⟩
    ·rw[Array.getD_eq_getD_getElem?,Array.getElem?_eq_getElem OM] at hi ⊢
     exact hi
    ·have:=haf e he
     rw[hb] at this
     simp only[Bool.not_true,Bool.false_or,Array.any_eq_true',Bool.and_eq_true,beq_iff_eq] at this
     obtain⟨f,hf,hfb,hfo⟩:=this
     rw[← hfo]
     exact hall f hf hfb
   intro fuel
   induction fuel with
   |zero=>
    intro listed a w hsz h
    unfold wpAny at h ⊢
    refine⟨List.eq_nil_iff_forall_not_mem.2 fun j hj=>?_,h.2⟩
    have hno:=List.eq_nil_iff_forall_not_mem.1 h.1
    by_cases hjm:j=m
    ·subst hjm
     cases hi:listed.getD i false with
     |true=>exact hno j (kX.2 ⟨hj,fun _=>hi⟩)
     |false=>exact hno i (kX.2 ⟨key listed hsz hj hi,fun e=>absurd e him⟩)
    ·exact hno j (kX.2 ⟨hj,fun e=>absurd e hjm⟩)
   |succ fuel ih=>
    intro listed a w hsz h
    by_cases hc:m ∈ Region.ready .any l.toArray listed∧listed.getD i false=false
    ·have hir:=key listed hsz hc.1 hc.2
     have hir':i ∈ Region.ready .any (mP i m l).toArray listed:=kX.2 ⟨hir,fun e=>absurd e him⟩
     unfold wpAny at h
     have h2:=Gw (h.2 i hir')
     unfold wpOp at h2
     rw[List.getElem?_toArray,hoi] at h2
     simp only[Region.wanted,hgd',if_true] at h2
     match hx:oi.op,hop with
     | .extract x ix,_=>
      rcases Ch (P:=P) hx a with ⟨v,hv⟩|⟨t,hv⟩
      ·have h3:wpAny P .any (mP i m l).toArray Q fuel (listed.setIfInBounds i true) (a.put oi.dst v) w:=by
        rcases h2 with h2|h2
        ·unfold Oper.wp at h2
         rw[hv] at h2
         exact h2
        ·exact absurd h2.1.1 (hna oi a w hoi)
       exact wpAny_take (i:=i) (oi:=oi) (v:=v) (by rw[List.getElem?_toArray];exact hoi) hs (by
        unfold Region.free
        rw[List.getElem?_toArray,hoi]
        simp only[List.all_eq_true,List.mem_range,List.size_toArray]
        intro j hj
        have:=hfr j hj
        rw[mem_ready] at hir
        obtain⟨_,o2,ho2,hall2⟩:=hir
        rw[List.getElem?_toArray,hoi] at ho2
        injection ho2 with ho2
        subst ho2
        have hdep:oi.after.any (fun e=>Region.binds .any e && e.on==j)=true→listed.getD j true=true:=fun hd=>by
         simp only[Array.any_eq_true',Bool.and_eq_true,beq_iff_eq] at hd
         obtain⟨f,hf,hfb,hfo⟩:=hd
         have h5:=hall2 f hf hfb
         rw[hfo] at h5
         rw[Array.getD_eq_getD_getElem?,Array.getElem?_eq_getElem OM] at h5 ⊢
         exact h5
        simp only[List.getElem?_toArray]
        cases hlj:l[j]? with
        |none=>simp
        |some oj=>
         rw[hlj] at this
         simp only[Bool.or_eq_true] at this ⊢
         rcases this with (h|h)|h|h
         ·exact .inl (.inl h)
         ·exact .inl (.inr (hdep h))
         ·exact .inr (.inl h)
         ·exact .inr (.inr h)) (by simpa using hir) (fun c a' w' hq=>hQ2 oi.dst v c a' w' (by rw[hoi];rfl) hq) (Or.inl ⟨by simp[Region.wanted,hgd'],hv⟩) (ih _ _ _ (by simpa using hsz) h3)
      ·exfalso
       rcases h2 with h2|h2
       ·unfold Oper.wp at h2
        rw[hv] at h2
        exact h2
       ·exact absurd h2.1.1 (hna oi a w hoi)
    ·unfold wpAny at h ⊢
     have hmem:∀ j,j ∈ Region.ready .any l.toArray listed→j ∈ Region.ready .any (mP i m l).toArray listed:=fun j hj=>kX.2 ⟨hj,fun e=>by
      subst e
      cases hi:listed.getD i false with
      |true=>rfl
      |false=>exact absurd ⟨hj,hi⟩ hc⟩
     refine⟨fun hr=>h.1 (List.eq_nil_iff_forall_not_mem.2 fun j hj=>by
      have:=(kX.1 hj).1
      rw[hr] at this
      cases this),fun j hj=>Gw (wpOp_mono (fun a' w' h'=>ih _ a' w' (by simpa using hsz) h') (h.2 j (hmem j hj)))⟩
theorem zM {x:Operand} {ix:Nat} {o:Oper} (ho:o.op= .extract x ix) (a:Act) (w:World):((execOp a.eval o).runT P w #[]).2= #[]:=by
 have e:execOp a.eval o=(do pure (.value (← Instr.extract (a.eval x) ix))):=by
  unfold execOp
  simp only[ho]
 rw[e]
 unfold Instr.extract
 cases a.eval x with
 |tuple vs=>
  cases h:vs[ix]? with
  |some v=>simp only[h];rfl
  |none=>simp only[h];rfl
 |_=>rfl
def pA:List (Nat × Nat)→List Oper→List Oper
 | [],l=>l
 |(i,m) :: r,l=>mP i m (pA r l)
def Ci:List (Nat × Nat)→List Oper→Bool
 | [],_=>true
 |(i,m) :: r,l=>Gv i m (pA r l) && Region.noSelect (pA r l).toArray && Ci r l
theorem pW:∀ (E:List (Nat × Nat)) (l:List Oper),(pA E l).length=l.length
 | [],_=>rfl
 |(i,m) :: r,l=>by rw[pA,vI,pW r l]
theorem AK (hQ2:∀ t v c a w,Q (.panic c) (a.put (some t) v) w→Q (.panic c) a w):∀ (E:List (Nat × Nat)) (l:List Oper),Ci E l=true→ ∀ (fuel:Nat) (listed:Array Bool) (a:Act) (w:World),listed.size=l.length→wpAny P .any (pA E l).toArray Q fuel listed a w→wpAny P .any l.toArray Q fuel listed a w
 | [],_,_,_,_,_,_,_,h=>h
 |(i,m) :: r,l,hB,fuel,listed,a,w,hsz,h=>by
  simp only[Ci,Bool.and_eq_true] at hB
  refine AK hQ2 r l hB.2 fuel listed a w hsz (Lc hB.1.1 hB.1.2 ?_ ?_ fuel listed a w (by rw[hsz,pW]) h)
  ·intro d v c a' w' _ hq
   cases d with
   |none=>exact hq
   |some t=>exact hQ2 t v c a' w' hq
  ·intro o a' w' ho hmem
   have hB1:=hB.1.1
   unfold Gv at hB1
   rw[ho] at hB1
   cases hom:(pA r l)[m]? with
   |none=>rw[hom] at hB1;simp at hB1
   |some om=>
    rw[hom] at hB1
    simp only[Bool.and_eq_true] at hB1
    match hx:o.op,hB1.2.1.1.1 with
    | .extract x ix,_=>
     rw[zM hx a' w'] at hmem
     exact absurd hmem (Array.not_mem_empty _)
end
theorem kI {P:Program} {Q:Exit→Act→World→Prop} {id:Nat} {a:Act} {w:World} {l l':List Oper} (E:List (Nat × Nat)) (n:Nat) (L:List (Nat × VP)) (R:World→World→Prop) (hm:P.follows .mixedOrders=true) (hl:pA E l=l') (hE:Ci E l=true)
  (hQ2:∀ t v c a w,Q (.panic c) (a.put (some t) v) w→Q (.panic c) a w)
  (hT:pY l'.toArray n=true) (hB:sI l'.toArray (L.map (·.1))=true)
  (hkn:L.all (fun p=>decide (p.1<n))=true)
  (hrange:l'.all (fun o=>match o.dst with|some d=>decide (d<a.tmps.size)|none=>true)=true)
  (hrefl:∀ w,R w w) (htr:∀ a b d,R a b→R b d→R a d) (hmono:∀ p ∈ L,∀ v w w',R w w'→p.2 v w→p.2 v w')
  (h:bK P l'.toArray R (fun _ a' w'=>wpList P l'.toArray Q (l'.drop n) a' w') w.drew L 0 (l'.take n) a):(Code.region id l.toArray true).wp P Q a w:=by
 refine wp_region_any hm ?_
 have h1:=sK n L R hT hB hkn hrange hrefl htr hmono h
 subst hl
 have hsz:(pA E l).toArray.size=l.toArray.size:=by rw[List.size_toArray,List.size_toArray,pW]
 rw[hsz] at h1
 exact AK hQ2 E l hE _ _ _ _ zS h1
end Go.Proofs.YtobjgebojhjhnaaGreatDoor
