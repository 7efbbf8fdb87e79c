import Derived.Test.YtobjgebojhjhnaaGreatDoorQr15
namespace Go.Proofs.YtobjgebojhjhnaaGreatDoor
set_option maxRecDepth 100000
set_option maxHeartbeats 16000000
open Go.RowKit Tryz
theorem ER (N k:Nat) (hk:k≤8):mY N k=128 :: (List.replicate (gR N) 0++(List.range k).map (mK N)++List.replicate (8 - k) 0):=by
 induction k with
 |zero=>rw[mY];simp only[List.range_zero,List.map_nil,List.append_nil,Nat.sub_zero,List.replicate_append_replicate]
 |succ k ih=>
  rw[mY,ih OM,show 8 - k=(8 - (k+1))+1 by omega,List.replicate_succ,show 1+gR N+k=(gR N+k)+1 by omega,List.set_cons_succ]
  congr 1
  rw[List.append_assoc,List.append_assoc,List.set_append_right _ _ zS,List.set_append_right _ _ zS]
  simp only[List.length_replicate,List.length_map,List.length_range,Nat.add_sub_cancel_left,Nat.sub_self,List.set_cons_zero]
  rw[List.range_succ,List.map_append,List.append_assoc]
  rfl
theorem ES (N:Nat):jI N=128 :: List.replicate (gR N) 0++(List.range 8).map (mK N):=by
 rw[jI,ER N 8 OM]
 simp
theorem Kk (N z:Nat) (hz:z≤gR N):(((N:Int) % 64+((z:Int)+1)+8) % 64 !=0)=decide (z<gR N):=by
 have hp:gR N=if 55<N % 64 then 119 - N % 64 else 55 - N % 64:=rfl
 have h64:N % 64<64:=Nat.mod_lt _ OM
 by_cases h:z<gR N
 ·rw[decide_eq_true h]
  simp only[bne_iff_ne,ne_eq]
  split at hp <;> omega
 ·rw[decide_eq_false h]
  simp only[bne_eq_false_iff_eq]
  split at hp <;> omega
theorem cE.one (w:World) (base:Nat) (hb:base≤w.heap.size) (b:UInt8):cE (w.alloc (.cells #[bv b] 5)) base (.slice (some ⟨w.heap.size,0,none⟩) 1 1) [b]:=by
 unfold cE World.ownsRow
 refine⟨by simp[bv],Or.inr ⟨w.heap.size,1,#[bv b],rfl,hb,?_,?_⟩⟩
 ·rw[heap_alloc_new]
 ·simp[maxLen]
def Oa:Value→Nat
 | .slice _ n _=>n
 |_=>0
theorem RL (N:Nat) (hN:N<18446744073709551616) (w:World):
  Calls prog 139 #[.int .u64 N] w fun e w'=>∃ v,e= .returned v∧cE w' w.heap.size v (jI N)∧Below w.heap.size w w':=by
 have hZ:gR N<64:=by rw[gR];split <;> omega
 have hform:=ES N
 have hmore:=Kk N
 have hbyte:=Cu N
 obtain⟨Z,hZZ⟩:=Nm (gR N)
 rw[← hZZ] at hZ hform hmore
 replace hform:=Hy hform
 replace hbyte:=Hy hbyte
 replace hmore:=Hy hmore
 clear hZZ
 go_enter func139,ntmps139
 go_wp2
 go_loopw [3] (fun v wr=>∃ z:Nat,z≤Z∧cE wr w.heap.size v (128 :: List.replicate z 0)∧Below w.heap.size w wr) (fun v _=>100 - Oa v)
 case atStart=>exact⟨0,by omega,cE.one w _ LR 128,(Below.refl _ _).alloc LR _⟩
 case round=>
  obtain⟨z,hz,ho,hb⟩:=hrel
  obtain⟨A,c,rfl,hc1,hc2⟩:=ho.formN (z+1) zS
  have hm:=hmore.out z hz
  by_cases hzZ:z<Z
  ·rw[decide_eq_true hzZ] at hm
   go_wp2_with (at_builtin;refine dL ho hb hb.size 0 rfl zU rfl (.tmp 16) (.tmp 17) rfl rfl rfl ?_;intro v3 w3 hown3 hb4 hz4)
   go_roundw
   case rel=>exact⟨z+1,by omega,by rw[List.replicate_succ'];simpa using hown3,hb4⟩
   case measure=> 
    obtain⟨A',c',rfl,_,_⟩:=hown3.formN (z+2) zS
    simp[Oa];omega
  ·obtain rfl:z=Z:=by omega
   rw[decide_eq_false hzZ] at hm
   clear hzZ hz hc1 hc2 hmore
   obtain⟨P,hP⟩:∃ P:List UInt8,P=128 :: List.replicate z 0:=⟨_,rfl⟩
   rw[← hP] at ho
   have hPl:P.length≤100:=by rw[hP];simp;omega
   have hq:=Hy (show P++(List.range 8).map (mK N)=jI N by rw[hform.out,hP])
   replace hP:=Hy hP
   replace hPl:=Hy hPl
   obtain⟨L,hL⟩:∃ L,P.length=L:=⟨_,rfl⟩
   replace hL:=Hy hL
   obtain⟨M,hM⟩:=Nm (IntKind.u64.wrap ((N:Int)*8))
   have hM0:0≤M:=by rw[hM,IntKind.wrap_u64];omega
   rw[← hM] at hbyte
   have hM':=hM.symm
   replace hM:=Hy hM
   go_wp2
   go_loopw [3,5] (fun v i wr=>∃ k:Nat,k≤8∧i= .int .i64 (7 - (k:Int))∧cE wr w.heap.size v (P++(List.range k).map (mK N))∧Below w.heap.size w wr) (fun _ i _=>(intOf i+1).toNat)
   case atStart=>exact⟨0,by omega,rfl,by simpa using ho,hb⟩
   case round=>
    clear ho hb
    obtain⟨k,hk,rfl,ho,hb⟩:=hrel
    obtain⟨A,c,rfl,hc1,hc2⟩:=ho.formN (L+k) (by simp[hL.out])
    by_cases hk8:k<8
    ·obtain⟨i,hi⟩:=Nm (7 - (k:Int))
     rw[← hi]
     have i0:0≤i:=by omega
     have e1:IntKind.i64.wrap (8*i)=8*i:=by rw[IntKind.wrap_i64];omega
     have e2:IntKind.u64.wrap (8*i)=8*i:=by rw[IntKind.wrap_u64];omega
     have e3:min ((8*i)).toNat IntKind.u64.bits=56 - 8*k:=by simp only[IntKind.bits];omega
     have e4:0≤8*i:=by omega
     have hb2:M / 2 ^ (8*(7 - k)) % 256=((mK N k).toNat:Int):=by rw[show 8*(7 - k)=56 - 8*k by omega];exact hbyte.out k
     replace hb2:=Hy hb2
     have hlen:L+k+1≤140737488355328:=by have:=hPl.out;have:=hL.out;omega
     replace hlen:=Hy hlen
     have e5:IntKind.i64.wrap (i - 1)=i - 1:=by rw[IntKind.wrap_i64];omega
     go_wp2_with (at_builtin;refine dL ho hb hb.size (mK N k) hb2.out (by have:=hlen.out;have:=hL.out;simp;omega) rfl (.tmp 25) (.tmp 32) rfl rfl rfl ?_;intro v3 w3 hown3 hb4 hz4)
     go_roundw
     case rel=>exact⟨k+1,by omega,by go_num,by rw[List.range_succ,List.map_append,← List.append_assoc];exact hown3,hb4⟩
     case measure=>simp[intOf];omega
    ·obtain rfl:k=8:=by omega
     go_wp2
     go_ret
     exact⟨_,rfl,by rw[← hq.out];exact ho,hb⟩
def xP:List fH:=(List.range 8).map Lx
theorem Ht (k:Nat) (hk:k<8):xP.getD k 0=Lx k:=by
 rw[xP,List.getD_eq_getElem?_getD,List.getElem?_map,List.getElem?_range hk];rfl
theorem Dk: #[Value.int .u32 1779033703,Value.int .u32 3144134277,Value.int .u32 1013904242,Value.int .u32 2773480762,Value.int .u32 1359893119,Value.int .u32 2600822924,Value.int .u32 528734635,Value.int .u32 1541459225]=jD xP:=by
 have e:xP= [BitVec.ofNat 32 1779033703,BitVec.ofNat 32 3144134277,BitVec.ofNat 32 1013904242,BitVec.ofNat 32 2773480762,BitVec.ofNat 32 1359893119,BitVec.ofNat 32 2600822924,BitVec.ofNat 32 528734635,BitVec.ofNat 32 1541459225]:=by decide+kernel
 rw[e,jD]
 simp only[List.map_cons,List.map_nil,wc]
 rw[mW 1779033703 DC,mW 3144134277 DC,mW 1013904242 DC,mW 2773480762 DC,mW 1359893119 DC,mW 2600822924 DC,mW 528734635 DC,mW 1541459225 DC]
 rfl
theorem Kl (k : Nat) (hk : k < 8) (w : World) : Calls prog 141 #[.int .i64 k] w fun e w' => e = .returned (wc (Lx k)) ∧ Below w.heap.size w w' := by
  have hz := Dk
  obtain ⟨l, hl⟩ := Nm (xP)
  have hll : l.length = 8 := by rw [hl]; rfl
  have hat : l.getD k 0 = Lx k := by rw [hl]; exact Ht k hk
  rw [← hl] at hz
  clear hl
  obtain ⟨x, hx⟩ := Nm (Lx k)
  rw [← hx] at hat ⊢
  replace hx := Hy hx
  replace hat := Hy hat
  replace hll := Hy hll
  have t1 : decide ((k : Int) < 0) = false := decide_eq_false OM
  have t2 : decide (7 < (k : Int)) = false := decide_eq_false OM
  have hk0 : 0 ≤ (k : Int) := by omega
  have hk1 : (k : Int) < 8 := by omega
  go_enter func141, ntmps141
  go_wp2_with (first
    | (refine cP ((Below.refl w.heap.size w).alloc LR _) (heap_alloc_new _ _) LR rfl _ _ _ rfl rfl l (by first | exact congrArg Value.agg hz | rfl) 8 hll.out KR rfl ?_
       intro w2 a2 b2 k2 z2
       have hc := a2.cell k (by rw [hll.out]; exact hk)
       rw [hat.out] at hc))
  go_ret
  exact ⟨rfl, b2⟩
theorem Ob (h:List fH) (hh:h.length=8) (A:Option Addr) (n c:Nat) (N:Int) (h0:0≤N) (h1:N<18446744073709551616) (hn:(n:Int)<64) (b:Bool) (hb:b=decide ((n:Int)=N % 64)) (w:World):
  Calls prog 138 #[.agg (fU h A n c N).toArray] w fun e w'=>e= .returned (.bool b)∧Below w.heap.size w w':=by
 obtain⟨v0,v1,v2,v3,v4,v5,v6,v7,rfl⟩:=uQ hh
 clear hh
 go_enter func138,ntmps138
 go_wp2
 go_ret
 exact⟨by rw[hb];rfl,(Below.refl _ _).alloc LR _⟩
theorem Pf (w : World) :
    Calls prog 130 #[] w fun e w' => e = .returned (.agg (fU kS none 0 0 0).toArray) ∧ Below w.heap.size w w' := by
  go_enter func130, ntmps130
  go_wp2
  go_loopw [2] (fun i wr => ∃ k : Nat, k ≤ 8 ∧ i = .int .i64 k ∧ Below w.heap.size w wr ∧ Av wr (w.heap.size + 1) 245 (fU (iK k) none 0 0 0) ∧ Av wr w.heap.size 245 (fU (iK 0) none 0 0 0)) (fun i _ => 8 - (intOf i).toNat)
  case atStart =>
    refine ⟨0, by omega, rfl, ((Below.refl _ _).alloc LR _).alloc zS _, ?_, ?_⟩
    · rw [Av, iK, fU, List.map_replicate, wc, mI]; exact heap_alloc2_new _ _ _
    · rw [Av, iK, fU, List.map_replicate, wc, mI]; exact heap_alloc2_old _ _ _
  case round =>
    obtain ⟨k, hk, rfl, hb, ha, hr0⟩ := hrel
    by_cases hk8 : k < 8
    · have T := Kl k hk8 wr
      have hk0 : 0 ≤ (k : Int) := by omega
      have hk1 : (k : Int) < 8 := by omega
      go_wp2_with fail
      refine T.mono ?_
      rintro e w3 ⟨rfl, b3⟩
      replace ha := ha.b b3
      replace hr0 := hr0.b b3
      replace hb := hb.trans (b3.mono hb.size)
      have hfz : w3.frozen? ⟨w.heap.size + 1, k, none⟩ = false := frozen_of_row _ _ _ _ _ ha
      have hc := ha.cell k (wc ((iK k).getD k 0)) (by rw [fU, List.getElem?_append_left (by simp [dE, hk8])]; simp [List.getElem?_eq_getElem (show k < (iK k).length by rw [dE]; exact hk8)])
      go_wp2
      refine ⟨⟨k + 1, by omega, by go_num, hb.setCell zS _, ?_, hr0.other _ _ zS⟩, ?_⟩
      · rw [iK, ← FT _ _ _ _ _ _ _ (by rw [dE]; exact hk8)]
        exact ha.set k _
      · simp [intOf]; omega
    · obtain rfl : k = 8 := by omega
      clear hk8 hk
      have hsl : (fU (iK 8) none 0 0 0).length = 10 := by simp [fU, dE]
      have hl0 : (fU (iK 0) none 0 0 0).toArray.size = 10 := by simp [fU, dE]
      obtain ⟨l, hl⟩ := Nm (fU (iK 8) none 0 0 0)
      have hall : l.all (·.oneCell') = true := by rw [hl]; simp [fU, Value.oneCell']
      rw [← hl] at ha hsl
      replace hl : Hid (l = fU kS none 0 0 0) := Hy hl
      replace hl0 := Hy hl0
      go_wp2_with (first
        | refine cZ ha rfl _ _ rfl rfl _ 10 hsl Tx rfl KR ?_
        | (refine aP hb hr0 LR rfl _ _ _ rfl rfl l rfl 10 hsl KR hl0.out hall ?_
           intro w4 a2 b4 k4 z4))
      exact bodyPost_ret (v := .agg l.toArray) (results_cell_row rfl _ _ w.heap.size _ _ (0, 0) _ rfl a2 Tx rfl (by rw [List.size_toArray, hsl]; kernel_rfl)) rfl ⟨by rw [← hl.out], b4⟩
attribute [local go_sem high] eO gO gP iV
theorem Rd.setO {w w':World} {A:Option Addr} {xs:List Value} (h:Rd w A xs) (hk:∀ a,A=some a→w'.heap[a.block]? =w.heap[a.block]?):Rd w' A xs:=by
 rcases h with h|⟨b,off,rfl,h⟩
 ·exact .inl h
 ·exact .inr ⟨b,off,rfl,fun j u hu=>(World.cell?_of_block (a:=⟨b,off+j,none⟩) (hk ⟨b,off,none⟩ rfl)).trans (h j u hu)⟩
theorem Km (h : List fH) (hh : h.length = 8) (rs : List UInt8) (A : Option Addr) (n c : Nat) (hn : rs.length = n) (hn6 : n < 64) (N : Int) (h0 : 0 ≤ N) (h1 : N < 18446744073709551616) (h64 : N % 64 = n)
    (bs : List UInt8) (B : Option Addr) (m cb : Nat) (hm : bs.length = m) (hM : n + m ≤ 140737488355328) (w : World) (hq : Rd w A (rs.map bv)) (hr : Rd w B (bs.map bv)) :
    Calls prog 129 #[.agg (fU h A n c N).toArray, .slice B m cb] w fun e w' =>
      ∃ A' c', e = .returned (.agg (fU (dW ((n + m) / 64) h (rs ++ bs)) A' ((n + m) % 64) c' (IntKind.u64.wrap (N + IntKind.u64.wrap (m : Int)))).toArray) ∧ (n + m) % 64 ≤ c' ∧ Rd w' A' (((rs ++ bs).drop (64 * ((n + m) / 64))).map bv) ∧ Below w.heap.size w w' := by
  have hs := Ob h hh A n c N h0 h1 (by omega) true (by simp [h64])
  obtain ⟨v0, v1, v2, v3, v4, v5, v6, v7, rfl⟩ := uQ hh
  clear hh
  obtain ⟨zs, hzs⟩ : ∃ zs : List Value, zs = fU (List.replicate 8 0) none 0 0 0 := ⟨_, rfl⟩
  have hz : #[Value.int IntKind.u32 0, Value.int IntKind.u32 0, Value.int IntKind.u32 0, Value.int IntKind.u32 0, Value.int IntKind.u32 0, Value.int IntKind.u32 0, Value.int IntKind.u32 0, Value.int IntKind.u32 0, Value.slice none 0 0, Value.int IntKind.u64 0] = zs.toArray := by
    rw [hzs, fU, List.map_replicate, wc, mI]; rfl
  have hzl : zs.length = 10 := by rw [hzs]; rfl
  clear hzs
  obtain ⟨ss, hss⟩ : ∃ ss : List Value, ss = fU [v0, v1, v2, v3, v4, v5, v6, v7] A n c N := ⟨_, rfl⟩
  rw [← hss] at hs ⊢
  have hsl : ss.length = 10 := by rw [hss]; rfl
  replace hss := Lib.hid hss
  replace hzl := Lib.hid hzl
  replace hsl := Lib.hid hsl
  have hle1 : ([] : List UInt8).length + n ≤ 140737488355328 := by simp; omega
  have hle2 : rs.length + m ≤ 140737488355328 := by rw [hn]; omega
  have hn' := Lib.hid hn
  have hm' := Lib.hid hm
  clear hn hm
  go_enter func129, ntmps129
  have hb0 : Below w.heap.size w ((w.alloc (.cells ss.toArray 245)).alloc (.cells zs.toArray 245)) := ((Below.refl _ _).alloc (Nat.le_refl _) _).alloc (by simp) _
  have ha2 : Av ((w.alloc (.cells ss.toArray 245)).alloc (.cells zs.toArray 245)) w.heap.size 245 ss := heap_alloc2_old _ _ _
  have ha4 : Av ((w.alloc (.cells ss.toArray 245)).alloc (.cells zs.toArray 245)) (w.heap.size + 1) 245 zs := heap_alloc2_new _ _ _
  go_wp2_with (refine cZ ha2 rfl _ _ rfl rfl _ 10 hsl.out Tx rfl (by kernel_rfl) ?_)
  generalize (w.alloc (.cells ss.toArray 245)).alloc (.cells zs.toArray 245) = w0 at *
  refine (hs w0).mono ?_
  rintro e w1 ⟨rfl, b1⟩
  replace ha2 := ha2.b b1
  replace ha4 := ha4.b b1
  replace b1 := hb0.trans (b1.mono hb0.size)
  clear hb0 hs hz
  have q4 := Lib.hid ha4.lt
  have hmade := cE.made w1 w1.heap.size (Nat.le_refl _) #[] 0 (by simp only [maxLen]; omega) rfl
  have hbm := (Below.refl w1.heap.size w1).alloc (Nat.le_refl _) (.cells #[] 5)
  have hrm := (hq.b b1).b hbm
  have c8 := (ha2.alloc (.cells #[] 5)).cell 8 (.slice A n c) (by rw [hss.out]; rfl)
  go_wp2_with (first
    | (at_builtin
       refine aQ hmade hbm hbm.size n c hrm hn'.out hle1 rfl (.tmp 11) (.tmp 13) rfl rfl rfl ?_
       intro y3 w3 hown hb3 hz3 hg3
       rw [List.nil_append] at hown
       clear hmade hbm hrm c8
       have hsm := (hr.b b1).b hb3)
    | (at_builtin
       refine aQ hown hb3 hb3.size m cb hsm hm'.out hle2 rfl (.tmp 15) (.tmp 16) rfl rfl rfl ?_
       intro v4 w4 hown4 hb4 hz4 hg4
       obtain ⟨A4, c4, rfl, hc4, _⟩ := hown4.formN (n + m) (by rw [List.length_append, hn'.out, hm'.out])
       replace ha2 := ha2.b hb4
       replace ha4 := ha4.b hb4
       have r2 : w4.rangeAt w.heap.size 0 [wc v0, wc v1, wc v2, wc v3, wc v4, wc v5, wc v6, wc v7] := Av.rangeAt (pre := []) (rest := [.slice A n c, .int .u64 N]) (by rw [hss.out] at ha2; exact ha2) 0 rfl
       have b4 := b1.trans (hb4.mono b1.size)
       clear hown hb3 hsm hg3 hg4 hb4)
    | refine wpList_load_mid rfl _ _ rfl _ _ rfl _ _ r2 Te rfl (by kernel_rfl) ?_
    | (refine cP ((Below.refl w4.heap.size w4).alloc (Nat.le_refl _) _) (heap_alloc_new _ _) (Nat.le_refl _) rfl _ _ _ rfl rfl [v0, v1, v2, v3, v4, v5, v6, v7] rfl 8 rfl (by kernel_rfl) rfl ?_
       intro w5 a5 b5 k5 z5
       replace ha2 := ha2.b b5
       replace ha4 := ha4.b b5
       clear r2))
  obtain ⟨M, hMm⟩ := Nm (n + m)
  rw [← hMm] at hown4 hc4 hM
  obtain ⟨L, hL⟩ := Nm (rs ++ bs)
  have hLl : L.length = M := by rw [hL, List.length_append, hn'.out, hm'.out, hMm]
  rw [← hL] at hown4
  have hr5 : Rd w5 A4 (L.map bv) := hown4.rd.b b5
  have bw5 := b4.trans (b5.mono b4.size)
  have q6 : w4.heap.size < w5.heap.size := by rw [z5]; simp
  obtain ⟨g, hg⟩ := Nm (w4.heap.size)
  have hwg : w.heap.size + 1 < g := by rw [hg]; have := q4.out; simp at hz3; omega
  rw [← hg] at a5 q6 ⊢
  have hr4 : Rd w4 A4 (L.map bv) := hown4.rd
  have hB4 := b4
  have hbk : ∀ a, A4 = some a → w.heap.size + 1 < a.block := fun a ha => by
    subst ha; have := (hown4.lt a.block rfl).1; have := q4.out; omega
  clear hown4 hr5 k5 z5 hz3 hz4 hle1 hle2 q4 b4
  obtain ⟨hv, hhv⟩ := Nm ([v0, v1, v2, v3, v4, v5, v6, v7])
  have hvl : hv.length = 8 := by rw [hhv]; rfl
  rw [← hhv] at a5
  replace hhv := Lib.hid hhv
  replace hL := Lib.hid hL
  replace hLl := Lib.hid hLl
  replace hMm := Lib.hid hMm
  replace hg := Lib.hid hg
  dsimp only [Act.put]
  go_loopw [5] (fun b wr => ∃ (k : Nat) (A' : Option Addr) (c' : Nat), 64 * k ≤ M ∧ b = .slice A' (M - 64 * k) c' ∧ M - 64 * k ≤ c' ∧ Rd w4 A' ((L.drop (64 * k)).map bv) ∧ (∀ a, A' = some a → w.heap.size + 1 < a.block) ∧ Below w4.heap.size w4 wr ∧ Below w.heap.size w wr ∧ Ar wr g 232 (dW k hv L) ∧ Av wr w.heap.size 245 ss ∧ Av wr (w.heap.size + 1) 245 zs) (fun b _ => lH b)
  case atStart => exact ⟨0, A4, c4, by omega, by rw [Nat.mul_zero, Nat.sub_zero, hMm.out], hc4, by simpa using hr4, hbk, b5, bw5, a5, ha2, ha4⟩
  case round =>
    clear a5 ha2 ha4 b5 bw5 hr4 hc4
    obtain ⟨k, A', c', hk, rfl, hc', hr', hbA, hb4, hb, a5, a2, a4⟩ := hrel
    by_cases hk64 : 64 ≤ M - 64 * k
    · have t1 : decide ((64 : Int) ≤ ((M - 64 * k : Nat) : Int)) = true := by simp; omega
      obtain ⟨hk', hhk⟩ : ∃ l, l = dW k hv L := ⟨_, rfl⟩
      have hkl : hk'.length = 8 := by rw [hhk, bQ _ _ _ hvl]
      rw [← hhk] at a5
      replace hhk := Lib.hid hhk
      obtain ⟨u0, u1, u2, u3, u4', u5, u6', u7', rfl⟩ := uQ hkl
      have c0 : wr.cell? ⟨g, 0, none⟩ = some (wc u0) := a5.cell 0 (by simp)
      have c1 : wr.cell? ⟨g, 1, none⟩ = some (wc u1) := a5.cell 1 (by simp)
      have c2 : wr.cell? ⟨g, 2, none⟩ = some (wc u2) := a5.cell 2 (by simp)
      have c3 : wr.cell? ⟨g, 3, none⟩ = some (wc u3) := a5.cell 3 (by simp)
      have c4 : wr.cell? ⟨g, 4, none⟩ = some (wc u4') := a5.cell 4 (by simp)
      have c5 : wr.cell? ⟨g, 5, none⟩ = some (wc u5) := a5.cell 5 (by simp)
      have c6 : wr.cell? ⟨g, 6, none⟩ = some (wc u6') := a5.cell 6 (by simp)
      have c7 : wr.cell? ⟨g, 7, none⟩ = some (wc u7') := a5.cell 7 (by simp)
      have s1 : (0 : Int) ≤ 64 := by decide
      have s2 : (64 : Int) ≤ (c' : Int) := by omega
      go_wp2
      go_still_tail 3, (by kernel_rfl)
      change wpList _ _ _ _ _ (World.drew _)
      clear c0 c1 c2 c3 c4 c5 c6 c7
      replace hb4 := hb4.drew
      replace hb := hb.drew
      replace a5 := a5.drew
      replace a4 := a4.drew
      replace a2 := a2.drew
      have hr64 : Rd wr.drew A' ((((L.drop (64 * k)).take 64)).map bv) := by rw [List.map_take]; exact (Rd.take hr' 64).b hb4
      generalize World.drew wr = wd at *
      have HB := Pe [u0, u1, u2, u3, u4', u5, u6', u7'] rfl ((L.drop (64 * k)).take 64) A' c' (by have := hLl.out; simp; omega) wd hr64
      obtain ⟨hx, hhx⟩ := Nm (jL [u0, u1, u2, u3, u4', u5, u6', u7'] ((L.drop (64 * k)).take 64))
      have hxl : hx.length = 8 := by rw [hhx]; exact iP _ _ rfl
      rw [← hhx] at HB
      replace hhx := Lib.hid hhx
      replace hxl := Lib.hid hxl
      replace HB := Lib.hid HB
      go_wp2_with fail
      refine HB.out.mono ?_
      rintro e w6 ⟨rfl, b6⟩
      replace a5 := a5.b b6
      replace a4 := a4.b b6
      replace a2 := a2.b b6
      replace hb := hb.trans (b6.mono hb.size)
      replace hb4 := hb4.trans (b6.mono hb4.size)
      clear HB hr64 b6
      have hgg : w4.heap.size ≤ g := by rw [hg.out]; exact Nat.le_refl _
      go_wp2_with (refine cP hb4 a5 hgg rfl _ _ _ rfl rfl hx rfl 8 hxl.out (by kernel_rfl) rfl ?_
                   intro w7 a7 b7 k7 z7)
      have bw7 : Below w.heap.size w w7 := hB4.trans (b7.mono hB4.size)
      refine ⟨⟨k + 1, _, _, by omega, by rw [show M - 64 * (k + 1) = M - 64 * k - 64 by omega], by omega, ?_, ?_, b7, bw7, ?_, a2.same (k7 _ (by omega)), a4.same (k7 _ (by omega))⟩, ?_⟩
      · have := Rd.sub64 hr' c' (by have := hLl.out; simp; omega)
        rw [← List.map_drop, List.drop_drop] at this
        rw [show 64 * (k + 1) = 64 * k + 64 by omega]
        exact this
      · intro a ha
        split at ha
        · exact hbA a ha
        · obtain ⟨a0, h0, rfl⟩ := Option.map_eq_some_iff.1 ha
          exact hbA a0 h0
      · rw [qM, ← hhk.out, ← hhx.out]; exact a7
      · simp only [lH]; omega
    · have t1 : decide ((64 : Int) ≤ ((M - 64 * k : Nat) : Int)) = false := by simp; omega
      obtain ⟨hx, hhx⟩ := Nm (dW k hv L)
      have hxl : hx.length = 8 := by rw [hhx, bQ _ _ _ hvl]
      rw [← hhx] at a5
      replace hhx := Lib.hid hhx
      obtain ⟨u0, u1, u2, u3, u4', u5, u6', u7', rfl⟩ := uQ hxl
      have c0 : wr.cell? ⟨g, 0, none⟩ = some (wc u0) := a5.cell 0 (by simp)
      have c1 : wr.cell? ⟨g, 1, none⟩ = some (wc u1) := a5.cell 1 (by simp)
      have c2 : wr.cell? ⟨g, 2, none⟩ = some (wc u2) := a5.cell 2 (by simp)
      have c3 : wr.cell? ⟨g, 3, none⟩ = some (wc u3) := a5.cell 3 (by simp)
      have c4 : wr.cell? ⟨g, 4, none⟩ = some (wc u4') := a5.cell 4 (by simp)
      have c5 : wr.cell? ⟨g, 5, none⟩ = some (wc u5) := a5.cell 5 (by simp)
      have c6 : wr.cell? ⟨g, 6, none⟩ = some (wc u6') := a5.cell 6 (by simp)
      have c7 : wr.cell? ⟨g, 7, none⟩ = some (wc u7') := a5.cell 7 (by simp)
      have c9 : wr.cell? ⟨w.heap.size, 9, none⟩ = some (.int .u64 N) := a2.cell 9 _ (by rw [hss.out]; rfl)
      obtain ⟨N2, hN2⟩ := Nm (IntKind.u64.wrap (N + IntKind.u64.wrap (m : Int)))
      have hN3 := hN2.symm
      replace hN2 := Lib.hid hN2
      have hw1 : w.heap.size ≤ w.heap.size + 1 := by omega
      have hz10 : zs.toArray.size = 10 := by rw [List.size_toArray, hzl.out]
      go_wp2_with (first
        | ((with_reducible refine dR 245 hb a4 hw1 (fU [u0, u1, u2, u3, u4', u5, u6', u7'] A' (M - 64 * k) c' N2) ?_ ?_ 10 ?_ ?_ ?_ ?_ ?_); rfl; rfl; rfl; kernel_rfl; exact hzl.out; rfl; intro w6 a9 b6 k6 z6))
      have hk1 : k = M / 64 := by omega
      have hk2 : M - 64 * k = M % 64 := by omega
      refine bodyPost_ret (results_cell_row rfl _ _ (w.heap.size + 1) _ _ (0, 0) _ rfl a9 Tx rfl (by kernel_rfl)) rfl ⟨A', c', ?_, by rw [← hMm.out]; omega, ?_, b6⟩
      · rw [← hMm.out, ← hL.out, ← hk1, ← hk2, hhx.out, hN2.out, hhv.out]
      · rw [← hMm.out, ← hL.out, ← hk1]
        exact (hr'.b hb4).setO fun a ha => k6 _ (by have := hbA a ha; omega)
end Go.Proofs.YtobjgebojhjhnaaGreatDoor
