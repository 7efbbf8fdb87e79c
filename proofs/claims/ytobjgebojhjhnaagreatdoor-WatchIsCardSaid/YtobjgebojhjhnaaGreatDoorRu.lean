import Derived.Test.YtobjgebojhjhnaaGreatDoorQr25
namespace Go.Proofs.YtobjgebojhjhnaaGreatDoor
set_option maxRecDepth 100000
set_option maxHeartbeats 16000000
open Go.RowKit Tryz
theorem DN (fl:List UInt8) (hs:List (List UInt8)) (tot:Nat) (Ah:Option Addr) (nh ch:Nat) (Af:Option Addr) (nf cf R:Nat) (hnh:hs.length=nh) (hnf:fl.length=nf) (hnf2:nf≤10000) (_:nh≤10000) (w0:World) (_:Rd w0 Ah (eB hs)) (hrf:Rd w0 Af (fl.map bv)) (hBR:w0.heap.size≤R)
  (i d k:Nat) (hi:i≤5000) (_:k≤nh) (l:List (Nat × List UInt8)) (M:Value) (w:World) (hb:Below w0.heap.size w0 w) (hA:Av w R 178 (pV tot Ah nh ch Af nf cf d k M false)) (ho:w.ownsRow w0.heap.size 138 33 M l.length (rX l))
  (h':Nat) (hh:h'+1≤12) (ht:tot≤4096) (hd:fX fl d=some true)
  (HV1:∀ w',Below w0.heap.size w0 w'→Av w' R 178 (pV tot Ah nh ch Af nf cf (d+1) k M false)→w'.ownsRow w0.heap.size 138 33 M l.length (rX l)→Calls prog 74 #[.pointer (some ⟨R,0,none⟩),.int .i64 (h':Int),.int .i64 (2*(i:Int))] w' (eU tot Ah nh ch Af nf cf R w0 l w' none))
  (hw:¬ 2*i+1<mN tot h'):
  Calls prog 74 #[.pointer (some ⟨R,0,none⟩),.int .i64 ((h':Int)+1),.int .i64 (i:Int)] w (eU tot Ah nh ch Af nf cf R w0 l w none):=by
 refine Xm2 ?_;try clear hA ho;intro hz W hW G hG aG aR oM hRG hGR hGw b0 hzone oR K0 hGw2
 have th:((h':Int)+1==0)=false:=by simp;omega
 have tw:decide (2*(i:Int)+1<((mN tot h':Nat):Int))=false:=by exact decide_eq_false OM
 have HW:=fun w'=>Ca (tot:Int) (h':Int) w'
 rw[qW tot h' ht OM] at HW
 generalize mN tot h'=wd at*
 replace HW:=Hy HW
 replace HV1:=Hy HV1
 have xv:(bV.map bv).length=32:=rfl
 have xone:(bV.map bv).all (·.oneCell')=true:=rfl
 replace xv:=Hy xv
 replace xone:=Hy xone
 have HN:=sH fl true tot Ah nh ch Af nf cf d k R M false hnf hnf2 hd (by have:=dM hd;omega) W aR (hrf.b b0)
 have jM:=dM hd
 replace hW:=Hy hW
 replace hG:=Hy hG
 replace hzone:=Hy hzone
 replace HN:=Hy HN
 replace hnh:=Hy hnh
 replace hnf:=Hy hnf
 replace oR:=Hy oR
 replace hd:=Hy hd
 go_enter func74,ntmps74
 go_upto_region 1 with fail
 rw[← hW.out,← hG.out]
 go_upto_region 2 with (go_at_call 76;refine HN.out.mono ?_;rintro e w1 ⟨rfl,a1,f1⟩)
 have g1:=f1.av aG hGR
 have b1:Below w0.heap.size w0 w1:=b0.trans (f1.b (fun j e=>by rw[e];exact hBR) b0.size)
 have o1:=bU oM f1 (fun j e h=>oR.out (by rw[e,h]))
 have c7:=a1.cell 7 _ rfl
 have K1:=K0.trans (dX.ofFr f1)
 clear HN aR aG oM b0 f1 K0
 go_wp2_with fail
 refine(HV1.out w1 b1 a1 o1).mono ?_
 rintro e w2 ⟨b2,K2,rfl,d2,k2,M2,hd2,hk2,a2⟩
 have g2:=K2.av g1 DC hGR
 replace K2:=K1.trans K2
 have hw2:w.heap.size≤w2.heap.size:=K2.1
 have hRw2:=a2.lt
 have hGw3:=g2.lt
 clear HV1 c7 a1 g1 b1 o1 K1
 go_upto_region 14 with ((with_reducible refine bF 35 (b2.alloc b2.size (.cells (bV.map bv).toArray 35)) (heap_alloc_new _ _) b2.size (bV.map bv) ?_ ?_ 32 xv.out ?_ ?_ ?_ ?_);rfl;rfl;kernel_rfl;rfl;exact xone.out;intro w3 p9 b3 k3 z3)
 have hx9:w2.heap.size<w3.heap.size:=p9.lt
 have a3:=(a2.alloc (.cells (bV.map bv).toArray 35)).same (k3 R OM)
 have g3:=(g2.alloc (.cells (bV.map bv).toArray 35)).same (k3 G OM)
 have bA2:Below w2.heap.size w2 (w2.alloc (.cells (bV.map bv).toArray 35)):=(Below.refl _ _).alloc LR _
 have K3:=(K2.trans (dX.ofBelow bA2)).store hw2 k3 z3
 clear k3 z3 bA2 a2 g2 b2 K2
 have hw3:w.heap.size≤w3.heap.size:=K3.1
 obtain⟨X9,hX9⟩:=Nm (w2.heap.size)
 rw[← hX9] at p9 hx9 hw2 hRw2 hGw3 ⊢
 clear hX9
 go_upto_region 15 with (first
  |((with_reducible refine LF p9 32 xv.out SS ?_ ?_);rfl)
  |((with_reducible refine bF 35 (b3.alloc b3.size (.cells (bV.map bv).toArray 35)) (heap_alloc_new _ _) b3.size (bV.map bv) ?_ ?_ 32 xv.out ?_ ?_ ?_ ?_);rfl;rfl;kernel_rfl;rfl;exact xone.out;intro w4 p10 b4 k4 z4))
 have hx10:w3.heap.size<w4.heap.size:=p10.lt
 have a4:=(a3.alloc (.cells (bV.map bv).toArray 35)).same (k4 R OM)
 have g4:=(g3.alloc (.cells (bV.map bv).toArray 35)).same (k4 G OM)
 have p94:=(p9.alloc (.cells (bV.map bv).toArray 35)).same (k4 X9 OM)
 have bA3:Below w3.heap.size w3 (w3.alloc (.cells (bV.map bv).toArray 35)):=(Below.refl _ _).alloc LR _
 have K4:=(K3.trans (dX.ofBelow bA3)).store hw3 k4 z4
 have hX10w:=b3.size
 clear k4 z4 bA3 a3 g3 b3 K3 p9
 obtain⟨X10,hX10⟩:=Nm (w3.heap.size)
 rw[← hX10] at p10 hx9 hw3 hx10 hX10w ⊢
 clear hX10
 have c3:=a4.cell 3 _ rfl
 have c7:=a4.cell 7 _ rfl
 go_wp2_with (first
  |(go_at_call 109;refine(HW.out _).mono ?_;rintro e w' ⟨rfl,hw'⟩;obtain rfl:=hw'.symm)
  |((with_reducible refine wpList_build (.agg (bV.map bv).toArray) ?_ ?_);(go_simp;first|done|rfl))
  |((with_reducible refine SF b4 g4 hGw (bV.map bv) 32 ?_ ?_ ?_ (h1:=hzone.out));rfl;rfl;intro w9 a9 b9 k9 z9))
 refine bodyPost_ret (results_cell_row rfl _ _ G _ _ (0,0) _ rfl a9 SS rfl KR) rfl ⟨b9,K4.store hGw2 k9 z9,rfl,d2,k2,M2,hd2,hk2,a4.same (k9 R hRG)⟩
theorem Xc34 {p:Prop} (h:p:=by
 go_upto_region 17 with ((with_reducible refine SF b5 p105 hX10w (bV.map bv) 32 ?_ ?_ ?_ (hn:=(rfl)) (ho:=xv.out) (h1:=hzone.out));rfl;rfl;intro w6 p106 b6 k6 z6)
 have a6:=a5.same (k6 R (Ne.symm hX10R))
 have g6:=g5.same (k6 G hGX)
 have p96:=p95.same (k6 X9 hX9G)
 have K6:=K5.store hw3 k6 z6
 have c7:=a6.cell 7 _ rfl
 have f7:=frozen_of_row _ _ 7 _ _ a6
 have a7:=a6.set 7 (.bool true)
 have g7:=g6.other ⟨R,7,none⟩ (.bool true) hGR
 have p97:=p96.other ⟨R,7,none⟩ (.bool true) hX9R
 have p107:=p106.other ⟨R,7,none⟩ (.bool true) hX10R
 have b7:=b6.setCell (p:=⟨R,7,none⟩) hBR (.bool true)
 have K7:=K6.setR (i:=7) (.bool true)
 replace a7:=Hy a7
 go_wp2_with (first
  |(go_at_call 109;refine(HW.out _).mono ?_;rintro e w' ⟨rfl,hw'⟩;obtain rfl:=hw'.symm)
  |((with_reducible refine wpList_build (.agg (bV.map bv).toArray) ?_ ?_);(go_simp;first|done|rfl))
  |((with_reducible refine SF b7 g7 hGw (bV.map bv) 32 ?_ ?_ ?_ (h1:=hzone.out));rfl;rfl;intro w9 a9 b9 k9 z9))
 refine bodyPost_ret (results_cell_row rfl _ _ G _ _ (0,0) _ rfl a9 SS rfl KR) rfl ⟨b9,K7.store hGw2 k9 z9,rfl,d5,k5,M5,hd5,hk5,a7.out.same (k9 R hRG)⟩):p:=h
theorem DO (fl:List UInt8) (hs:List (List UInt8)) (tot:Nat) (Ah:Option Addr) (nh ch:Nat) (Af:Option Addr) (nf cf R:Nat) (hnh:hs.length=nh) (hnf:fl.length=nf) (hnf2:nf≤10000) (_:nh≤10000) (w0:World) (_:Rd w0 Ah (eB hs)) (hrf:Rd w0 Af (fl.map bv)) (hBR:w0.heap.size≤R)
  (i d k:Nat) (hi:i≤5000) (_:k≤nh) (l:List (Nat × List UInt8)) (M:Value) (w:World) (hb:Below w0.heap.size w0 w) (hA:Av w R 178 (pV tot Ah nh ch Af nf cf d k M false)) (ho:w.ownsRow w0.heap.size 138 33 M l.length (rX l))
  (h':Nat) (hh:h'+1≤12) (ht:tot≤4096) (hd:fX fl d=some true)
  (HV1:∀ w',Below w0.heap.size w0 w'→Av w' R 178 (pV tot Ah nh ch Af nf cf (d+1) k M false)→w'.ownsRow w0.heap.size 138 33 M l.length (rX l)→Calls prog 74 #[.pointer (some ⟨R,0,none⟩),.int .i64 (h':Int),.int .i64 (2*(i:Int))] w' (eU tot Ah nh ch Af nf cf R w0 l w' none))
  (HV2:∀ (w':World) (d2 k2:Nat) (M2:Value),d2≤8*nf→k2≤nh→Below w0.heap.size w0 w'→Av w' R 178 (pV tot Ah nh ch Af nf cf d2 k2 M2 true)→Calls prog 74 #[.pointer (some ⟨R,0,none⟩),.int .i64 (h':Int),.int .i64 (2*(i:Int)+1)] w' (eU tot Ah nh ch Af nf cf R w0 l w' none))
  (hw:2*i+1<mN tot h'):
  Calls prog 74 #[.pointer (some ⟨R,0,none⟩),.int .i64 ((h':Int)+1),.int .i64 (i:Int)] w (eU tot Ah nh ch Af nf cf R w0 l w none):=by
 refine Xm2 ?_;try clear hA ho;intro hz W hW G hG aG aR oM hRG hGR hGw b0 hzone oR K0 hGw2
 have th:((h':Int)+1==0)=false:=by simp;omega
 have tw:decide (2*(i:Int)+1<((mN tot h':Nat):Int))=true:=by exact decide_eq_true OM
 have HW:=fun w'=>Ca (tot:Int) (h':Int) w'
 rw[qW tot h' ht OM] at HW
 generalize mN tot h'=wd at*
 replace HW:=Hy HW
 replace HV1:=Hy HV1
 replace HV2:=Hy HV2
 have xv:(bV.map bv).length=32:=rfl
 have xone:(bV.map bv).all (·.oneCell')=true:=rfl
 replace xv:=Hy xv
 replace xone:=Hy xone
 have HN:=sH fl true tot Ah nh ch Af nf cf d k R M false hnf hnf2 hd (by have:=dM hd;omega) W aR (hrf.b b0)
 have jM:=dM hd
 replace hW:=Hy hW
 replace hG:=Hy hG
 replace hzone:=Hy hzone
 replace HN:=Hy HN
 replace hnh:=Hy hnh
 replace hnf:=Hy hnf
 replace oR:=Hy oR
 replace hd:=Hy hd
 go_enter func74,ntmps74
 go_upto_region 1 with fail
 rw[← hW.out,← hG.out]
 go_upto_region 2 with (go_at_call 76;refine HN.out.mono ?_;rintro e w1 ⟨rfl,a1,f1⟩)
 have g1:=f1.av aG hGR
 have b1:Below w0.heap.size w0 w1:=b0.trans (f1.b (fun j e=>by rw[e];exact hBR) b0.size)
 have o1:=bU oM f1 (fun j e h=>oR.out (by rw[e,h]))
 have c7:=a1.cell 7 _ rfl
 have K1:=K0.trans (dX.ofFr f1)
 clear HN aR aG oM b0 f1 K0
 go_wp2_with fail
 refine(HV1.out w1 b1 a1 o1).mono ?_
 rintro e w2 ⟨b2,K2,rfl,d2,k2,M2,hd2,hk2,a2⟩
 have g2:=K2.av g1 DC hGR
 replace K2:=K1.trans K2
 have hw2:w.heap.size≤w2.heap.size:=K2.1
 have hRw2:=a2.lt
 have hGw3:=g2.lt
 clear HV1 c7 a1 g1 b1 o1 K1
 go_upto_region 14 with ((with_reducible refine bF 35 (b2.alloc b2.size (.cells (bV.map bv).toArray 35)) (heap_alloc_new _ _) b2.size (bV.map bv) ?_ ?_ 32 xv.out ?_ ?_ ?_ ?_);rfl;rfl;kernel_rfl;rfl;exact xone.out;intro w3 p9 b3 k3 z3)
 have hx9:w2.heap.size<w3.heap.size:=p9.lt
 have a3:=(a2.alloc (.cells (bV.map bv).toArray 35)).same (k3 R OM)
 have g3:=(g2.alloc (.cells (bV.map bv).toArray 35)).same (k3 G OM)
 have bA2:Below w2.heap.size w2 (w2.alloc (.cells (bV.map bv).toArray 35)):=(Below.refl _ _).alloc LR _
 have K3:=(K2.trans (dX.ofBelow bA2)).store hw2 k3 z3
 clear k3 z3 bA2 a2 g2 b2 K2
 have hw3:w.heap.size≤w3.heap.size:=K3.1
 obtain⟨X9,hX9⟩:=Nm (w2.heap.size)
 rw[← hX9] at p9 hx9 hw2 hRw2 hGw3 ⊢
 clear hX9
 go_upto_region 15 with (first
  |((with_reducible refine LF p9 32 xv.out SS ?_ ?_);rfl)
  |((with_reducible refine bF 35 (b3.alloc b3.size (.cells (bV.map bv).toArray 35)) (heap_alloc_new _ _) b3.size (bV.map bv) ?_ ?_ 32 xv.out ?_ ?_ ?_ ?_);rfl;rfl;kernel_rfl;rfl;exact xone.out;intro w4 p10 b4 k4 z4))
 have hx10:w3.heap.size<w4.heap.size:=p10.lt
 have a4:=(a3.alloc (.cells (bV.map bv).toArray 35)).same (k4 R OM)
 have g4:=(g3.alloc (.cells (bV.map bv).toArray 35)).same (k4 G OM)
 have p94:=(p9.alloc (.cells (bV.map bv).toArray 35)).same (k4 X9 OM)
 have bA3:Below w3.heap.size w3 (w3.alloc (.cells (bV.map bv).toArray 35)):=(Below.refl _ _).alloc LR _
 have K4:=(K3.trans (dX.ofBelow bA3)).store hw3 k4 z4
 have hX10w:=b3.size
 clear k4 z4 bA3 a3 g3 b3 K3 p9
 obtain⟨X10,hX10⟩:=Nm (w3.heap.size)
 rw[← hX10] at p10 hx9 hw3 hx10 hX10w ⊢
 clear hX10
 have c3:=a4.cell 3 _ rfl
 go_wp2_with (go_at_call 109;refine(HW.out _).mono ?_;rintro e w' ⟨rfl,hw'⟩;obtain rfl:=hw'.symm)
 refine(HV2.out w4 d2 k2 M2 hd2 hk2 b4 a4).mono ?_
 rintro e w5 ⟨b5,K5,rfl,d5,k5,M5,hd5,hk5,a5⟩
 have hX9R:X9≠R:=by omega
 have hX10R:X10≠R:=by omega
 have hX9G:X9≠X10:=by omega
 have hGX:G≠X10:=by omega
 have g5:=K5.av g4 DC hGR
 have p95:=K5.av p94 DC hX9R
 have p105:=K5.av p10 DC hX10R
 replace K5:=K4.trans K5
 clear HV2 K4 a4 g4 b4 p94 p10 c3
 exact Xc34
theorem Pp (fl:List UInt8) (hs:List (List UInt8)) (tot:Nat) (Ah:Option Addr) (nh ch:Nat) (Af:Option Addr) (nf cf R:Nat) (hnh:hs.length=nh) (hnf:fl.length=nf) (hnf2:nf≤10000) (_:nh≤10000) (w0:World) (_:Rd w0 Ah (eB hs)) (hrf:Rd w0 Af (fl.map bv)) (hBR:w0.heap.size≤R)
  (i d k:Nat) (hi:i≤5000) (_:k≤nh) (l:List (Nat × List UInt8)) (M:Value) (w:World) (hb:Below w0.heap.size w0 w) (hA:Av w R 178 (pV tot Ah nh ch Af nf cf d k M false)) (ho:w.ownsRow w0.heap.size 138 33 M l.length (rX l))
  (h':Nat) (hh:h'+1≤12) (ht:tot≤4096) (hd:fX fl d=some true)
  (x:List UInt8) (x32:x.length=32) (lx:List (Nat × List UInt8)) (dx kx:Nat)
  (HV1:∀ w',Below w0.heap.size w0 w'→Av w' R 178 (pV tot Ah nh ch Af nf cf (d+1) k M false)→w'.ownsRow w0.heap.size 138 33 M l.length (rX l)→Calls prog 74 #[.pointer (some ⟨R,0,none⟩),.int .i64 (h':Int),.int .i64 (2*(i:Int))] w' (eU tot Ah nh ch Af nf cf R w0 l w' (some ⟨x,lx,dx,kx⟩)))
  (hw:¬ 2*i+1<mN tot h'):
  Calls prog 74 #[.pointer (some ⟨R,0,none⟩),.int .i64 ((h':Int)+1),.int .i64 (i:Int)] w (eU tot Ah nh ch Af nf cf R w0 l w (some ⟨gZ x x,lx,dx,kx⟩)):=by
 refine Xm2 ?_;try clear hA ho;intro hz W hW G hG aG aR oM hRG hGR hGw b0 hzone oR K0 hGw2
 have th:((h':Int)+1==0)=false:=by simp;omega
 have tw:decide (2*(i:Int)+1<((mN tot h':Nat):Int))=false:=by exact decide_eq_false OM
 have HW:=fun w'=>Ca (tot:Int) (h':Int) w'
 rw[qW tot h' ht OM] at HW
 generalize mN tot h'=wd at*
 replace HW:=Hy HW
 replace HV1:=Hy HV1
 have xv:(x.map bv).length=32:=by rw[List.length_map,x32]
 have xone:(x.map bv).all (·.oneCell')=true:=List.all_eq_true.2 (dB x)
 replace xv:=Hy xv
 replace xone:=Hy xone
 have HP:=fun w'=>Oe x x x32 x32 w'
 have p32:=iZ x x
 generalize gZ x x=pr at*
 have pv:(pr.map bv).length=32:=by rw[List.length_map,p32]
 have pone:(pr.map bv).all (·.oneCell')=true:=List.all_eq_true.2 (dB pr)
 replace HP:=Hy HP
 replace pv:=Hy pv
 replace pone:=Hy pone
 have HN:=sH fl true tot Ah nh ch Af nf cf d k R M false hnf hnf2 hd (by have:=dM hd;omega) W aR (hrf.b b0)
 have jM:=dM hd
 replace hW:=Hy hW
 replace hG:=Hy hG
 replace hzone:=Hy hzone
 replace HN:=Hy HN
 replace hnh:=Hy hnh
 replace hnf:=Hy hnf
 replace oR:=Hy oR
 replace hd:=Hy hd
 go_enter func74,ntmps74
 go_upto_region 1 with fail
 rw[← hW.out,← hG.out]
 go_upto_region 2 with (go_at_call 76;refine HN.out.mono ?_;rintro e w1 ⟨rfl,a1,f1⟩)
 have g1:=f1.av aG hGR
 have b1:Below w0.heap.size w0 w1:=b0.trans (f1.b (fun j e=>by rw[e];exact hBR) b0.size)
 have o1:=bU oM f1 (fun j e h=>oR.out (by rw[e,h]))
 have c7:=a1.cell 7 _ rfl
 have K1:=K0.trans (dX.ofFr f1)
 clear HN aR aG oM b0 f1 K0
 go_wp2_with fail
 refine(HV1.out w1 b1 a1 o1).mono ?_
 rintro e w2 ⟨b2,K2,rfl,M2,a2,o2⟩
 rw[show l.length+lx.length=(l++lx).length by rw[List.length_append]] at o2
 have g2:=K2.av g1 DC hGR
 replace K2:=K1.trans K2
 have hw2:w.heap.size≤w2.heap.size:=K2.1
 have hRw2:=a2.lt
 have hGw3:=g2.lt
 clear HV1 c7 a1 g1 b1 o1 K1
 go_upto_region 14 with ((with_reducible refine bF 35 (b2.alloc b2.size (.cells (bV.map bv).toArray 35)) (heap_alloc_new _ _) b2.size (x.map bv) ?_ ?_ 32 xv.out ?_ ?_ ?_ ?_);rfl;rfl;kernel_rfl;rfl;exact xone.out;intro w3 p9 b3 k3 z3)
 have hx9:w2.heap.size<w3.heap.size:=p9.lt
 have a3:=(a2.alloc (.cells (bV.map bv).toArray 35)).same (k3 R OM)
 have g3:=(g2.alloc (.cells (bV.map bv).toArray 35)).same (k3 G OM)
 have bA2:Below w2.heap.size w2 (w2.alloc (.cells (bV.map bv).toArray 35)):=(Below.refl _ _).alloc LR _
 have K3:=(K2.trans (dX.ofBelow bA2)).store hw2 k3 z3
 have o3:=bU (aJ o2 bA2) (Of k3 z3 (b2.alloc b2.size _) b3) (fun j e h=>by have:=(World.ownsRow.lt o2 j e).2;omega)
 clear k3 z3 bA2 a2 g2 b2 K2 o2
 have hw3:w.heap.size≤w3.heap.size:=K3.1
 obtain⟨X9,hX9⟩:=Nm (w2.heap.size)
 rw[← hX9] at p9 hx9 hw2 hRw2 hGw3 ⊢
 clear hX9
 go_upto_region 15 with (first
  |((with_reducible refine LF p9 32 xv.out SS ?_ ?_);rfl)
  |((with_reducible refine bF 35 (b3.alloc b3.size (.cells (bV.map bv).toArray 35)) (heap_alloc_new _ _) b3.size (x.map bv) ?_ ?_ 32 xv.out ?_ ?_ ?_ ?_);rfl;rfl;kernel_rfl;rfl;exact xone.out;intro w4 p10 b4 k4 z4))
 have hx10:w3.heap.size<w4.heap.size:=p10.lt
 have a4:=(a3.alloc (.cells (bV.map bv).toArray 35)).same (k4 R OM)
 have g4:=(g3.alloc (.cells (bV.map bv).toArray 35)).same (k4 G OM)
 have p94:=(p9.alloc (.cells (bV.map bv).toArray 35)).same (k4 X9 OM)
 have bA3:Below w3.heap.size w3 (w3.alloc (.cells (bV.map bv).toArray 35)):=(Below.refl _ _).alloc LR _
 have K4:=(K3.trans (dX.ofBelow bA3)).store hw3 k4 z4
 have o4:=bU (aJ o3 bA3) (Of k4 z4 (b3.alloc b3.size _) b4) (fun j e h=>by have:=(World.ownsRow.lt o3 j e).2;omega)
 have hX10w:=b3.size
 clear k4 z4 bA3 a3 g3 b3 K3 p9 o3
 obtain⟨X10,hX10⟩:=Nm (w3.heap.size)
 rw[← hX10] at p10 hx9 hw3 hx10 hX10w ⊢
 clear hX10
 have c3:=a4.cell 3 _ rfl
 have c7:=a4.cell 7 _ rfl
 go_wp2_with (first
  |(go_at_call 109;refine(HW.out _).mono ?_;rintro e w' ⟨rfl,hw'⟩;obtain rfl:=hw'.symm)
  |((with_reducible refine LF p94 32 xv.out SS ?_ ?_);rfl)
  |((with_reducible refine LF p10 32 xv.out SS ?_ ?_);rfl))
 refine(HP.out w4).mono ?_
 rintro e w8 ⟨rfl,b8'⟩
 have a8:=a4.b b8'
 have g8:=g4.b b8'
 have o8:=aJ o4 b8'
 have b8:=b4.trans (b8'.mono b4.size)
 have K8:=K4.trans (dX.ofBelow b8')
 have oG8:=eM o8 g8 DC
 clear b8'
 go_wp2_with ((with_reducible refine SF b8 g8 hGw (pr.map bv) 32 ?_ ?_ ?_ (hn:=pv.out) (h1:=pone.out));rfl;rfl;intro w9 a9 b9 k9 z9)
 refine bodyPost_ret (results_cell_row rfl _ _ G _ _ (0,0) _ rfl a9 SS rfl (by rw[List.size_toArray,pv.out];kernel_rfl)) rfl ⟨b9,K8.store hGw2 k9 z9,rfl,M2,a8.same (k9 R hRG),?_⟩
 dsimp only
 rw[← List.length_append]
 exact bU o8 (Of k9 z9 b8 b9) (fun j e h=>oG8 (by rw[e,h]))
theorem zL (fl:List UInt8) (hs:List (List UInt8)) (tot:Nat) (Ah:Option Addr) (nh ch:Nat) (Af:Option Addr) (nf cf R:Nat) (hnh:hs.length=nh) (hnf:fl.length=nf) (hnf2:nf≤10000) (_:nh≤10000) (w0:World) (_:Rd w0 Ah (eB hs)) (hrf:Rd w0 Af (fl.map bv)) (hBR:w0.heap.size≤R)
  (i d k:Nat) (hi:i≤5000) (_:k≤nh) (l:List (Nat × List UInt8)) (M:Value) (w:World) (hb:Below w0.heap.size w0 w) (hA:Av w R 178 (pV tot Ah nh ch Af nf cf d k M false)) (ho:w.ownsRow w0.heap.size 138 33 M l.length (rX l))
  (h':Nat) (hh:h'+1≤12) (ht:tot≤4096) (hd:fX fl d=some true)
  (x:List UInt8) (x32:x.length=32) (lx:List (Nat × List UInt8)) (dx kx:Nat)
  (HV1:∀ w',Below w0.heap.size w0 w'→Av w' R 178 (pV tot Ah nh ch Af nf cf (d+1) k M false)→w'.ownsRow w0.heap.size 138 33 M l.length (rX l)→Calls prog 74 #[.pointer (some ⟨R,0,none⟩),.int .i64 (h':Int),.int .i64 (2*(i:Int))] w' (eU tot Ah nh ch Af nf cf R w0 l w' (some ⟨x,lx,dx,kx⟩)))
  (HV2:∀ (w':World) (M2:Value),Below w0.heap.size w0 w'→Av w' R 178 (pV tot Ah nh ch Af nf cf dx kx M2 false)→w'.ownsRow w0.heap.size 138 33 M2 (l++lx).length (rX (l++lx))→Calls prog 74 #[.pointer (some ⟨R,0,none⟩),.int .i64 (h':Int),.int .i64 (2*(i:Int)+1)] w' (eU tot Ah nh ch Af nf cf R w0 (l++lx) w' none))
  (hw:2*i+1<mN tot h'):
  Calls prog 74 #[.pointer (some ⟨R,0,none⟩),.int .i64 ((h':Int)+1),.int .i64 (i:Int)] w (eU tot Ah nh ch Af nf cf R w0 l w none):=by
 refine Xm2 ?_;try clear hA ho;intro hz W hW G hG aG aR oM hRG hGR hGw b0 hzone oR K0 hGw2
 have th:((h':Int)+1==0)=false:=by simp;omega
 have tw:decide (2*(i:Int)+1<((mN tot h':Nat):Int))=true:=by exact decide_eq_true OM
 have HW:=fun w'=>Ca (tot:Int) (h':Int) w'
 rw[qW tot h' ht OM] at HW
 generalize mN tot h'=wd at*
 replace HW:=Hy HW
 replace HV1:=Hy HV1
 replace HV2:=Hy HV2
 have xv:(x.map bv).length=32:=by rw[List.length_map,x32]
 have xone:(x.map bv).all (·.oneCell')=true:=List.all_eq_true.2 (dB x)
 replace xv:=Hy xv
 replace xone:=Hy xone
 have HN:=sH fl true tot Ah nh ch Af nf cf d k R M false hnf hnf2 hd (by have:=dM hd;omega) W aR (hrf.b b0)
 have jM:=dM hd
 replace hW:=Hy hW
 replace hG:=Hy hG
 replace hzone:=Hy hzone
 replace HN:=Hy HN
 replace hnh:=Hy hnh
 replace hnf:=Hy hnf
 replace oR:=Hy oR
 replace hd:=Hy hd
 go_enter func74,ntmps74
 go_upto_region 1 with fail
 rw[← hW.out,← hG.out]
 go_upto_region 2 with (go_at_call 76;refine HN.out.mono ?_;rintro e w1 ⟨rfl,a1,f1⟩)
 have g1:=f1.av aG hGR
 have b1:Below w0.heap.size w0 w1:=b0.trans (f1.b (fun j e=>by rw[e];exact hBR) b0.size)
 have o1:=bU oM f1 (fun j e h=>oR.out (by rw[e,h]))
 have c7:=a1.cell 7 _ rfl
 have K1:=K0.trans (dX.ofFr f1)
 clear HN aR aG oM b0 f1 K0
 go_wp2_with fail
 refine(HV1.out w1 b1 a1 o1).mono ?_
 rintro e w2 ⟨b2,K2,rfl,M2,a2,o2⟩
 rw[show l.length+lx.length=(l++lx).length by rw[List.length_append]] at o2
 have g2:=K2.av g1 DC hGR
 replace K2:=K1.trans K2
 have hw2:w.heap.size≤w2.heap.size:=K2.1
 have hRw2:=a2.lt
 have hGw3:=g2.lt
 clear HV1 c7 a1 g1 b1 o1 K1
 go_upto_region 14 with ((with_reducible refine bF 35 (b2.alloc b2.size (.cells (bV.map bv).toArray 35)) (heap_alloc_new _ _) b2.size (x.map bv) ?_ ?_ 32 xv.out ?_ ?_ ?_ ?_);rfl;rfl;kernel_rfl;rfl;exact xone.out;intro w3 p9 b3 k3 z3)
 have hx9:w2.heap.size<w3.heap.size:=p9.lt
 have a3:=(a2.alloc (.cells (bV.map bv).toArray 35)).same (k3 R OM)
 have g3:=(g2.alloc (.cells (bV.map bv).toArray 35)).same (k3 G OM)
 have bA2:Below w2.heap.size w2 (w2.alloc (.cells (bV.map bv).toArray 35)):=(Below.refl _ _).alloc LR _
 have K3:=(K2.trans (dX.ofBelow bA2)).store hw2 k3 z3
 have o3:=bU (aJ o2 bA2) (Of k3 z3 (b2.alloc b2.size _) b3) (fun j e h=>by have:=(World.ownsRow.lt o2 j e).2;omega)
 clear k3 z3 bA2 a2 g2 b2 K2 o2
 have hw3:w.heap.size≤w3.heap.size:=K3.1
 obtain⟨X9,hX9⟩:=Nm (w2.heap.size)
 rw[← hX9] at p9 hx9 hw2 hRw2 hGw3 ⊢
 clear hX9
 go_upto_region 15 with (first
  |((with_reducible refine LF p9 32 xv.out SS ?_ ?_);rfl)
  |((with_reducible refine bF 35 (b3.alloc b3.size (.cells (bV.map bv).toArray 35)) (heap_alloc_new _ _) b3.size (x.map bv) ?_ ?_ 32 xv.out ?_ ?_ ?_ ?_);rfl;rfl;kernel_rfl;rfl;exact xone.out;intro w4 p10 b4 k4 z4))
 have hx10:w3.heap.size<w4.heap.size:=p10.lt
 have a4:=(a3.alloc (.cells (bV.map bv).toArray 35)).same (k4 R OM)
 have g4:=(g3.alloc (.cells (bV.map bv).toArray 35)).same (k4 G OM)
 have p94:=(p9.alloc (.cells (bV.map bv).toArray 35)).same (k4 X9 OM)
 have bA3:Below w3.heap.size w3 (w3.alloc (.cells (bV.map bv).toArray 35)):=(Below.refl _ _).alloc LR _
 have K4:=(K3.trans (dX.ofBelow bA3)).store hw3 k4 z4
 have o4:=bU (aJ o3 bA3) (Of k4 z4 (b3.alloc b3.size _) b4) (fun j e h=>by have:=(World.ownsRow.lt o3 j e).2;omega)
 have hX10w:=b3.size
 clear k4 z4 bA3 a3 g3 b3 K3 p9 o3
 obtain⟨X10,hX10⟩:=Nm (w3.heap.size)
 rw[← hX10] at p10 hx9 hw3 hx10 hX10w ⊢
 clear hX10
 have c3:=a4.cell 3 _ rfl
 go_wp2_with (go_at_call 109;refine(HW.out _).mono ?_;rintro e w' ⟨rfl,hw'⟩;obtain rfl:=hw'.symm)
 refine(HV2.out w4 M2 b4 a4 o4).mono ?_
 rintro e w5 ⟨b5,K5,rfl,d5,k5,M5,hd5,hk5,a5⟩
 have hX9R:X9≠R:=by omega
 have hX10R:X10≠R:=by omega
 have hX9G:X9≠X10:=by omega
 have hGX:G≠X10:=by omega
 have g5:=K5.av g4 DC hGR
 have p95:=K5.av p94 DC hX9R
 have p105:=K5.av p10 DC hX10R
 replace K5:=K4.trans K5
 clear HV2 K4 a4 g4 b4 p94 p10 c3 o4
 exact Xc34
theorem KW (fl:List UInt8) (hs:List (List UInt8)) (tot:Nat) (Ah:Option Addr) (nh ch:Nat) (Af:Option Addr) (nf cf R:Nat) (hnh:hs.length=nh) (hnf:fl.length=nf) (hnf2:nf≤10000) (_:nh≤10000) (w0:World) (_:Rd w0 Ah (eB hs)) (hrf:Rd w0 Af (fl.map bv)) (hBR:w0.heap.size≤R)
  (i d k:Nat) (hi:i≤5000) (_:k≤nh) (l:List (Nat × List UInt8)) (M:Value) (w:World) (hb:Below w0.heap.size w0 w) (hA:Av w R 178 (pV tot Ah nh ch Af nf cf d k M false)) (ho:w.ownsRow w0.heap.size 138 33 M l.length (rX l))
  (h':Nat) (hh:h'+1≤12) (ht:tot≤4096) (hd:fX fl d=some true)
  (x:List UInt8) (x32:x.length=32) (lx:List (Nat × List UInt8)) (dx kx:Nat)
  (y:List UInt8) (y32:y.length=32) (ly:List (Nat × List UInt8)) (dy ky:Nat) (hdy:dy≤8*nf) (hky:ky≤nh) (hxy:x=y)
  (HV1:∀ w',Below w0.heap.size w0 w'→Av w' R 178 (pV tot Ah nh ch Af nf cf (d+1) k M false)→w'.ownsRow w0.heap.size 138 33 M l.length (rX l)→Calls prog 74 #[.pointer (some ⟨R,0,none⟩),.int .i64 (h':Int),.int .i64 (2*(i:Int))] w' (eU tot Ah nh ch Af nf cf R w0 l w' (some ⟨x,lx,dx,kx⟩)))
  (HV2:∀ (w':World) (M2:Value),Below w0.heap.size w0 w'→Av w' R 178 (pV tot Ah nh ch Af nf cf dx kx M2 false)→w'.ownsRow w0.heap.size 138 33 M2 (l++lx).length (rX (l++lx))→Calls prog 74 #[.pointer (some ⟨R,0,none⟩),.int .i64 (h':Int),.int .i64 (2*(i:Int)+1)] w' (eU tot Ah nh ch Af nf cf R w0 (l++lx) w' (some ⟨y,ly,dy,ky⟩)))
  (hw:2*i+1<mN tot h'):
  Calls prog 74 #[.pointer (some ⟨R,0,none⟩),.int .i64 ((h':Int)+1),.int .i64 (i:Int)] w (eU tot Ah nh ch Af nf cf R w0 l w none):=by
 refine Xm2 ?_;try clear hA ho;intro hz W hW G hG aG aR oM hRG hGR hGw b0 hzone oR K0 hGw2
 have th:((h':Int)+1==0)=false:=by simp;omega
 have tw:decide (2*(i:Int)+1<((mN tot h':Nat):Int))=true:=by exact decide_eq_true OM
 have HW:=fun w'=>Ca (tot:Int) (h':Int) w'
 rw[qW tot h' ht OM] at HW
 generalize mN tot h'=wd at*
 replace HW:=Hy HW
 replace HV1:=Hy HV1
 replace HV2:=Hy HV2
 have xv:(x.map bv).length=32:=by rw[List.length_map,x32]
 have xone:(x.map bv).all (·.oneCell')=true:=List.all_eq_true.2 (dB x)
 replace xv:=Hy xv
 replace xone:=Hy xone
 have yv:(y.map bv).length=32:=by rw[List.length_map,y32]
 have yone:(y.map bv).all (·.oneCell')=true:=List.all_eq_true.2 (dB y)
 replace yv:=Hy yv
 replace yone:=Hy yone
 have EQ:=fun p q w=>Kz x y x32 y32 p q w
 rw[show (x==y)=true by rw[hxy];exact beq_self_eq_true y] at EQ
 replace EQ:=Hy EQ
 replace hxy:=Hy hxy
 have HN:=sH fl true tot Ah nh ch Af nf cf d k R M false hnf hnf2 hd (by have:=dM hd;omega) W aR (hrf.b b0)
 have jM:=dM hd
 replace hW:=Hy hW
 replace hG:=Hy hG
 replace hzone:=Hy hzone
 replace HN:=Hy HN
 replace hnh:=Hy hnh
 replace hnf:=Hy hnf
 replace oR:=Hy oR
 replace hd:=Hy hd
 go_enter func74,ntmps74
 go_upto_region 1 with fail
 rw[← hW.out,← hG.out]
 go_upto_region 2 with (go_at_call 76;refine HN.out.mono ?_;rintro e w1 ⟨rfl,a1,f1⟩)
 have g1:=f1.av aG hGR
 have b1:Below w0.heap.size w0 w1:=b0.trans (f1.b (fun j e=>by rw[e];exact hBR) b0.size)
 have o1:=bU oM f1 (fun j e h=>oR.out (by rw[e,h]))
 have c7:=a1.cell 7 _ rfl
 have K1:=K0.trans (dX.ofFr f1)
 clear HN aR aG oM b0 f1 K0
 go_wp2_with fail
 refine(HV1.out w1 b1 a1 o1).mono ?_
 rintro e w2 ⟨b2,K2,rfl,M2,a2,o2⟩
 rw[show l.length+lx.length=(l++lx).length by rw[List.length_append]] at o2
 have g2:=K2.av g1 DC hGR
 replace K2:=K1.trans K2
 have hw2:w.heap.size≤w2.heap.size:=K2.1
 have hRw2:=a2.lt
 have hGw3:=g2.lt
 clear HV1 c7 a1 g1 b1 o1 K1
 go_upto_region 14 with ((with_reducible refine bF 35 (b2.alloc b2.size (.cells (bV.map bv).toArray 35)) (heap_alloc_new _ _) b2.size (x.map bv) ?_ ?_ 32 xv.out ?_ ?_ ?_ ?_);rfl;rfl;kernel_rfl;rfl;exact xone.out;intro w3 p9 b3 k3 z3)
 have hx9:w2.heap.size<w3.heap.size:=p9.lt
 have a3:=(a2.alloc (.cells (bV.map bv).toArray 35)).same (k3 R OM)
 have g3:=(g2.alloc (.cells (bV.map bv).toArray 35)).same (k3 G OM)
 have bA2:Below w2.heap.size w2 (w2.alloc (.cells (bV.map bv).toArray 35)):=(Below.refl _ _).alloc LR _
 have K3:=(K2.trans (dX.ofBelow bA2)).store hw2 k3 z3
 have o3:=bU (aJ o2 bA2) (Of k3 z3 (b2.alloc b2.size _) b3) (fun j e h=>by have:=(World.ownsRow.lt o2 j e).2;omega)
 clear k3 z3 bA2 a2 g2 b2 K2 o2
 have hw3:w.heap.size≤w3.heap.size:=K3.1
 obtain⟨X9,hX9⟩:=Nm (w2.heap.size)
 rw[← hX9] at p9 hx9 hw2 hRw2 hGw3 ⊢
 clear hX9
 go_upto_region 15 with (first
  |((with_reducible refine LF p9 32 xv.out SS ?_ ?_);rfl)
  |((with_reducible refine bF 35 (b3.alloc b3.size (.cells (bV.map bv).toArray 35)) (heap_alloc_new _ _) b3.size (x.map bv) ?_ ?_ 32 xv.out ?_ ?_ ?_ ?_);rfl;rfl;kernel_rfl;rfl;exact xone.out;intro w4 p10 b4 k4 z4))
 have hx10:w3.heap.size<w4.heap.size:=p10.lt
 have a4:=(a3.alloc (.cells (bV.map bv).toArray 35)).same (k4 R OM)
 have g4:=(g3.alloc (.cells (bV.map bv).toArray 35)).same (k4 G OM)
 have p94:=(p9.alloc (.cells (bV.map bv).toArray 35)).same (k4 X9 OM)
 have bA3:Below w3.heap.size w3 (w3.alloc (.cells (bV.map bv).toArray 35)):=(Below.refl _ _).alloc LR _
 have K4:=(K3.trans (dX.ofBelow bA3)).store hw3 k4 z4
 have o4:=bU (aJ o3 bA3) (Of k4 z4 (b3.alloc b3.size _) b4) (fun j e h=>by have:=(World.ownsRow.lt o3 j e).2;omega)
 have hX10w:=b3.size
 clear k4 z4 bA3 a3 g3 b3 K3 p9 o3
 obtain⟨X10,hX10⟩:=Nm (w3.heap.size)
 rw[← hX10] at p10 hx9 hw3 hx10 hX10w ⊢
 clear hX10
 have c3:=a4.cell 3 _ rfl
 go_wp2_with (go_at_call 109;refine(HW.out _).mono ?_;rintro e w' ⟨rfl,hw'⟩;obtain rfl:=hw'.symm)
 refine(HV2.out w4 M2 b4 a4 o4).mono ?_
 rintro e w5 ⟨b5,K5,rfl,M5,a5,o5⟩
 have hX9R:X9≠R:=by omega
 have hX10R:X10≠R:=by omega
 have hX9G:X9≠X10:=by omega
 have hGX:G≠X10:=by omega
 have g5:=K5.av g4 DC hGR
 have p95:=K5.av p94 DC hX9R
 have p105:=K5.av p10 DC hX10R
 replace K5:=K4.trans K5
 clear HV2 K4 a4 g4 b4 p94 p10 c3 o4
 go_upto_region 17 with ((with_reducible refine SF b5 p105 hX10w (y.map bv) 32 ?_ ?_ ?_ (hn:=(yv.out)) (ho:=xv.out) (h1:=yone.out));rfl;rfl;intro w6 p106 b6 k6 z6)
 have a6:=a5.same (k6 R (Ne.symm hX10R))
 have g6:=g5.same (k6 G hGX)
 have p96:=p95.same (k6 X9 hX9G)
 have K6:=K5.store hw3 k6 z6
 have c7:=a6.cell 7 _ rfl
 have f7:=frozen_of_row _ _ 7 _ _ a6
 have a7:=a6.set 7 (.bool true)
 have g7:=g6.other ⟨R,7,none⟩ (.bool true) hGR
 have p97:=p96.other ⟨R,7,none⟩ (.bool true) hX9R
 have p107:=p106.other ⟨R,7,none⟩ (.bool true) hX10R
 have b7:=b6.setCell (p:=⟨R,7,none⟩) hBR (.bool true)
 have K7:=K6.setR (i:=7) (.bool true)
 replace a7:=Hy a7
 go_wp2_with (first
  |(go_at_call 109;refine(HW.out _).mono ?_;rintro e w' ⟨rfl,hw'⟩;obtain rfl:=hw'.symm)
  |((with_reducible refine jY 35 p96 ?_ ?_ _ 32 xv.out SS ?_ ?_ ?_);kernel_rfl;rfl;rfl;kernel_rfl)
  |((with_reducible refine jY 35 p106 ?_ ?_ _ 32 yv.out SS ?_ ?_ ?_);kernel_rfl;rfl;rfl;kernel_rfl)
  |((with_reducible refine dF (c:=.bool true) ?_ ?_ ?_ (EQ.out _ _ _) ?_);kernel_rfl;rfl;rfl)
  |((with_reducible refine wpList_build (.agg (bV.map bv).toArray) ?_ ?_);(go_simp;first|done|rfl))
  |((with_reducible refine SF b7 g7 hGw (bV.map bv) 32 ?_ ?_ ?_ (h1:=hzone.out));rfl;rfl;intro w9 a9 b9 k9 z9))
 refine bodyPost_ret (results_cell_row rfl _ _ G _ _ (0,0) _ rfl a9 SS rfl KR) rfl ⟨b9,K7.store hGw2 k9 z9,rfl,dy,ky,M5,by omega,by omega,a7.out.same (k9 R hRG)⟩
theorem Pq (fl:List UInt8) (hs:List (List UInt8)) (tot:Nat) (Ah:Option Addr) (nh ch:Nat) (Af:Option Addr) (nf cf R:Nat) (hnh:hs.length=nh) (hnf:fl.length=nf) (hnf2:nf≤10000) (_:nh≤10000) (w0:World) (_:Rd w0 Ah (eB hs)) (hrf:Rd w0 Af (fl.map bv)) (hBR:w0.heap.size≤R)
  (i d k:Nat) (hi:i≤5000) (_:k≤nh) (l:List (Nat × List UInt8)) (M:Value) (w:World) (hb:Below w0.heap.size w0 w) (hA:Av w R 178 (pV tot Ah nh ch Af nf cf d k M false)) (ho:w.ownsRow w0.heap.size 138 33 M l.length (rX l))
  (h':Nat) (hh:h'+1≤12) (ht:tot≤4096) (hd:fX fl d=some true)
  (x:List UInt8) (x32:x.length=32) (lx:List (Nat × List UInt8)) (dx kx:Nat)
  (y:List UInt8) (y32:y.length=32) (ly:List (Nat × List UInt8)) (dy ky:Nat) (hxy:x≠y)
  (HV1:∀ w',Below w0.heap.size w0 w'→Av w' R 178 (pV tot Ah nh ch Af nf cf (d+1) k M false)→w'.ownsRow w0.heap.size 138 33 M l.length (rX l)→Calls prog 74 #[.pointer (some ⟨R,0,none⟩),.int .i64 (h':Int),.int .i64 (2*(i:Int))] w' (eU tot Ah nh ch Af nf cf R w0 l w' (some ⟨x,lx,dx,kx⟩)))
  (HV2:∀ (w':World) (M2:Value),Below w0.heap.size w0 w'→Av w' R 178 (pV tot Ah nh ch Af nf cf dx kx M2 false)→w'.ownsRow w0.heap.size 138 33 M2 (l++lx).length (rX (l++lx))→Calls prog 74 #[.pointer (some ⟨R,0,none⟩),.int .i64 (h':Int),.int .i64 (2*(i:Int)+1)] w' (eU tot Ah nh ch Af nf cf R w0 (l++lx) w' (some ⟨y,ly,dy,ky⟩)))
  (hw:2*i+1<mN tot h'):
  Calls prog 74 #[.pointer (some ⟨R,0,none⟩),.int .i64 ((h':Int)+1),.int .i64 (i:Int)] w (eU tot Ah nh ch Af nf cf R w0 l w (some ⟨gZ x y,lx++ly,dy,ky⟩)):=by
 refine Xm2 ?_;try clear hA ho;intro hz W hW G hG aG aR oM hRG hGR hGw b0 hzone oR K0 hGw2
 have th:((h':Int)+1==0)=false:=by simp;omega
 have tw:decide (2*(i:Int)+1<((mN tot h':Nat):Int))=true:=by exact decide_eq_true OM
 have HW:=fun w'=>Ca (tot:Int) (h':Int) w'
 rw[qW tot h' ht OM] at HW
 generalize mN tot h'=wd at*
 replace HW:=Hy HW
 replace HV1:=Hy HV1
 replace HV2:=Hy HV2
 have xv:(x.map bv).length=32:=by rw[List.length_map,x32]
 have xone:(x.map bv).all (·.oneCell')=true:=List.all_eq_true.2 (dB x)
 replace xv:=Hy xv
 replace xone:=Hy xone
 have yv:(y.map bv).length=32:=by rw[List.length_map,y32]
 have yone:(y.map bv).all (·.oneCell')=true:=List.all_eq_true.2 (dB y)
 replace yv:=Hy yv
 replace yone:=Hy yone
 have EQ:=fun p q w=>Kz x y x32 y32 p q w
 rw[show (x==y)=false from beq_eq_false_iff_ne.2 hxy] at EQ
 replace EQ:=Hy EQ
 replace hxy:=Hy hxy
 have HP:=fun w'=>Oe x y x32 y32 w'
 have p32:=iZ x y
 generalize gZ x y=pr at*
 have pv:(pr.map bv).length=32:=by rw[List.length_map,p32]
 have pone:(pr.map bv).all (·.oneCell')=true:=List.all_eq_true.2 (dB pr)
 replace HP:=Hy HP
 replace pv:=Hy pv
 replace pone:=Hy pone
 have HN:=sH fl true tot Ah nh ch Af nf cf d k R M false hnf hnf2 hd (by have:=dM hd;omega) W aR (hrf.b b0)
 have jM:=dM hd
 replace hW:=Hy hW
 replace hG:=Hy hG
 replace hzone:=Hy hzone
 replace HN:=Hy HN
 replace hnh:=Hy hnh
 replace hnf:=Hy hnf
 replace oR:=Hy oR
 replace hd:=Hy hd
 go_enter func74,ntmps74
 go_upto_region 1 with fail
 rw[← hW.out,← hG.out]
 go_upto_region 2 with (go_at_call 76;refine HN.out.mono ?_;rintro e w1 ⟨rfl,a1,f1⟩)
 have g1:=f1.av aG hGR
 have b1:Below w0.heap.size w0 w1:=b0.trans (f1.b (fun j e=>by rw[e];exact hBR) b0.size)
 have o1:=bU oM f1 (fun j e h=>oR.out (by rw[e,h]))
 have c7:=a1.cell 7 _ rfl
 have K1:=K0.trans (dX.ofFr f1)
 clear HN aR aG oM b0 f1 K0
 go_wp2_with fail
 refine(HV1.out w1 b1 a1 o1).mono ?_
 rintro e w2 ⟨b2,K2,rfl,M2,a2,o2⟩
 rw[show l.length+lx.length=(l++lx).length by rw[List.length_append]] at o2
 have g2:=K2.av g1 DC hGR
 replace K2:=K1.trans K2
 have hw2:w.heap.size≤w2.heap.size:=K2.1
 have hRw2:=a2.lt
 have hGw3:=g2.lt
 clear HV1 c7 a1 g1 b1 o1 K1
 go_upto_region 14 with ((with_reducible refine bF 35 (b2.alloc b2.size (.cells (bV.map bv).toArray 35)) (heap_alloc_new _ _) b2.size (x.map bv) ?_ ?_ 32 xv.out ?_ ?_ ?_ ?_);rfl;rfl;kernel_rfl;rfl;exact xone.out;intro w3 p9 b3 k3 z3)
 have hx9:w2.heap.size<w3.heap.size:=p9.lt
 have a3:=(a2.alloc (.cells (bV.map bv).toArray 35)).same (k3 R OM)
 have g3:=(g2.alloc (.cells (bV.map bv).toArray 35)).same (k3 G OM)
 have bA2:Below w2.heap.size w2 (w2.alloc (.cells (bV.map bv).toArray 35)):=(Below.refl _ _).alloc LR _
 have K3:=(K2.trans (dX.ofBelow bA2)).store hw2 k3 z3
 have o3:=bU (aJ o2 bA2) (Of k3 z3 (b2.alloc b2.size _) b3) (fun j e h=>by have:=(World.ownsRow.lt o2 j e).2;omega)
 clear k3 z3 bA2 a2 g2 b2 K2 o2
 have hw3:w.heap.size≤w3.heap.size:=K3.1
 obtain⟨X9,hX9⟩:=Nm (w2.heap.size)
 rw[← hX9] at p9 hx9 hw2 hRw2 hGw3 ⊢
 clear hX9
 go_upto_region 15 with (first
  |((with_reducible refine LF p9 32 xv.out SS ?_ ?_);rfl)
  |((with_reducible refine bF 35 (b3.alloc b3.size (.cells (bV.map bv).toArray 35)) (heap_alloc_new _ _) b3.size (x.map bv) ?_ ?_ 32 xv.out ?_ ?_ ?_ ?_);rfl;rfl;kernel_rfl;rfl;exact xone.out;intro w4 p10 b4 k4 z4))
 have hx10:w3.heap.size<w4.heap.size:=p10.lt
 have a4:=(a3.alloc (.cells (bV.map bv).toArray 35)).same (k4 R OM)
 have g4:=(g3.alloc (.cells (bV.map bv).toArray 35)).same (k4 G OM)
 have p94:=(p9.alloc (.cells (bV.map bv).toArray 35)).same (k4 X9 OM)
 have bA3:Below w3.heap.size w3 (w3.alloc (.cells (bV.map bv).toArray 35)):=(Below.refl _ _).alloc LR _
 have K4:=(K3.trans (dX.ofBelow bA3)).store hw3 k4 z4
 have o4:=bU (aJ o3 bA3) (Of k4 z4 (b3.alloc b3.size _) b4) (fun j e h=>by have:=(World.ownsRow.lt o3 j e).2;omega)
 have hX10w:=b3.size
 clear k4 z4 bA3 a3 g3 b3 K3 p9 o3
 obtain⟨X10,hX10⟩:=Nm (w3.heap.size)
 rw[← hX10] at p10 hx9 hw3 hx10 hX10w ⊢
 clear hX10
 have c3:=a4.cell 3 _ rfl
 go_wp2_with (go_at_call 109;refine(HW.out _).mono ?_;rintro e w' ⟨rfl,hw'⟩;obtain rfl:=hw'.symm)
 refine(HV2.out w4 M2 b4 a4 o4).mono ?_
 rintro e w5 ⟨b5,K5,rfl,M5,a5,o5⟩
 have hX9R:X9≠R:=by omega
 have hX10R:X10≠R:=by omega
 have hX9G:X9≠X10:=by omega
 have hGX:G≠X10:=by omega
 have g5:=K5.av g4 DC hGR
 have p95:=K5.av p94 DC hX9R
 have p105:=K5.av p10 DC hX10R
 replace K5:=K4.trans K5
 clear HV2 K4 a4 g4 b4 p94 p10 c3 o4
 go_upto_region 17 with ((with_reducible refine SF b5 p105 hX10w (y.map bv) 32 ?_ ?_ ?_ (hn:=(yv.out)) (ho:=xv.out) (h1:=yone.out));rfl;rfl;intro w6 p106 b6 k6 z6)
 have a6:=a5.same (k6 R (Ne.symm hX10R))
 have g6:=g5.same (k6 G hGX)
 have p96:=p95.same (k6 X9 hX9G)
 have K6:=K5.store hw3 k6 z6
 have c7:=a6.cell 7 _ rfl
 have f7:=frozen_of_row _ _ 7 _ _ a6
 have o6:=bU o5 (Of k6 z6 b5 b6) (fun j e h=>by have:=eM o5 p105 DC;exact this (by rw[e,h]))
 have a7:=a6.set 7 (.bool false)
 have g7:=g6.other ⟨R,7,none⟩ (.bool false) hGR
 have p97:=p96.other ⟨R,7,none⟩ (.bool false) hX9R
 have p107:=p106.other ⟨R,7,none⟩ (.bool false) hX10R
 have b7:=b6.setCell (p:=⟨R,7,none⟩) hBR (.bool false)
 have K7:=K6.setR (i:=7) (.bool false)
 replace a7:=Hy a7
 have o7:=bU o6 (Fr.setCell w6 ⟨R,7,none⟩ (.bool false)) (fun j e h=>by have:=eM o6 a6 DC;exact this (by rw[e,h]))
 replace a7:=a7.out
 go_wp2_with (first
  |(go_at_call 109;refine(HW.out _).mono ?_;rintro e w' ⟨rfl,hw'⟩;obtain rfl:=hw'.symm)
  |((with_reducible refine jY 35 p96 ?_ ?_ _ 32 xv.out SS ?_ ?_ ?_);kernel_rfl;rfl;rfl;kernel_rfl)
  |((with_reducible refine jY 35 p106 ?_ ?_ _ 32 yv.out SS ?_ ?_ ?_);kernel_rfl;rfl;rfl;kernel_rfl)
  |((with_reducible refine dF (c:=.bool false) ?_ ?_ ?_ (EQ.out _ _ _) ?_);kernel_rfl;rfl;rfl)
  |((with_reducible refine LF p97 32 xv.out SS ?_ ?_);rfl)
  |((with_reducible refine LF p107 32 yv.out SS ?_ ?_);rfl))
 refine(HP.out (w6.setCell ⟨R,7,none⟩ (.bool false))).mono ?_
 rintro e w8 ⟨rfl,b8'⟩
 have a8:=a7.b b8'
 have g8:=g7.b b8'
 have o8:=aJ o7 b8'
 have b8:=b7.trans (b8'.mono b7.size)
 have K8:=K7.trans (dX.ofBelow b8')
 have oG8:=eM o8 g8 DC
 clear b8'
 go_wp2_with ((with_reducible refine SF b8 g8 hGw (pr.map bv) 32 ?_ ?_ ?_ (hn:=pv.out) (h1:=pone.out));rfl;rfl;intro w9 a9 b9 k9 z9)
 refine bodyPost_ret (results_cell_row rfl _ _ G _ _ (0,0) _ rfl a9 SS rfl (by rw[List.size_toArray,pv.out];kernel_rfl)) rfl ⟨b9,K8.store hGw2 k9 z9,rfl,M5,a8.same (k9 R hRG),?_⟩
 dsimp only
 rw[← List.append_assoc,show l.length+(lx++ly).length=(l++lx).length+ly.length by simp only[List.length_append];omega]
 exact bU o8 (Of k9 z9 b8 b9) (fun j e h=>oG8 (by rw[e,h]))
end Go.Proofs.YtobjgebojhjhnaaGreatDoor
