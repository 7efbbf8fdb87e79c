import Derived.Test.YtobjgebojhjhnaaGreatDoorQr19
namespace Go.Proofs.YtobjgebojhjhnaaGreatDoor
set_option maxRecDepth 100000
set_option maxHeartbeats 16000000
open Go.RowKit Tryz
attribute [local go_sem high] QY wT
attribute [local simp] BA
theorem Sa (w:World):(zeroValue 161).run prog w= .ok (.agg Ea) w:=by
 obtain⟨i0,hi,hz⟩:=Option.map_eq_some_iff.1 (show (prog.info? 161).map (·.zero)=some (some (.agg Ea)) by kernel_rfl)
 unfold zeroValue typeInfo
 simp[hi,hz,Result.andThen]
theorem Pz:zeroCells161=Ea:=by kernel_rfl
attribute [local go_sem high] Sa Pz
theorem Ff:(prog.info? 161).map (·.zero)=some (some (.agg Ea)):=by kernel_rfl
theorem Ce:(match prog.underlying 161 with|some (.struct fs)=>fs.toList.mapM (fun f=>(prog.info? f.type).map fun i=>(f.offset,i.size))|_=>none)=some [(0,32),(32,68),(100,1),(101,1),(102,4)]:=by kernel_rfl
theorem vH (x:List UInt8) (h:Hd) (p:Int) (g y:Nat) (hx:x.length=32) (hh:h.ok):prog.built 161 [(0,.agg (cK x)),(1,.agg (fC h).toArray),(2,.int .i64 p),(3,.int .i64 (g:Int)),(4,.agg (uc y).toArray)]=some (gF ⟨x,h,p,g,y⟩).toArray:=by
 have hp:=Ce
 rw[underlying161] at hp
 rw[fL underlying161 Ff hp]
 have h68:=cJ hh
 have z68:(fC dO.head).length=68:=rfl
 have z32:(dO.id.map bv).length=32:=rfl
 show Instr.fill _ (([]++(dO.id.map bv++(fC dO.head++([.int .i64 0]++([.int .i64 0]++(uc 0++ [])))))):List Value).toArray _=_
 generalize fC dO.head=Z1 at*
 generalize dO.id.map bv=Z0 at*
 refine Eq.trans (dA [] Z0 (x.map bv) _ (off:=0) (size:=32) rfl rfl (by simpa using hx) rfl z32) ?_
 rw[← List.append_assoc]
 refine Eq.trans (dA _ Z1 (fC h) _ (off:=32) (size:=68) rfl rfl h68 (by simpa using hx) z68) ?_
 rw[← List.append_assoc]
 refine Eq.trans (dA _ [.int .i64 0] [.int .i64 p] _ (off:=100) (size:=1) rfl rfl rfl (by simp[hx,h68]) rfl) ?_
 rw[← List.append_assoc]
 refine Eq.trans (dA _ [.int .i64 0] [.int .i64 (g:Int)] _ (off:=101) (size:=1) rfl rfl rfl (by simp[hx,h68]) rfl) ?_
 rw[← List.append_assoc]
 refine Eq.trans (dA _ (uc 0) (uc y) [] (off:=102) (size:=4) rfl rfl rfl (by simp[hx,h68]) rfl) ?_
 rw[Instr.fill]
 congr 2
 simp[gF]
theorem Fg:(prog.info? 161).map (fun i=>(i.size,i.bytes))=some (106,160):=by kernel_rfl
theorem Fh:(prog.info? 161).map (fun i=>(i.zero.map (·.cells.size)))=some (some 106):=by kernel_rfl
theorem PC (A : Option Addr) (n c most : Nat) (ns : List Nd) (h : Hd) (hh : h.ok) (hn : ns.length = n) (hs : n ≤ most) (hm : most ≤ 1048576) (ok : nH ns) (hnc : n ≤ c) (w : World) (hr : Rd w A (qF ns)) :
    Calls prog 31 #[.agg #[.slice A n c, .int .i64 (most : Int)], .agg (fC h).toArray] w fun e w' => (∃ A' c', e = .returned (.tuple #[.agg #[.slice A' (iD most ns h).1.length c', .int .i64 (most : Int)], .int .i64 (iD most ns h).2.1, .int .i64 ((iD most ns h).2.2 : Int)]) ∧ (iD most ns h).1.length ≤ c' ∧ Rd w' A' (qF (iD most ns h).1)) ∧ Below w.heap.size w w' := by
  have hX := fZ h
  have hnd := ok.nds
  have hP32 := hh.2.1
  obtain ⟨X, hXe⟩ := Nm (dS h)
  obtain ⟨W, hW⟩ := Nm (((w.alloc (.cells #[.slice A n c, .int .i64 (most : Int)] 47)).alloc (.cells (fC h).toArray 37)).alloc (.cells #[.slice none 0 0, .int .i64 0] 47))
  obtain ⟨H, hH⟩ := Nm (w.heap.size)
  have e : ∀ (v : World) (o : Obj), (v.alloc o).heap.size = v.heap.size + 1 := fun v o => by simp
  have bW : Below w.heap.size w W := by rw [hW]; exact (((Below.refl _ _).alloc LR _).alloc zS _).alloc (by simp; omega) _
  have aT : Av W H 47 [.slice A n c, .int .i64 (most : Int)] := by rw [hW, hH]; exact Av.alloc (heap_alloc2_old _ _ _) _
  have aH : Av W (H + 1) 37 (fC h) := by rw [hW, hH]; exact Av.alloc (heap_alloc2_new _ _ _) _
  have aR : Av W (H + 2) 47 [.slice none 0 0, .int .i64 0] := by
    have := heap_alloc_new ((w.alloc (.cells #[.slice A n c, .int .i64 (most : Int)] 47)).alloc (.cells (fC h).toArray 37)) (.cells #[.slice none 0 0, .int .i64 0] 47)
    rw [e, e] at this
    rw [hW, hH]; exact this
  have hHw : w.heap.size ≤ H + 2 := by rw [hH]; omega
  have h68 := Hy (cJ hh)
  have HI := QS h hh
  rw [← hXe] at HI hX
  have l32 : Hid ((X.map bv).length = 32) := Hy (by rw [List.length_map]; exact hX)
  have one32 := Hy (List.all_eq_true.2 (dB X))
  have p32 : Hid ((h.prev.map bv).length = 32) := Hy (by rw [List.length_map]; exact hP32)
  have HF := fun (x : List UInt8) (hx : x.length = 32) (w' : World) (r : Rd w' A (qF ns)) => JI x hx A n c most ns hn hnd OM w' r
  have z32 := Hy (show (#[.int .u8 0, .int .u8 0, .int .u8 0, .int .u8 0, .int .u8 0, .int .u8 0, .int .u8 0, .int .u8 0, .int .u8 0, .int .u8 0, .int .u8 0, .int .u8 0, .int .u8 0, .int .u8 0, .int .u8 0, .int .u8 0, .int .u8 0, .int .u8 0, .int .u8 0, .int .u8 0, .int .u8 0, .int .u8 0, .int .u8 0, .int .u8 0, .int .u8 0, .int .u8 0, .int .u8 0, .int .u8 0, .int .u8 0, .int .u8 0, .int .u8 0, .int .u8 0] : Array Value).size = 32 from rfl)
  have hmk : ∀ i, bZ ns X = some i → iD most ns h = (ns, (i : Int), 10) := fun i e => by rw [iD, ← hXe, e]
  have hmo : bZ ns X = none → gS ns h = none → iD most ns h = (ns, -1, 9) := fun e f => by rw [iD, ← hXe, e, f]
  have hmn : ∀ nd, bZ ns X = none → gS ns h = some nd → iD most ns h = if most ≤ ns.length then (ns, -1, 12) else (ns ++ [nd], (ns.length : Int), 0) := fun nd e f => by rw [iD, ← hXe, e, f]
  obtain ⟨mA, hmA'⟩ : ∃ m, m = iD most ns h := ⟨_, rfl⟩
  rw [← hmA'] at hmk hmo hmn ⊢
  clear e
  replace hmA' := Hy hmA'
  replace hXe := Hy hXe
  replace HI := Hy HI
  replace HF := Hy HF
  replace hW := Hy hW
  replace hH := Hy hH
  replace hmk := Hy hmk
  replace hmo := Hy hmo
  replace hmn := Hy hmn
  replace ok := Hy ok
  replace hnd := Hy hnd
  go_enter func31, ntmps31
  go_upto_region 1 with fail
  rw [← hW.out, ← hH.out]
  go_upto_region 2 with (first
    | ((with_reducible refine LF aH 68 h68.out Tb ?_ ?_);rfl)
    | (go_at_call 49; refine (HI.out _).mono ?_; rintro e w1 ⟨rfl, b1⟩)
    | ((with_reducible refine SN (X.map bv) 32 ?_ ?_ ?_ (hn:=l32.out) (ho:=z32.out) (h1:=one32.out));rfl;rfl;intro w2 aX b2 k2 z2;clear k2;replace z2 := Hy z2))
  replace b2 := b1.trans (b2.mono b1.size)
  have bw := bW.trans (b2.mono bW.size)
  replace aT := aT.b b2
  replace aH := aH.b b2
  replace aR := aR.b b2
  have rA := hr.b bw
  obtain ⟨g7, hg7⟩ := Nm (w1.heap.size)
  rw [← hg7] at aX ⊢
  replace hg7 := Hy hg7
  clear b1 b2 bW
  cases hk : bZ ns X with
  | some i =>
    have HX := HF.out X hX
    rw [qC, hk] at HX
    have hmA := hmk.out i hk
    replace HX := Hy HX
    replace hmA := Hy hmA
    clear hk
    go_wp2_with (first
      | ((with_reducible refine LH aT 2 Ta ?_ ?_);rfl)
      | ((with_reducible refine LF aX 32 l32.out SS ?_ ?_);rfl)
      | (go_at_call 50; refine (HX.out w2 rA).mono ?_; rintro e w3 ⟨rfl, b3⟩; have aT3 := aT.b b3)
      | ((with_reducible refine LH aT3 2 Ta ?_ ?_);rfl)
      | ((with_reducible refine SF (bw.trans (b3.mono bw.size)) (aR.b b3) hHw [.slice A n c, .int .i64 (most : Int)] 2 ?_ ?_ ?_);rfl;rfl;intro w9 a9 b9 k9 z9))
    refine bodyPost_ret ((cC (C := [.slice A n c, .int .i64 (most : Int)]) bM bM a9 _ Ta rfl 2 rfl KR).trans bM) bM ?_
    refine ⟨⟨A, c, by rw [hmA.out, hn]; rfl, by rw [hmA.out, hn]; exact hnc, by rw [hmA.out]; exact hr.b b9⟩, b9⟩
  | none =>
    have HX := HF.out X hX
    rw [qC, hk] at HX
    replace HX := Hy HX
    have HP := HF.out h.prev hP32
    obtain ⟨bb, hbb⟩ := Nm (h.bits)
    have c66 := Hy (Bu hh).2.2.1
    have HW := Qj bb (by rw [hbb]; exact hh.2.2.2.2.1)
    rw [← hbb] at c66
    have hWl := wR bb
    obtain ⟨Wk, hWk⟩ := Nm (fE bb)
    rw [← hWk] at HW hWl
    have cK : (0 < n ∧ bZ ns h.prev = none) ∨ ((n = 0 ∧ bZ ns h.prev = none ∧ gS ns h = some ⟨X, h, -1, 0, Wk⟩) ∨ ∃ j x, bZ ns h.prev = some j ∧ ns[j]? = some x ∧ gS ns h = some ⟨X, h, (j : Int), x.hgt + 1, (x.wrk + Wk) % 115792089237316195423570985008687907853269984665640564039457584007913129639936⟩) := by
      cases hp : bZ ns h.prev with
      | none =>
        by_cases h0 : n = 0
        · exact .inr (.inl ⟨h0, rfl, by rw [gS, if_pos OM, ← hXe.out, ← hbb, ← hWk]⟩)
        · exact .inl ⟨by omega, rfl⟩
      | some j =>
        obtain ⟨x, hx, _⟩ := pO hp
        have := oP hp
        exact .inr (.inr ⟨j, x, rfl, hx, by rw [gS, if_neg OM, hp]; simp only; rw [hx, ← hXe.out, ← hbb, ← hWk]⟩)
    replace HW := Hy HW
    replace hbb := Hy hbb
    replace hWk := Hy hWk
    have rgP : Hid _ := Hy (Av.hd_prev aH)
    replace hk := Hy hk
    go_upto_region 5 with (first
      | ((with_reducible refine LH aT 2 Ta ?_ ?_);rfl)
      | ((with_reducible refine LF aX 32 l32.out SS ?_ ?_);rfl)
      | (go_at_call 50; refine (HX.out w2 rA).mono ?_; rintro e w3 ⟨rfl, b3⟩))
    replace bw := bw.trans (b3.mono bw.size)
    replace aT := aT.b b3
    replace aH := aH.b b3
    replace aR := aR.b b3
    replace aX := aX.b b3
    replace rA := rA.b b3
    clear b3 HX rgP
    have rgP := Hy (Av.hd_prev aH)
    rcases cK with ⟨hn0, hp⟩ | cK
    · have tn : decide ((0 : Int) < (n : Int)) = true := by simp; omega
      have hmA := hmo.out hk.out (by rw [gS, if_neg OM, hp])
      rw [qC, hp] at HP
      replace HP := Hy HP
      replace hmA := Hy hmA
      clear hp
      go_upto_region 6 with (first
        | ((with_reducible refine LH aT 2 Ta ?_ ?_);rfl)
        | ((with_reducible refine LM rgP.out SS ?_ ?_ (hi:=by rw [p32.out]; kernel_rfl));rfl)
        | (go_at_call 50; refine (HP.out w3 rA).mono ?_; rintro e w5 ⟨rfl, b5⟩))
      replace bw := bw.trans (b5.mono bw.size)
      replace aT := aT.b b5
      replace aR := aR.b b5
      have c0 := aT.cell 0 _ rfl
      go_wp2_with (first
        | ((with_reducible refine LH aT 2 Ta ?_ ?_);rfl)
        | ((with_reducible refine SF bw aR hHw [.slice A n c, .int .i64 (most : Int)] 2 ?_ ?_ ?_);rfl;rfl;intro w9 a9 b9 k9 z9))
      refine bodyPost_ret ((cC (C := [.slice A n c, .int .i64 (most : Int)]) bM bM a9 _ Ta rfl 2 rfl KR).trans bM) bM ?_
      refine ⟨⟨A, c, by rw [hmA.out, hn]; rfl, by rw [hmA.out, hn]; exact hnc, by rw [hmA.out]; exact hr.b b9⟩, b9⟩
    · obtain ⟨nd0, hnd0⟩ : ∃ n : Nd, n = ⟨X, h, -1, 0, Wk⟩ := ⟨_, rfl⟩
      have nok0 : uT nd0 := by rw [hnd0]; exact ⟨hX, hh, hWl⟩
      have hbt := vH X h (-1) 0 Wk hX hh
      rw [← hnd0] at hbt
      have l106 := Hy (dN nok0)
      have one106 := Hy (List.all_eq_true.2 (kA nd0))
      replace hbt := Hy hbt
      obtain ⟨nd, hmN, hndk, cK⟩ : ∃ nd, gS ns h = some nd ∧ uT nd ∧ ((n = 0 ∧ bZ ns h.prev = none ∧ nd = nd0) ∨ ∃ j x, bZ ns h.prev = some j ∧ ns[j]? = some x ∧ nd = ⟨X, h, (j : Int), x.hgt + 1, (x.wrk + Wk) % 115792089237316195423570985008687907853269984665640564039457584007913129639936⟩) := by
        rcases cK with ⟨h0, hp, hm⟩ | ⟨j, x, hp, hx, hm⟩
        · exact ⟨_, hm, by rw [← hnd0]; exact nok0, .inl ⟨h0, hp, hnd0.symm⟩⟩
        · exact ⟨_, hm, ⟨hX, hh, Nat.mod_lt _ OM⟩, .inr ⟨j, x, hp, hx, rfl⟩⟩
      have hmA := hmn.out nd hk.out hmN
      rw [hn] at hmA
      replace hmA := Hy hmA
      replace hnd0 := Hy hnd0
      clear hmN
      have n106 := Hy (dN hndk)
      have none6 := Hy (kA nd)
      rcases cK with ⟨hn0, hp, hnn⟩ | ⟨j, x, hp, hx, hnn⟩
      all_goals
        rw [qC, hp] at HP
        replace HP := Hy HP
        replace hnn := Hy hnn
        first
          | (have hj := oP hp
             have tn : decide ((0 : Int) < (n : Int)) = true := by simp; omega
             have tn2 : decide (0 < n) = true := by simp; omega
             replace hx := Hy hx
             replace hj := Hy hj)
          | (have tn : decide ((0 : Int) < (n : Int)) = false := by simp [hn0]
             have tn2 : decide (0 < n) = false := by simp [hn0]
             replace hn0 := Hy hn0)
        clear hp
        go_upto_region 6 with (first
          | ((with_reducible refine LH aT 2 Ta ?_ ?_);rfl)
          | ((with_reducible refine LM rgP.out SS ?_ ?_ (hi:=by rw [p32.out]; kernel_rfl));rfl)
          | (go_at_call 50; refine (HP.out w3 rA).mono ?_; rintro e w5 ⟨rfl, b5⟩))
        have bw5 := bw.trans (b5.mono bw.size)
        have aT5 := aT.b b5
        have aR5 := aR.b b5
        have aX5 := aX.b b5
        have aH5 := aH.b b5
        have rA5 := rA.b b5
        clear b5 aT aR aX aH rA bw HP rgP
        have c0 := aT5.cell 0 _ rfl
        have c1 := aT5.cell 1 _ rfl
        by_cases hfull : most ≤ n
        · have tF : decide ((most : Int) ≤ (n : Int)) = true := by simp; omega
          have tF2 : decide (most ≤ n) = true := by simp; omega
          have hmB := hmA.out
          rw [if_pos hfull] at hmB
          replace hmB := Hy hmB
          clear hfull
          go_wp2_with (first
            | ((with_reducible refine LH aT5 2 Ta ?_ ?_);rfl)
            | ((with_reducible refine SF bw5 aR5 hHw [.slice A n c, .int .i64 (most : Int)] 2 ?_ ?_ ?_);rfl;rfl;intro w9 a9 b9 k9 z9))
          refine bodyPost_ret ((cC (C := [.slice A n c, .int .i64 (most : Int)]) bM bM a9 _ Ta rfl 2 rfl KR).trans bM) bM ?_
          refine ⟨⟨A, c, by rw [hmB.out, hn]; rfl, by rw [hmB.out, hn]; exact hnc, by rw [hmB.out]; exact hr.b b9⟩, b9⟩
        · have tF : decide ((most : Int) ≤ (n : Int)) = false := by simp; omega
          have tF2 : decide (most ≤ n) = false := by simp; omega
          have hmB := hmA.out
          rw [if_neg hfull] at hmB
          replace hmB := Hy hmB
          go_upto_region 10 with fail
          clear c0 c1
          have aX := aX5
          have aH := aH5
          have gX := aX5.lt
          clear aX5 aH5
          refine dG [⟨6, 12, 7, 161, gF dO, gF nd0⟩] [] KR KR KR KR KR (by intro e he; cases he) zS (by intro e he; cases he) ?_
          refine dK rfl rfl rfl rfl (c := .agg (X.map bv).toArray) (fun w hw => aE (aX.b hw.nil) _ _ rfl rfl _ 32 l32.out SS rfl KR) (by simp only [Zs]; rfl) ?_
          refine dK rfl rfl rfl rfl (c := .agg (fC h).toArray) (fun w hw => aE (aH.b hw.nil) _ _ rfl rfl _ 68 h68.out Tb rfl KR) (by simp only [Zs]; rfl) ?_
          refine dK rfl rfl rfl rfl (c := .pointer (some ⟨H + 1, 66, none⟩)) (fun w _ => by go_simp; first | done | rfl) (by simp only [Zs]; rfl) ?_
          refine dK rfl rfl rfl rfl (c := .int .u32 (bb : Int)) (fun w hw => by have := (aH.b hw.nil).cell 66 _ c66.out; go_simp; first | done | rfl) (by simp only [Zs]; rfl) ?_
          refine jO rfl rfl rfl rfl (c := .agg (uc Wk).toArray) 61 #[.int .u32 (bb : Int)] (fun w => by go_simp) (fun w hw => (HW.out w).mono (by rintro e w' ⟨rfl, b⟩; exact ⟨rfl, b⟩)) (by simp only [Zs]; rfl) ?_
          refine dK rfl rfl rfl rfl (c := .agg (gF nd0).toArray) (fun w hw => dC (cs := gF nd0) (ops := [(0, .tmp 50), (1, .tmp 51), (2, .const (.int .i64 (-1))), (3, .const (.int .i64 0)), (4, .tmp 54)]) rfl hbt.out) (by simp only [Zs]; rfl) ?_
          refine mU rfl rfl (fun ρ w => by unfold execOp; go_simp; rfl) ?_
          refine mV rfl rfl (fun w hw => aC rfl rfl fun v _ => aF fun b hb h0 => ?_) ?_
          · simp at hb
            subst hb
            exact iY h0 (tN.trans l106.out.symm) _ _ _ rfl rfl rfl 106 l106.out KR one106.out
          refine wM fun w6 hw6 => aC rfl rfl fun v9 _ => aF fun hJ _ => ?_
          obtain ⟨g12, hb, hB, a12⟩ := hJ.at_ ⟨6, 12, 7, 161, gF dO, gF nd0⟩ (List.mem_cons_self ..) rfl
          simp at hb
          subst hb
          replace a12 : Av w6 g12 161 (gF nd0) := a12
          have b6 := hw6.nil
          have bw6 := bw5.trans (b6.mono bw5.size)
          have g12w : w.heap.size ≤ g12 := Nat.le_trans bw5.size hB
          replace aX := aX.b b6
          replace aH := aH.b b6
          have aT := aT5.b b6
          have aR := aR5.b b6
          have rA := rA5.b b6
          have hHg : H + 2 < g12 ∧ g7 < g12 := ⟨Nat.lt_of_lt_of_le aR5.lt hB, Nat.lt_of_lt_of_le gX hB⟩
          clear hw6 hJ b6 aT5 aR5 rA5 bw5 hB gX
          simp only [List.set_cons_succ, List.set_cons_zero]
          have c0 := aT.cell 0 _ rfl
          first
            | (have hz := hn0
               clear hz
               go_upto_region 14 with fail
               clear c0
               rw [← hnn.out] at a12
               have bq := bw6
               obtain ⟨wq, hwq⟩ := Nm (w6)
               rw [← hwq] at a12 aT aR rA bq ⊢
               clear hwq bw6 aX aH)
            | (have hxo := hx.out
               have xok := hnd.out x (List.mem_of_getElem? hxo)
               obtain ⟨b, off, rfl⟩ : ∃ b off, A = some ⟨b, off, none⟩ := rA.someA fun e => by
                 have := rH hnd.out
                 rw [e, List.length_nil] at this
                 have := hj.out
                 omega
               have pc : ∀ w', Below w6.heap.size w6 w' → w'.rangeAt b (off + j * 106) (gF x) := fun w' b' => Rd.piece gF 106 ns (fun e he => dN (hnd.out e he)) (rA.b b') j x hxo
               have rgW := Hy (fun w' b' => vY xok (pc w' b'))
               obtain ⟨G, hG⟩ := Nm (x.hgt)
               have rgG := Hy (fun w' b' => tP (pc w' b') (show (gF x)[101]? = some (.int .i64 (G : Int)) by rw [hG]; exact (sR xok).2))
               have rgN : Hid (∀ w', Below w6.heap.size w6 w' → w'.rangeAt g12 102 (uc Wk)) := Hy (fun w' b' => by
                 have := vY nok0 (a12.b b').range0
                 rw [hnd0.out] at this
                 simpa using this)
               have hGj : G ≤ j := by
                 have := ok.out.hgt_le (i := j) (by have := hj.out; omega)
                 rw [rJ hxo] at this
                 omega
               have hGw := Hy (show IntKind.i64.wrap ((G : Int) + 1) = ((G + 1 : Nat) : Int) by rw [IntKind.wrap_i64]; have := hj.out; omega)
               have j0 : (0 : Int) ≤ (j : Int) := by omega
               have j1 : (j : Int) < (n : Int) := by have := hj.out; omega
               have HS := Ou x.wrk Wk (by rw [jH]; exact xok.wrk) (by rw [jH]; exact hWl)
               rw [jH] at HS
               obtain ⟨Sm, hSm⟩ := Nm ((x.wrk + Wk) % 115792089237316195423570985008687907853269984665640564039457584007913129639936)
               obtain ⟨sb, hsb⟩ := Nm (decide (115792089237316195423570985008687907853269984665640564039457584007913129639936 ≤ x.wrk + Wk))
               rw [← hSm, ← hsb] at HS
               have hbt2 := vH X h (j : Int) (G + 1) Sm hX hh
               rw [show (⟨X, h, (j : Int), G + 1, Sm⟩ : Nd) = nd by rw [hnn.out, hG, hSm]] at hbt2
               replace HS := Hy HS
               replace hbt2 := Hy hbt2
               replace hG := Hy hG
               clear hxo pc hGj hSm hsb
               go_upto_region 12 with fail
               clear c0
               refine dG [⟨12, 13, 13, 158, fS 0 0 0 0, uc Sm⟩] [] KR KR KR KR KR (by intro e he; cases he) zS (by intro e he; cases he) ?_
               refine dK rfl rfl rfl rfl (fun w _ => by go_simp; first | done | rfl) (by simp only [Zs]; rfl) ?_
               refine dK rfl rfl rfl rfl (c := .slice (some ⟨b, off, none⟩) n c) (fun w hw => by have := (aT.b hw.nil).cell 0 _ rfl; go_simp; first | done | rfl) (by simp only [Zs]; rfl) ?_
               refine mT rfl rfl rfl rfl _ (.inl rfl) (by conv => lhs; whnf) (by simp only [Zs]; rfl) ?_
               refine dK rfl rfl rfl rfl (fun w _ => by have := j0; have := j1; go_simp; first | done | rfl) (by simp only [Zs]; rfl) ?_
               refine dK rfl rfl rfl rfl (fun w _ => by go_simp; first | done | rfl) (by simp only [Zs]; rfl) ?_
               refine dK rfl rfl rfl rfl (c := .agg (uc x.wrk).toArray) (fun w hw => bJ _ _ rfl b (off + j * 106 + 102) rfl (uc x.wrk) _ (rgW.out _ hw.nil) SV rfl KR) (by simp only [Zs]; rfl) ?_
               refine dK rfl rfl rfl rfl (fun w _ => by go_simp; first | done | rfl) (by simp only [Zs]; rfl) ?_
               refine dK rfl rfl rfl rfl (c := .agg (uc Wk).toArray) (fun w hw => bJ _ _ rfl g12 (102) rfl (uc Wk) _ (rgN.out _ hw.nil) SV rfl KR) (by simp only [Zs]; rfl) ?_
               refine jO rfl rfl rfl rfl (c := .tuple #[.agg (uc Sm).toArray, .bool sb]) 62 #[.agg (uc x.wrk).toArray, .agg (uc Wk).toArray] (fun w => by go_simp) (fun w hw => (HS.out w).mono (by rintro e w' ⟨rfl, b⟩; exact ⟨rfl, b⟩)) (by simp only [Zs]; rfl) ?_
               refine mT rfl rfl rfl rfl _ (.inl rfl) (by conv => lhs; whnf) (by simp only [Zs]; rfl) ?_
               refine dK rfl rfl rfl rfl (c := .agg (uc Sm).toArray) (fun w _ => by go_simp; first | done | rfl) (by simp only [Zs]; rfl) ?_
               refine dK rfl rfl rfl rfl (c := .bool sb) (fun w _ => by go_simp; first | done | rfl) (by simp only [Zs]; rfl) ?_
               refine mU rfl rfl (fun ρ w => by unfold execOp; go_simp; rfl) ?_
               refine mV rfl rfl (fun w hw => aC rfl rfl fun v _ => aF fun b hb h0 => ?_) ?_
               · simp at hb
                 subst hb
                 exact iY h0 rfl _ _ _ rfl rfl rfl 4 rfl KR rfl
               refine mT rfl rfl rfl rfl _ (.inr rfl) (by conv => lhs; whnf) (by simp only [Zs]; rfl) ?_
               refine wM fun w7 hw7 => aC rfl rfl fun v13 _ => aF fun hJ _ => ?_
               obtain ⟨g13, hb, hB, aS⟩ := hJ.at_ ⟨12, 13, 13, 158, fS 0 0 0 0, uc Sm⟩ (List.mem_cons_self ..) rfl
               simp at hb
               subst hb
               replace aS : Av w7 g13 158 (uc Sm) := aS
               have b7 := hw7.nil
               have bw7 := bw6.trans (b7.mono bw6.size)
               replace aX := aX.b b7
               replace aH := aH.b b7
               replace aT := aT.b b7
               replace aR := aR.b b7
               replace rgG : Hid (∀ w', Below w7.heap.size w7 w' → _) := Hy (fun w' b' => rgG.out w' (b7.trans (b'.mono b7.size)))
               replace rA := rA.b b7
               replace a12 := a12.b b7
               clear hw7 hJ b7 hB bw6 rgW rgN
               simp only [List.set_cons_succ, List.set_cons_zero]
               go_upto_region 13 with fail
               refine bL 12 [] cI KR KR KR KR KR cI.refl cI.trans (by intro p hp; cases hp) ?_
               refine ZP (c := .agg (X.map bv).toArray) (fun w hw => aE (aX.b hw.drew) _ _ rfl rfl _ 32 l32.out SS rfl KR) ?_
               refine ZP (c := .agg (fC h).toArray) (fun w hw => aE (aH.b hw.drew) _ _ rfl rfl _ 68 h68.out Tb rfl KR) ?_
               refine ZM ?_
               refine ZP (fun w _ => by go_simp; first | done | rfl) ?_
               refine ZP (c := .slice (some ⟨b, off, none⟩) n c) (fun w hw => by have := (aT.b hw.drew).cell 0 _ rfl; go_simp; first | done | rfl) ?_
               refine ZM ?_
               refine ZP (fun w _ => by have := j0; have := j1; go_simp; first | done | rfl) ?_
               refine ZP (fun w _ => by go_simp; first | done | rfl) ?_
               refine ZP (c := .int .i64 (G : Int)) (fun w hw => by have := rgG.out _ hw.drew; go_simp; first | done | rfl) ?_
               refine ZP (c := .int .i64 ((G + 1 : Nat) : Int)) (fun w _ => by have := hGw.out; go_simp; first | done | rfl) ?_
               refine ZP (c := .agg (uc Sm).toArray) (fun w hw => aE (aS.b hw.drew) _ _ rfl rfl _ 4 rfl SV rfl KR) ?_
               refine ZP (c := .agg (gF nd).toArray) (fun w hw => dC (cs := gF nd) (ops := [(0, .tmp 72), (1, .tmp 73), (2, .tmp 74), (3, .tmp 81), (4, .tmp 82)]) rfl hbt2.out) ?_
               refine bO fun w8 hw8 => aF ?_
               have b8 := hw8.drew
               have bw8 := bw7.trans (b8.mono bw7.size)
               have aT8 := aT.b b8
               have aR8 := aR.b b8
               have a128 := a12.b b8
               clear hw8 b8 aT aR a12 rA bw7 aX aH aS rgG
               simp only [List.drop_succ_cons, List.drop_zero]
               ((with_reducible refine SF bw8 a128 g12w (gF nd) 106 ?_ ?_ ?_ (hn:=n106.out) (ho:=l106.out) (h1:=List.all_eq_true.2 none6.out));rfl;rfl;intro wq a12 bq k9 z9)
               have aT := aT8.same (k9 H OM)
               have aR := aR8.same (k9 (H + 2) OM)
               have rA := hr.b bq
               clear aT8 aR8 a128 bw8 k9 z9
               go_upto_region 14 with fail)
          have hmade : (wq.alloc (.cells #[] 161)).ownsRow wq.heap.size 161 106 (.slice (some ⟨wq.heap.size, 0, none⟩) 0 0) 0 [] := World.ownsRow_made wq #[] 0 LR (by simp [maxLen]) rfl
          have bm : Below wq.heap.size wq (wq.alloc (.cells #[] 161)) := (Below.refl _ _).alloc LR _
          have onl : ∀ u ∈ qF ns, u.oneCell' = true := fun u hu => by
            rw [qF, List.mem_flatMap] at hu
            obtain ⟨m, _, hu⟩ := hu
            exact kA m u hu
          have lnl : (qF ns).length = n * 106 := by rw [rH hnd.out, hn]
          have rm := rA.b bm
          replace lnl := Hy lnl
          have c0 := (aT.b bm).cell 0 _ rfl
          go_upto_region 15 with (at_builtin; refine bT underlying45 Fg Fh DC hmade zS (qF ns) n c rm lnl.out onl OM OM rfl (.tmp 84) (.tmp 86) rfl rfl rfl ?_; intro v2 w2 o2 gr2 ob2)
          have b2 := fK bm hmade gr2 zS
          rw [Nat.zero_add, List.nil_append] at o2
          have a2 := a12.b b2
          clear c0 rm onl lnl hmade bm gr2 ob2 a12
          go_upto_region 16 with (first
            | ((with_reducible refine LF a2 106 n106.out underlying161 ?_ ?_);rfl)
            | ((with_reducible refine dQ underlying45 Fg Fh DC DC (gF nd) n106.out rfl ?_))
            | (at_builtin; refine bT underlying45 Fg Fh DC (aJ o2 ((Below.refl w2.heap.size w2).alloc LR _)) (by have := b2.size; simp; omega) (gF nd) 1 1 (Av.rd (t := 161) (heap_alloc_new _ _)) (by rw [n106.out]) none6.out OM OM rfl (.tmp 88) (.tmp 90) rfl rfl rfl ?_; intro v3 w3 o3 gr3 ob3; obtain ⟨A2, c2, rfl, hc2, _⟩ := cM o3))
          have b3 := fK (b2.alloc b2.size (.cells (gF nd).toArray 161)) (aJ o2 ((Below.refl w2.heap.size w2).alloc LR _)) gr3 (by have := b2.size; simp; omega)
          have aT3 := aT.b b3
          have aR3 := aR.b b3
          have bw3 := bq.trans (b3.mono bq.size)
          have hHq := aR.lt
          have o3l := Hy (World.ownsRow.lt o3)
          clear aT aR b3 b2 bq o2 gr3 ob3 a2 rA
          refine eH 8 [] [(7, fun w' => Av w' (H + 2) 47 [.slice A2 (n + 1) c2, .int .i64 (most : Int)])] (RS (H + 2) 47 [.slice A2 (n + 1) c2, .int .i64 (most : Int)]) KR KR KR KR KR KR (fun w => RS.refl w) RS.trans (by intro p hp; cases hp) (by
            intro p hp w w' hR h
            simp only [List.mem_singleton] at hp
            subst hp
            exact hR.2.1 h) ?_
          refine rU (fun w => RS.refl w) rfl (vT (fun w => RS.refl w) rfl rfl rfl rfl _ (.inl rfl) (by conv => lhs; whnf) (by simp only [Zs]; rfl) (jC ?_))
          refine rU (fun w => RS.refl w) rfl (cT (fun w => RS.refl w) rfl rfl rfl rfl (fun w _ => by go_simp; first | done | rfl) (by simp only [Zs]; rfl) (jC ?_))
          refine rU (fun w => RS.refl w) rfl (cT (fun w => RS.refl w) rfl rfl rfl rfl (c := .int .i64 (most : Int)) (fun w hw => by have := (hw.1.av aT3.drew OM).cell 1 _ rfl; go_simp; first | done | rfl) (by simp only [Zs]; rfl) (jC ?_))
          refine rU (fun w => RS.refl w) rfl (cT (fun w => RS.refl w) rfl rfl rfl rfl (fun w _ => by go_simp; first | done | rfl) (by simp only [Zs]; rfl) (jC ?_))
          refine rU (fun w => RS.refl w) rfl (cT (fun w => RS.refl w) rfl rfl rfl rfl (fun w _ => by go_simp; first | done | rfl) (by simp only [Zs]; rfl) (jC ?_))
          refine rU (fun w => RS.refl w) rfl (cT (fun w => RS.refl w) rfl rfl rfl rfl (fun w hw => by have := (hw.1.av aT3.drew OM).cell 0 _ rfl; go_simp; first | done | rfl) (by simp only [Zs]; rfl) (jC ?_))
          refine rU (fun w => RS.refl w) rfl (cT (fun w => RS.refl w) rfl rfl rfl rfl (fun w _ => by go_simp; first | done | rfl) (by simp only [Zs]; rfl) (jC ?_))
          refine pJ rfl rfl (fun w hw => fY (C := [.slice A2 (n + 1) c2, .int .i64 (most : Int)]) aR3.drew rfl hw _ _ _ rfl rfl rfl 2 rfl KR rfl 7) ?_
          refine mG fun w4 hw4 hg => ?_
          simp only [List.drop_succ_cons, List.drop_zero]
          have a9 := hg (7, fun w' => Av w' (H + 2) 47 [.slice A2 (n + 1) c2, .int .i64 (most : Int)]) (List.mem_singleton.2 rfl)
          have f4 := Fr.ofDrew hw4.1
          have b9 := bw3.trans (f4.b (B := w.heap.size) (fun k hk => by omega) bw3.size)
          have r9 : Hid (Rd w4 A2 (qF ns ++ gF nd)) := Hy (fV (bU o3 f4 (fun k hk e => by have := (o3l.out k hk).1; omega)))
          clear o3 hw4 hg
          go_wp2
          refine bodyPost_ret ((cC (C := [.slice A2 (n + 1) c2, .int .i64 (most : Int)]) bM bM a9 _ Ta rfl 2 rfl KR).trans bM) bM ?_
          refine ⟨⟨A2, c2, by rw [hmB.out, List.length_append, List.length_singleton, hn]; rfl, by rw [hmB.out, List.length_append, List.length_singleton, hn]; exact hc2, ?_⟩, b9⟩
          rw [hmB.out, show qF (ns ++ [nd]) = qF ns ++ gF nd by simp [qF]]
          exact r9.out
end Go.Proofs.YtobjgebojhjhnaaGreatDoor
