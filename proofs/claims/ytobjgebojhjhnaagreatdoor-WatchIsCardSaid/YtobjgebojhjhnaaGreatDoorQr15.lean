import Derived.Test.YtobjgebojhjhnaaGreatDoorQr14
namespace Go.Proofs.YtobjgebojhjhnaaGreatDoor
set_option maxRecDepth 100000
set_option maxHeartbeats 16000000
theorem FU (N:Nat) (k:Int) (hk:k=N) (hN:N≤140737488355328):∃ cs:Array Value,cs.size=N∧ ∀ u:World,
  (Instr.makeSlice 27 (.int .i64 0) (.int .i64 k)).run Tryz.prog u= .ok (.slice (some ⟨u.heap.size,0,none⟩) 0 N) (u.alloc (.cells cs 5)):=by
 subst hk
 obtain⟨i0,hi,hz0,hz1,hz2⟩:=info_parts vS
 refine⟨madeCells #[.int .u8 0] N,by simp[size_madeCells],fun u=>?_⟩
 have h:=run_make (P:=Tryz.prog) u 27 5 i0 (.int .u8 0) Tc hi hz0 .i64 .i64 (0:Int) (N:Int) OM OM (by rw[hz2];omega) OM
 rw[Int.toNat_natCast] at h
 simpa [hz1,Value.cells] using h
open Go.RowKit Tryz
attribute [local go_sem high] eO gO gP iV
theorem OH (h : List fH) (hh : h.length = 8) (rs : List UInt8) (A : Option Addr) (n c : Nat) (hn : rs.length = n) (hn0 : 0 < n) (hn6 : n < 64) (_ : n ≤ c) (N : Int) (h0 : 0 ≤ N) (h1 : N < 18446744073709551616) (h64 : N % 64 = n)
    (bs : List UInt8) (B : Option Addr) (m cb : Nat) (hm : bs.length = m) (hc : m ≤ cb) (hnm : 64 ≤ n + m) (w : World) (hq : Rd w A (rs.map bv)) (hr : Rd w B (bs.map bv)) (ht : fW w) :
    Calls prog 116 #[.agg (fU h A n c N).toArray, .slice B m cb] w fun e w' =>
      ∃ A' c', e = .returned (.agg (fU (dW ((n + m) / 64) h (rs ++ bs)) A' ((n + m) % 64) c' (IntKind.u64.wrap (N + IntKind.u64.wrap (m : Int)))).toArray) ∧ (n + m) % 64 ≤ c' ∧ Rd w' A' (((rs ++ bs).drop (64 * ((n + m) / 64))).map bv) ∧ Below w.heap.size w w' := by
  have hs := OE h hh A n c N h0 h1 OM true (by simp [h64])
  obtain ⟨v0, v1, v2, v3, v4, v5, v6, v7, rfl⟩ := uQ hh
  clear hh
  obtain ⟨zs, hzs⟩ : ∃ zs : List Value, zs = fU (List.replicate 8 0) none 0 0 0 := ⟨_, rfl⟩
  have hz : #[Value.int IntKind.u32 0, Value.int IntKind.u32 0, Value.int IntKind.u32 0, Value.int IntKind.u32 0, Value.int IntKind.u32 0, Value.int IntKind.u32 0, Value.int IntKind.u32 0, Value.int IntKind.u32 0, Value.slice none 0 0, Value.int IntKind.u64 0] = zs.toArray := by
    rw [hzs, fU, List.map_replicate, wc, mI]; rfl
  have hzl : zs.length = 10 := by rw [hzs]; rfl
  clear hzs
  obtain ⟨ss, hss⟩ : ∃ ss : List Value, ss = fU [v0, v1, v2, v3, v4, v5, v6, v7] A n c N := ⟨_, rfl⟩
  rw [← hss] at hs ⊢
  have hsl : ss.length = 10 := by rw [hss]; rfl
  replace hss := Hy hss
  replace hzl := Hy hzl
  replace hsl := Hy hsl
  obtain ⟨mk, hmks, hmk⟩ := FU 64 64 rfl OM
  replace hmks := Hy hmks
  go_enter func116, ntmps116
  have hb0 : Below w.heap.size w ((w.alloc (.cells ss.toArray 234)).alloc (.cells zs.toArray 234)) := ((Below.refl _ _).alloc LR _).alloc zS _
  have ha2 : Av ((w.alloc (.cells ss.toArray 234)).alloc (.cells zs.toArray 234)) w.heap.size 234 ss := heap_alloc2_old _ _ _
  have ha4 : Av ((w.alloc (.cells ss.toArray 234)).alloc (.cells zs.toArray 234)) (w.heap.size + 1) 234 zs := heap_alloc2_new _ _ _
  go_wp2_with (refine cZ ha2 rfl _ _ rfl rfl _ 10 hsl.out Tm rfl KR ?_)
  generalize (w.alloc (.cells ss.toArray 234)).alloc (.cells zs.toArray 234) = w0 at *
  refine (hs w0).mono ?_
  rintro e w1 ⟨rfl, b1⟩
  replace ha2 := ha2.b b1
  replace ha4 := ha4.b b1
  replace b1 := hb0.trans (b1.mono hb0.size)
  clear hb0 hs hz
  have ht1 := ht.b b1
  have q4 := Hy ha4.lt
  obtain ⟨d, hd⟩ : ∃ d : Nat, d + n = 64 := ⟨64 - n, by omega⟩
  have t0 : decide ((0 : Int) < (n : Int)) = true := by simp; omega
  have t2 : IntKind.i64.wrap (64 - (n : Int)) = (d : Int) := by rw [show (64 : Int) - n = (d : Int) by omega]; rw [IntKind.wrap_i64]; omega
  have t3 : min (d : Int) (m : Int) = (d : Int) := by omega
  have t4 : (0 : Int) ≤ (d : Int) := by omega
  have t5 : (d : Int) ≤ (cb : Int) := by omega
  have t6 : (d : Int) ≤ (m : Int) := by omega
  obtain ⟨N2, hN2⟩ : ∃ n : Int, IntKind.u64.wrap (N + IntKind.u64.wrap (m : Int)) = n := ⟨_, rfl⟩
  have hn' := Hy hn
  have hm' := Hy hm
  have hdt : (bs.take d).length = d := by rw [List.length_take, hm]; omega
  have hdt' := Hy hdt
  clear hn hm hdt
  have hle : ([] : List UInt8).length + n ≤ 140737488355328 := by simp; omega
  have hle2 : rs.length + d ≤ 140737488355328 := by rw [hn'.out]; omega
  have c8 : w1.cell? ⟨w.heap.size, 8, none⟩ = some (.slice A n c) := ha2.cell 8 _ (by rw [hss.out]; rfl)
  have c9 : w1.cell? ⟨w.heap.size, 9, none⟩ = some (.int .u64 N) := ha2.cell 9 _ (by rw [hss.out]; rfl)
  have r2 : w1.rangeAt w.heap.size 0 [wc v0, wc v1, wc v2, wc v3, wc v4, wc v5, wc v6, wc v7] := Av.rangeAt (pre := []) (rest := [.slice A n c, .int .u64 N]) (by rw [hss.out] at ha2; exact ha2) 0 rfl
  go_wp2_with (first
    | refine wpList_load_mid rfl _ _ rfl _ _ rfl _ _ r2 Te rfl KR ?_
    | (refine aP (b1.alloc b1.size _) (heap_alloc_new _ _) b1.size rfl _ _ _ rfl rfl (fU [v0, v1, v2, v3, v4, v5, v6, v7] none 0 0 N2) rfl 10 rfl KR rfl rfl ?_
       intro w2 a5 b2 k2 z2
       replace ha2 := (ha2.alloc _).same (k2 _ (Nat.ne_of_lt ha2.lt))
       have d8 : w2.cell? ⟨w.heap.size, 8, none⟩ = some (.slice A n c) := ha2.cell 8 _ (by rw [hss.out]; rfl)
       replace ha4 := (ha4.alloc _).same (k2 _ (Nat.ne_of_lt ha4.lt))
       clear k2 z2 c8 c9 r2
       have hmade := cE.made w2 w2.heap.size LR mk 64 (by simp only [maxLen]; omega) hmks.out
       have hbm := (Below.refl w2.heap.size w2).alloc LR (.cells mk 5)
       have e8 := (ha2.alloc (.cells mk 5)).cell 8 (.slice A n c) (by rw [hss.out]; rfl)
       have hrm := (hq.b b2).b hbm)
    | (at_builtin
       refine aQ hmade hbm hbm.size n c hrm hn'.out hle rfl (.tmp 33) (.tmp 35) rfl rfl rfl ?_
       intro y3 w3 hown hb3 hz3 hg3
       rw [List.nil_append] at hown
       clear hmade hbm hrm
       have hsm := (hr.b b2).b hb3)
    | (at_builtin
       refine aQ hown hb3 hb3.size d cb (by rw [List.map_take]; exact hsm.take d) hdt'.out hle2 rfl (.tmp 37) (.tmp 40) rfl rfl rfl ?_
       intro v4 w4 hown4 hb4 hz4 hg4
       obtain ⟨A4, c4, rfl, hc4, _⟩ := hown4.formN 64 (by rw [List.length_append, hn'.out, hdt'.out]; omega)
       have hb4' := hb4
       clear hown hb3 hsm hg3
       replace hb4 := b2.trans (hb4.mono b2.size)
       replace a5 := a5.same (hb4'.block _ a5.lt)
       replace ha4 := ha4.same (hb4'.block _ ha4.lt)
       have r5 : w4.rangeAt w1.heap.size 0 [wc v0, wc v1, wc v2, wc v3, wc v4, wc v5, wc v6, wc v7] := Av.rangeAt (pre := []) (rest := [.slice none 0 0, .int .u64 N2]) a5 0 rfl)
    | refine wpList_load_mid rfl _ _ rfl _ _ rfl _ _ r5 Te rfl KR ?_)
  clear r5 e8 d8 ha2
  have HB := Ji [v0, v1, v2, v3, v4, v5, v6, v7] rfl (rs ++ bs.take d) A4 c4 (by rw [List.length_append, hn'.out, hdt'.out]; omega) w4 hown4.rd (ht.b hb4)
  obtain ⟨hv, hhv⟩ := Nm (jL [v0, v1, v2, v3, v4, v5, v6, v7] (rs ++ bs.take d))
  have hvl : hv.length = 8 := by rw [hhv]; exact iP _ _ rfl
  rw [← hhv] at HB
  replace hhv := Hy hhv
  replace HB := Hy HB
  go_wp2_with fail
  refine HB.out.mono ?_
  rintro e w5 ⟨rfl, b5⟩
  replace a5 := a5.b b5
  replace ha4 := ha4.b b5
  replace hb4 := hb4.trans (b5.mono hb4.size)
  clear HB hown4
  have hth := a5.there 0 8 zS
  have n4 : w.heap.size + 1 ≠ w1.heap.size := by have := q4.out; omega
  have hg : w.heap.size ≤ w1.heap.size := by have := q4.out; omega
  have a5' : Av (w5.setCells w1.heap.size 0 (jD hv).toList) w1.heap.size 234 (fU hv none 0 0 N2) :=
    Av.setCells (jD hv).toList [] ([v0, v1, v2, v3, v4, v5, v6, v7].map wc) [.slice none 0 0, .int .u64 N2] 0 _ a5 rfl (by simp [jD, hvl])
  have b6 := eD (jD hv).toList w5 w1.heap.size 0 hb4 hg
  have a4' := ha4.same (jF (jD hv).toList _ _ 0 _ n4)
  replace n4 := Hy n4
  replace hvl := Hy hvl
  obtain ⟨m2, hm2⟩ : ∃ m2, m - d = m2 := ⟨_, rfl⟩
  obtain ⟨bs2, hbs2⟩ := Nm (bs.drop d)
  have hml : bs2.length = m2 := by rw [hbs2, List.length_drop, hm'.out, hm2]
  have hr2 : Rd w (yQ B cb d 1) (bs2.map bv) := by
    have := hr.sub cb d 1 (by simp [hm'.out]; omega)
    rw [Nat.mul_one, ← List.map_drop, ← hbs2] at this
    exact this
  replace hml := Hy hml
  replace hbs2 := Hy hbs2
  obtain ⟨cb2, hcb2⟩ : ∃ m2, cb - d = m2 := ⟨_, rfl⟩
  obtain ⟨B2, hB2⟩ : ∃ B2, yQ B cb d 1 = B2 := ⟨_, rfl⟩
  rw [hB2] at hr2
  have hc2 : m2 ≤ cb2 := by omega
  go_wp2_with (refine wpList_store_mid rfl _ _ _ rfl _ _ _ rfl rfl (by rw [eI, hvl.out]; exact hth) (by rw [eI, hvl.out]; kernel_rfl) (by simp [jD, Value.oneCell']) ?_)
  generalize w5.setCells w1.heap.size 0 (jD hv).toList = w6 at *
  go_loopw [1] (fun b wr => ∃ (k : Nat) (A' : Option Addr) (c' : Nat), 64 * k ≤ m2 ∧ b = .slice A' (m2 - 64 * k) c' ∧ m2 - 64 * k ≤ c' ∧ Rd w A' ((bs2.drop (64 * k)).map bv) ∧ Below w.heap.size w wr ∧ Av wr w1.heap.size 234 (fU (dW k hv bs2) none 0 0 N2) ∧ Av wr (w.heap.size + 1) 234 zs) (fun b _ => lH b)
  case atStart => exact ⟨0, B2, cb2, by omega, rfl, hc2, by simpa using hr2, b6, a5', a4'⟩
  case round =>
    clear a5 ha4 a5' a4' b6 hr2 hb4 b5 hth hb4' hg4 hz4 hz3 hcb2 hB2 hmk
    have hvl := hvl.out
    obtain ⟨k, A', c', hk, rfl, hc', hr', hb, a5, a4⟩ := hrel
    by_cases hk64 : 64 ≤ m2 - 64 * k
    · have t1 : decide ((64 : Int) ≤ ((m2 - 64 * k : Nat) : Int)) = true := by simp; omega
      obtain ⟨hk', hhk⟩ : ∃ l, l = dW k hv bs2 := ⟨_, rfl⟩
      have hkl : hk'.length = 8 := by rw [hhk, bQ _ _ _ hvl]
      rw [← hhk] at a5
      replace hhk := Hy hhk
      obtain ⟨u0, u1, u2, u3, u4', u5, u6', u7', rfl⟩ := uQ hkl
      have c0 : wr.cell? ⟨w1.heap.size, 0, none⟩ = some (wc u0) := a5.cell 0 _ rfl
      have c1 : wr.cell? ⟨w1.heap.size, 1, none⟩ = some (wc u1) := a5.cell 1 _ rfl
      have c2 : wr.cell? ⟨w1.heap.size, 2, none⟩ = some (wc u2) := a5.cell 2 _ rfl
      have c3 : wr.cell? ⟨w1.heap.size, 3, none⟩ = some (wc u3) := a5.cell 3 _ rfl
      have c4 : wr.cell? ⟨w1.heap.size, 4, none⟩ = some (wc u4') := a5.cell 4 _ rfl
      have c5 : wr.cell? ⟨w1.heap.size, 5, none⟩ = some (wc u5) := a5.cell 5 _ rfl
      have c6 : wr.cell? ⟨w1.heap.size, 6, none⟩ = some (wc u6') := a5.cell 6 _ rfl
      have c7 : wr.cell? ⟨w1.heap.size, 7, none⟩ = some (wc u7') := a5.cell 7 _ rfl
      have s1 : (0 : Int) ≤ 64 := by decide
      have s2 : (64 : Int) ≤ (c' : Int) := by omega
      go_wp2
      go_still_tail 4, (by kernel_rfl)
      change wpList _ _ _ _ _ (World.drew _)
      clear c0 c1 c2 c3 c4 c5 c6 c7
      have hr64 : Rd wr.drew A' ((((bs2.drop (64 * k)).take 64)).map bv) := by rw [List.map_take]; exact (Rd.take hr' 64).b hb.drew
      replace hb := hb.drew
      replace a5 := a5.drew
      replace a4 := a4.drew
      generalize World.drew wr = wd at *
      have HB := Ji [u0, u1, u2, u3, u4', u5, u6', u7'] rfl ((bs2.drop (64 * k)).take 64) A' c' (by have := hml.out; simp; omega) wd hr64 (ht.b hb)
      obtain ⟨hx, hhx⟩ := Nm (jL [u0, u1, u2, u3, u4', u5, u6', u7'] ((bs2.drop (64 * k)).take 64))
      have hxl : hx.length = 8 := by rw [hhx]; exact iP _ _ rfl
      rw [← hhx] at HB
      replace hhx := Hy hhx
      replace hxl := Hy hxl
      replace HB := Hy HB
      go_wp2_with fail
      refine HB.out.mono ?_
      rintro e w4 ⟨rfl, b4⟩
      replace a5 := a5.b b4
      replace a4 := a4.b b4
      replace hb := hb.trans (b4.mono hb.size)
      clear HB hr64
      have hth := a5.there 0 8 zS
      go_wp2_with (refine wpList_store_mid rfl _ _ _ rfl _ _ _ rfl rfl (by rw [eI, hxl.out]; exact hth) (by rw [eI, hxl.out]; kernel_rfl) (by simp [jD, Value.oneCell']) ?_)
      have n4 := n4.out
      have a5' : Av (w4.setCells w1.heap.size 0 (jD hx).toList) w1.heap.size 234 (fU hx none 0 0 N2) :=
        Av.setCells (jD hx).toList [] ([u0, u1, u2, u3, u4', u5, u6', u7'].map wc) [.slice none 0 0, .int .u64 N2] 0 _ a5 rfl (by simp [jD, hxl.out])
      have hb' := eD (jD hx).toList w4 w1.heap.size 0 hb hg
      refine ⟨⟨k + 1, _, _, by omega, by rw [show m2 - 64 * (k + 1) = m2 - 64 * k - 64 by omega], by omega, ?_, hb', ?_, a4.same (jF _ _ _ _ _ n4)⟩, ?_⟩
      · have := Rd.sub64 hr' c' (by have := hml.out; simp; omega)
        rw [← List.map_drop, List.drop_drop] at this
        rw [show 64 * (k + 1) = 64 * k + 64 by omega]
        exact this
      · rw [qM, ← hhk.out, ← hhx.out]; exact a5'
      · simp only [lH]; omega
    · have t1 : decide ((64 : Int) ≤ ((m2 - 64 * k : Nat) : Int)) = false := by simp; omega
      obtain ⟨hx, hhx⟩ := Nm (dW k hv bs2)
      rw [← hhx] at a5
      replace hhx := Hy hhx
      have hmade := cE.made wr wr.heap.size LR #[] 0 (by simp only [maxLen]; omega) rfl
      have hbm := (Below.refl wr.heap.size wr).alloc LR (.cells #[] 5)
      have hrm := (hr'.b hb).b hbm
      have jM : (bs2.drop (64 * k)).length = m2 - 64 * k := by rw [List.length_drop, hml.out]
      have hle : ([] : List UInt8).length + (m2 - 64 * k) ≤ 140737488355328 := by simp; omega
      replace hr' := Hy hr'
      have hxl : (fU hx none 0 0 N2).length = 10 := by rw [hhx.out]; simp [fU, bQ _ _ _ hvl]
      have hx8 : (fU hx none 0 0 N2)[8]? = some (.slice none 0 0) := by rw [fU, List.getElem?_append_right (by simp [hhx.out, bQ _ _ _ hvl])]; simp [hhx.out, bQ _ _ _ hvl]
      have hset : ∀ v, (fU hx none 0 0 N2).set 8 v = hx.map wc ++ [v, .int .u64 N2] := fun v => by rw [fU, List.set_append_right _ _ (by simp [hhx.out, bQ _ _ _ hvl])]; simp [hhx.out, bQ _ _ _ hvl]
      have hl8 : ∀ v : Value, (hx.map wc ++ [v, .int .u64 N2]).length = 10 := fun v => by simp [hhx.out, bQ _ _ _ hvl]
      have ho8 : ∀ (a : Option Addr) (n c : Nat), (hx.map wc ++ [Value.slice a n c, Value.int .u64 N2]).all (·.oneCell') = true := fun a n c => by simp [Value.oneCell']
      replace hl8 := Hy hl8
      replace ho8 := Hy ho8
      have n4 := n4.out
      replace hxl := Hy hxl
      replace hx8 := Hy hx8
      replace hset := Hy hset
      go_wp2_with (first
        | (at_builtin
           refine aQ hmade hbm hbm.size (m2 - 64 * k) c' hrm jM hle rfl (.tmp 67) (.tmp 68) rfl rfl rfl ?_
           intro v5 w5 hown hb5 hz5 hgr
           obtain ⟨A2, c2, rfl, hc2, _⟩ := hown.formN (m2 - 64 * k) (by simpa using jM)
           have a6 : Av w5 w1.heap.size 234 (fU hx none 0 0 N2) := (a5.alloc (.cells #[] 5)).same (hgr.block _ (by have := a5.lt; simp; omega) (by have := a5.lt; simp [Value.ownBlock]; omega))
           have a7 : Av w5 (w.heap.size + 1) 234 zs := (a4.alloc (.cells #[] 5)).same (hgr.block _ (by have := a4.lt; simp; omega) (by have := a4.lt; simp [Value.ownBlock]; omega))
           have e8 : w5.cell? ⟨w1.heap.size, 8, none⟩ = some (.slice none 0 0) := a6.cell 8 _ hx8.out
           have hfz : w5.frozen? ⟨w1.heap.size, 8, none⟩ = false := frozen_of_row _ _ _ _ _ a6
           replace hb5 := hb.trans (hb5.mono hb.size)
           have a8 := a6.set 8 (.slice A2 (m2 - 64 * k) c2)
           rw [hset.out] at a8
           clear hrm hmade hbm)
        | refine cZ a8 rfl _ _ rfl rfl _ 10 (hl8.out _) Tm rfl KR ?_
        | (refine aP (hb5.setCell (p := ⟨w1.heap.size, 8, none⟩) hg (.slice A2 (m2 - 64 * k) c2)) (a7.other ⟨w1.heap.size, 8, none⟩ (.slice A2 (m2 - 64 * k) c2) n4) OM rfl _ _ _ rfl rfl _ rfl 10 (hl8.out _) KR (by rw [List.size_toArray, hzl.out]) (ho8.out _ _ _) ?_
           intro w6 a9 b6 k6 z6))
      have hlt := a5.lt
      have hlt4 := a4.lt
      have hr5 : Rd w6 A2 ((bs2.drop (64 * k)).map bv) := by
        have h5 : Rd w5 A2 _ := hown.rd
        rw [List.nil_append] at h5
        rcases h5 with h5 | ⟨b, off, rfl, h5⟩
        · exact .inl h5
        · have hbk := (hown.lt b rfl).1
          refine .inr ⟨b, off, rfl, fun j u hu => ?_⟩
          rw [World.cell?_of_block (w := w5) (by rw [k6 _ (by simp only; omega), heap_setCell_other _ _ _ _ (by simp only; omega)])]
          exact h5 j u hu
      have hk1 : (n + m) / 64 = k + 1 := by omega
      have hk2 : (n + m) % 64 = m2 - 64 * k := by omega
      have hdd : (rs ++ bs).drop (64 * (k + 1)) = bs2.drop (64 * k) := by
        rw [hbs2.out, List.drop_drop, List.drop_append, List.drop_of_length_le (by rw [hn'.out]; omega), List.nil_append, hn'.out]
        congr 1; omega
      have hff : dW (k + 1) [v0, v1, v2, v3, v4, v5, v6, v7] (rs ++ bs) = hx := by
        rw [hhx.out, dW, hhv.out, hbs2.out, List.take_append, List.take_of_length_le (by rw [hn'.out]; omega), List.drop_append, List.drop_of_length_le (by rw [hn'.out]; omega), List.nil_append, hn'.out, show 64 - n = d by omega]
      refine bodyPost_ret (results_cell_row rfl _ _ (w.heap.size + 1) _ _ (0, 0) _ rfl a9 Tm rfl (by rw [List.size_toArray, hl8.out]; kernel_rfl)) rfl ⟨A2, c2, ?_, by omega, by rw [hk1, hdd]; exact hr5, b6⟩
      rw [hk1, hk2, hff, hN2]
end Go.Proofs.YtobjgebojhjhnaaGreatDoor
namespace Go.Proofs.YtobjgebojhjhnaaGreatDoor
set_option maxRecDepth 100000
set_option maxHeartbeats 16000000
open Go.RowKit Tryz
attribute [local go_sem high] gJ Em Bp
theorem sE (x:fH) (k:Nat) (m:Int) (hm:m=k) (hk:0<k) (hk2:k<32) (w:World):
  Calls prog 147 #[.int .u32 (wn x),.int .u64 m] w fun e w'=>e= .returned (.int .u32 (wn (sP x k)))∧w'=w:=by
 obtain rfl:=hm
 have e0:(0:Int)≤k:=by omega
 have e1:IntKind.u64.wrap (32 - (k:Int))=((32 - k:Nat):Int):=by rw[IntKind.wrap_u64];omega
 have e2:min ((k:Int)).toNat IntKind.u32.bits=k:=by simp only[IntKind.bits];omega
 have e3:min (((32 - k:Nat):Int)).toNat IntKind.u32.bits=32 - k:=by simp only[IntKind.bits];omega
 have e4:(0:Int)≤((32 - k:Nat):Int):=by omega
 have e5:sP x k=x >>> k |||x<<<(32 - k):=by rw[sP,BitVec.or_comm]
 rw[e5]
 go_enter func147,ntmps147
 go_wp2
 go_ret
 exact⟨rfl,rfl⟩
end Go.Proofs.YtobjgebojhjhnaaGreatDoor
namespace Go.Proofs.YtobjgebojhjhnaaGreatDoor
set_option maxRecDepth 100000
set_option maxHeartbeats 16000000
open Go.RowKit Tryz
attribute [local go_sem high] jU gJ lE lF
attribute [local go_sem high] OD Jh
def qU:List fH:=(List.range 64).map IA
theorem xO:qU.length=64:=rfl
theorem Hq (k:Nat) (hk:k<64):qU.getD k 0=IA k:=by
 rw[qU,List.getD_eq_getElem?_getD,List.getElem?_map,List.getElem?_range hk];rfl
theorem MI:∀ i,i<64→wO.getD i 0<4294967296:=by decide+kernel
theorem EP (w : World) : Calls prog 146 #[] w fun e w' => e = .returned (.agg (jD qU)) ∧ Below w.heap.size w w' := by
  have hk : ∀ i, i < 64 → wn (IA i) = ((wO.getD i 0 : Nat) : Int) := fun i hi => by
    rw [IA, mW]
    exact MI i hi
  have hz : (wO.map fun x : Nat => Value.int .u32 (x : Int)).toArray = jD qU := by
    rw [jD, qU, List.map_map]
    congr 1
    apply List.ext_getElem? 
    intro i
    by_cases hi : i < 64
    · rw [List.getElem?_map, List.getElem?_map, List.getElem?_range hi]
      have := hk i hi
      rw [List.getD_eq_getElem?_getD] at this
      have hl : i < wO.length := hi
      rw [List.getElem?_eq_getElem hl] at this ⊢
      simp only [Option.map_some, Function.comp, Option.getD_some] at this ⊢
      rw [wc, this]
    · rw [List.getElem?_eq_none (by rw [List.length_map]; exact Nat.le_of_not_lt hi), List.getElem?_eq_none (by rw [List.length_map, List.length_range]; exact Nat.le_of_not_lt hi)]
  have hkl := xO
  obtain ⟨ks, hks⟩ := Nm (qU)
  rw [← hks] at hz hkl ⊢
  clear hks hk
  replace hz : #[Value.int .u32 1116352408, Value.int .u32 1899447441, Value.int .u32 3049323471, Value.int .u32 3921009573, Value.int .u32 961987163, Value.int .u32 1508970993, Value.int .u32 2453635748, Value.int .u32 2870763221, Value.int .u32 3624381080, Value.int .u32 310598401, Value.int .u32 607225278, Value.int .u32 1426881987, Value.int .u32 1925078388, Value.int .u32 2162078206, Value.int .u32 2614888103, Value.int .u32 3248222580, Value.int .u32 3835390401, Value.int .u32 4022224774, Value.int .u32 264347078, Value.int .u32 604807628, Value.int .u32 770255983, Value.int .u32 1249150122, Value.int .u32 1555081692, Value.int .u32 1996064986, Value.int .u32 2554220882, Value.int .u32 2821834349, Value.int .u32 2952996808, Value.int .u32 3210313671, Value.int .u32 3336571891, Value.int .u32 3584528711, Value.int .u32 113926993, Value.int .u32 338241895, Value.int .u32 666307205, Value.int .u32 773529912, Value.int .u32 1294757372, Value.int .u32 1396182291, Value.int .u32 1695183700, Value.int .u32 1986661051, Value.int .u32 2177026350, Value.int .u32 2456956037, Value.int .u32 2730485921, Value.int .u32 2820302411, Value.int .u32 3259730800, Value.int .u32 3345764771, Value.int .u32 3516065817, Value.int .u32 3600352804, Value.int .u32 4094571909, Value.int .u32 275423344, Value.int .u32 430227734, Value.int .u32 506948616, Value.int .u32 659060556, Value.int .u32 883997877, Value.int .u32 958139571, Value.int .u32 1322822218, Value.int .u32 1537002063, Value.int .u32 1747873779, Value.int .u32 1955562222, Value.int .u32 2024104815, Value.int .u32 2227730452, Value.int .u32 2361852424, Value.int .u32 2428436474, Value.int .u32 2756734187, Value.int .u32 3204031479, Value.int .u32 3329325298] = jD ks := (show #[Value.int .u32 1116352408, Value.int .u32 1899447441, Value.int .u32 3049323471, Value.int .u32 3921009573, Value.int .u32 961987163, Value.int .u32 1508970993, Value.int .u32 2453635748, Value.int .u32 2870763221, Value.int .u32 3624381080, Value.int .u32 310598401, Value.int .u32 607225278, Value.int .u32 1426881987, Value.int .u32 1925078388, Value.int .u32 2162078206, Value.int .u32 2614888103, Value.int .u32 3248222580, Value.int .u32 3835390401, Value.int .u32 4022224774, Value.int .u32 264347078, Value.int .u32 604807628, Value.int .u32 770255983, Value.int .u32 1249150122, Value.int .u32 1555081692, Value.int .u32 1996064986, Value.int .u32 2554220882, Value.int .u32 2821834349, Value.int .u32 2952996808, Value.int .u32 3210313671, Value.int .u32 3336571891, Value.int .u32 3584528711, Value.int .u32 113926993, Value.int .u32 338241895, Value.int .u32 666307205, Value.int .u32 773529912, Value.int .u32 1294757372, Value.int .u32 1396182291, Value.int .u32 1695183700, Value.int .u32 1986661051, Value.int .u32 2177026350, Value.int .u32 2456956037, Value.int .u32 2730485921, Value.int .u32 2820302411, Value.int .u32 3259730800, Value.int .u32 3345764771, Value.int .u32 3516065817, Value.int .u32 3600352804, Value.int .u32 4094571909, Value.int .u32 275423344, Value.int .u32 430227734, Value.int .u32 506948616, Value.int .u32 659060556, Value.int .u32 883997877, Value.int .u32 958139571, Value.int .u32 1322822218, Value.int .u32 1537002063, Value.int .u32 1747873779, Value.int .u32 1955562222, Value.int .u32 2024104815, Value.int .u32 2227730452, Value.int .u32 2361852424, Value.int .u32 2428436474, Value.int .u32 2756734187, Value.int .u32 3204031479, Value.int .u32 3329325298] = (wO.map fun x : Nat => Value.int .u32 (x : Int)).toArray by kernel_rfl).trans hz
  replace hkl := Hy hkl
  go_enter func146, ntmps146
  go_wp2_with (first
    | (refine cP ((Below.refl w.heap.size w).alloc LR _) (heap_alloc_new _ _) LR rfl _ _ _ rfl rfl ks (by first | exact congrArg Value.agg hz | rfl) 64 hkl.out KR rfl ?_
       intro w2 a2 b2 k2 z2))
  exact bodyPost_ret (v := .agg (jD ks)) (results_cell_row rfl _ _ w.heap.size _ _ (0, 0) _ rfl a2 Tz rfl (by rw [eI, hkl.out]; kernel_rfl)) rfl ⟨rfl, b2⟩
end Go.Proofs.YtobjgebojhjhnaaGreatDoor
namespace Go.Proofs.YtobjgebojhjhnaaGreatDoor
set_option maxRecDepth 100000
set_option maxHeartbeats 16000000
open Go.RowKit Tryz
attribute [local go_sem high] OD Jh jU gJ lE lF
theorem Pd (bs:List UInt8) (A:Option Addr) (c:Nat) (hl:bs.length=64) (w:World) (hr:Rd w A (bs.map bv)):
  Calls prog 145 #[.slice A 64 c] w fun e w'=>e= .returned (.agg (jD (NL bs)))∧Below w.heap.size w w':=by
 obtain⟨blk,off,rfl,hbc⟩:∃ b off,A=some ⟨b,off,none⟩∧ ∀ j u,(bs.map bv)[j]? =some u→w.cell? ⟨b,off+j,none⟩=some u:=by
  rcases hr with h|h
  ·simp at h;subst h;simp at hl
  ·exact h
 have Hbc:=Hy hbc
 clear hbc hr
 go_enter func145,ntmps145
 go_wp2
 go_loopw [4] (fun i wr=>∃ k:Nat,k≤16∧i= .int .i64 k∧Below w.heap.size w wr∧Ar wr (w.heap.size+1) 253 (nL bs k)∧Ar wr w.heap.size 253 (List.replicate 64 0)) (fun i _=>16 - (intOf i).toNat)
 case atStart=>
  exact Xc153
 case round=>
  obtain⟨k,hk,rfl,hb,ha,hr0⟩:=hrel
  by_cases hk16:k<16
  ·exact Xc22
  ·obtain rfl:k=16:=by omega
   clear hk16 hk Hbc
   go_wp2
   obtain⟨w1,rfl⟩:=Nm (wr)
   have hl1:(nL bs 16).length=64:=mJ _ _
   obtain⟨l1,hL1⟩:=Nm (nL bs 16)
   rw[← hL1] at ha hl1
   replace hL1:=Hy hL1
   go_loopw [5] (fun i wr=>∃ k:Nat,k≤48∧i= .int .i64 (16+(k:Int))∧Below w.heap.size w wr∧Ar wr (w.heap.size+1) 253 (oN l1 k)∧Ar wr w.heap.size 253 (List.replicate 64 0)) (fun i _=>64 - (intOf i).toNat)
   case atStart=>exact⟨0,by omega,rfl,hb,ha,hr0⟩
   case round=>
    obtain⟨k,hk,rfl,hb,ha,hr0⟩:=hrel
    by_cases hk48:k<48
    ·refine Xm36 ?_;intro hl2 a0 x0 p0 q0 c0 a1 x1 p1 q1 c1 a2 x2 p2 q2 c2 a3 x3 p3 q3 c3 e0 e1 e2 e3 hk0 hk1 hce hfz Hx
     have T0:=sE x2 7 7 rfl DC DC
     have T1:=sE x2 18 18 rfl DC DC
     have T2:=sE x0 17 17 rfl DC DC
     have T3:=sE x0 19 19 rfl DC DC
     exact Xc60
    ·exact Xc51
end Go.Proofs.YtobjgebojhjhnaaGreatDoor
namespace Go.Proofs.YtobjgebojhjhnaaGreatDoor
set_option maxRecDepth 100000
set_option maxHeartbeats 16000000
open Go.RowKit Tryz
attribute [local go_sem high] jU gJ lE lF wQ
structure Hr (w wr:World) (g5 gk g6:Nat) (h zs ws ks v:List fH):Prop where
 b:Below w.heap.size w wr
 a1:Ar wr w.heap.size 232 h
 a2:Ar wr (w.heap.size+1) 232 zs
 a5:Ar wr g5 253 ws
 ak:Ar wr gk 253 ks
 a6:Ar wr g6 232 v
 n1:w.heap.size≠g6
 n2:w.heap.size+1≠g6
 n5:g5≠g6
 nk:gk≠g6
 le:w.heap.size≤g6
theorem Hr.drew {w wr:World} {g5 gk g6:Nat} {h zs ws ks v:List fH} (B:Hr w wr g5 gk g6 h zs ws ks v):Hr w wr.drew g5 gk g6 h zs ws ks v:=
 ⟨B.b.drew,B.a1,B.a2,B.a5,B.ak,B.a6,B.n1,B.n2,B.n5,B.nk,B.le⟩
theorem Pe (hin : List fH) (hh : hin.length = 8) (bs : List UInt8) (A : Option Addr) (c : Nat) (hl : bs.length = 64) (w : World) (hr : Rd w A (bs.map bv)) :
    Calls prog 140 #[.agg (jD hin), .slice A 64 c] w fun e w' => e = .returned (.agg (jD (jL hin bs))) ∧ Below w.heap.size w w' := by
  go_enter func140, ntmps140
  obtain ⟨ws, hws⟩ := Nm (NL bs)
  have hwl : ws.length = 64 := by rw [hws, wP]
  have W := Pd bs A c hl
  rw [← hws] at W
  replace hws := Hy hws
  obtain ⟨ks, hks⟩ := Nm (qU)
  have hkl : ks.length = 64 := by rw [hks, xO]
  have hka : ∀ k, k < 64 → ks.getD k 0 = IA k := fun k hk => by rw [hks]; exact Hq k hk
  have K := EP
  rw [← hks] at K
  clear hks
  obtain ⟨zs, hzs⟩ : ∃ zs : List fH, zs = List.replicate 8 0 := ⟨_, rfl⟩
  have hzl : zs.length = 8 := by rw [hzs]; rfl
  have hz : #[Value.int IntKind.u32 0, Value.int IntKind.u32 0, Value.int IntKind.u32 0, Value.int IntKind.u32 0, Value.int IntKind.u32 0, Value.int IntKind.u32 0, Value.int IntKind.u32 0, Value.int IntKind.u32 0] = jD zs := by rw [hzs, rG]; rfl
  clear hzs
  replace W := Hy W
  replace K := Hy K
  replace hka := Hy hka
  replace hzl := Hy hzl
  replace hh := Hy hh
  replace hwl := Hy hwl
  replace hkl := Hy hkl
  go_wp2_with fail
  have hb0 : Below w.heap.size w ((w.alloc (.cells (jD hin) 232)).alloc (.cells (jD zs) 232)) := ((Below.refl _ _).alloc LR _).alloc zS _
  have ha1 : Ar ((w.alloc (.cells (jD hin) 232)).alloc (.cells (jD zs) 232)) w.heap.size 232 hin := heap_alloc2_old _ _ _
  have ha2 : Ar ((w.alloc (.cells (jD hin) 232)).alloc (.cells (jD zs) 232)) (w.heap.size + 1) 232 zs := heap_alloc2_new _ _ _
  clear hz
  generalize (w.alloc (.cells (jD hin) 232)).alloc (.cells (jD zs) 232) = w0 at *
  refine (W.out w0 (hr.b hb0)).mono ?_
  rintro e w1 ⟨rfl, hb1⟩
  replace ha1 := ha1.b hb1
  replace ha2 := ha2.b hb1
  have q5 := Hy ha2.lt
  replace hb1 := hb0.trans (hb1.mono hb0.size)
  clear hb0
  go_wp2_with (first
    | (refine cP (hb1.alloc (hb1.size) _) (heap_alloc_new _ _) hb1.size rfl _ _ _ rfl rfl ws rfl 64 hwl.out KR rfl ?_
       intro w2 a5 b2 k2 z2
       replace ha1 := (ha1.alloc _).same (k2 _ (Nat.ne_of_lt ha1.lt))
       replace ha2 := (ha2.alloc _).same (k2 _ (Nat.ne_of_lt ha2.lt))
       rw [mX] at z2
       replace z2 := Hy z2
       clear k2)
    | fail)
  refine (K.out w2).mono ?_
  rintro e w3 ⟨rfl, b3⟩
  replace ha1 := ha1.b b3
  replace ha2 := ha2.b b3
  replace a5 := a5.b b3
  have q3 := Hy b3.size
  replace b3 := b2.trans (b3.mono b2.size)
  clear b2
  go_wp2_with (first
    | (refine cP (b3.alloc (b3.size) _) (heap_alloc_new _ _) b3.size rfl _ _ _ rfl rfl ks rfl 64 hkl.out KR rfl ?_
       intro w4 ak b4 k4 z4
       replace ha1 := (ha1.alloc _).same (k4 _ (Nat.ne_of_lt ha1.lt))
       replace ha2 := (ha2.alloc _).same (k4 _ (Nat.ne_of_lt ha2.lt))
       replace a5 := (a5.alloc _).same (k4 _ (Nat.ne_of_lt a5.lt))
       rw [mX] at z4
       replace z4 := Hy z4
       clear k4)
    | refine kZ ha1 rfl _ _ rfl rfl _ 8 hh.out Te rfl KR ?_
    | (refine cP (b4.alloc (b4.size) _) (heap_alloc_new _ _) b4.size rfl _ _ _ rfl rfl hin rfl 8 hh.out KR rfl ?_
       intro w5 a6 b5 k5 z5
       replace ha1 := (ha1.alloc _).same (k5 _ (Nat.ne_of_lt ha1.lt))
       replace ha2 := (ha2.alloc _).same (k5 _ (Nat.ne_of_lt ha2.lt))
       replace a5 := (a5.alloc _).same (k5 _ (Nat.ne_of_lt a5.lt))
       replace ak := (ak.alloc _).same (k5 _ (Nat.ne_of_lt ak.lt))
       rw [mX] at z5
       replace z5 := Hy z5
       clear k5))
  have B0 : Hr w w5 w1.heap.size w3.heap.size w4.heap.size hin zs ws ks hin := by
    have := q5.out; have := z2.out; have := q3.out; have := z4.out
    exact ⟨b5, ha1, ha2, a5, ak, a6, by omega, by omega, by omega, by omega, by omega⟩
  clear b3 b4 b5 ha1 ha2 a5 ak a6 W K hr hb1 q5 z2 q3 z4 z5
  generalize w1.heap.size = g5 at B0
  generalize w3.heap.size = gk at B0
  generalize w4.heap.size = g6 at B0 ⊢
  go_loopw [8] (fun i wr => ∃ k : Nat, k ≤ 64 ∧ i = .int .i64 k ∧ Hr w wr g5 gk g6 hin zs ws ks (iG ws hin k)) (fun i _ => 64 - (intOf i).toNat)
  case atStart => exact ⟨0, by omega, rfl, B0⟩
  case round =>
    clear B0
    obtain ⟨k, hk, rfl, B⟩ := hrel
    by_cases hk64 : k < 64
    · have hvl := iH ws hin hh.out k
      obtain ⟨v, hv⟩ := Nm (iG ws hin k)
      rw [← hv] at B hvl
      replace hv := Hy hv
      obtain ⟨v0, v1, v2, v3, v4, v5, v6, v7, rfl⟩ := uQ hvl
      clear hvl
      obtain ⟨x, hx⟩ := Nm (ws.getD k 0)
      obtain ⟨y, hy⟩ := Nm (IA k)
      have cw := B.a5.cell k (by rw [hwl.out]; exact hk64)
      have ck := B.ak.cell k (by rw [hkl.out]; exact hk64)
      rw [← hx] at cw
      rw [hka.out k hk64, ← hy] at ck
      replace hx := Hy hx
      replace hy := Hy hy
      have hk0 : 0 ≤ (k : Int) := by omega
      have hk1 : (k : Int) < 64 := by omega
      have T6 := sE v4 6 6 rfl DC DC
      have T11 := sE v4 11 11 rfl DC DC
      have T25 := sE v4 25 25 rfl DC DC
      have T2 := sE v0 2 2 rfl DC DC
      have T13 := sE v0 13 13 rfl DC DC
      have T22 := sE v0 22 22 rfl DC DC
      have c4 : wr.cell? _ = some (wc v4) := B.a6.cell 4 zS
      have c5 : wr.cell? _ = some (wc v5) := B.a6.cell 5 zS
      have c6 : wr.cell? _ = some (wc v6) := B.a6.cell 6 zS
      have c7 : wr.cell? _ = some (wc v7) := B.a6.cell 7 zS
      go_wp2
      refine wp_region_still_lit KR KR ?_
      repeat still_step
      still_call (T6 _)
      repeat still_step
      still_call (T11 _)
      repeat still_step
      still_call (T25 _)
      repeat still_step
      refine wpStill_nil ?_
      change Exit.then _ _ _ _ wr.drew
      clear c4 c5 c6 c7 cw ck
      replace B := B.drew
      generalize wr.drew = wb at B ⊢
      have c0 : wb.cell? _ = some (wc v0) := B.a6.cell 0 zS
      have c1 : wb.cell? _ = some (wc v1) := B.a6.cell 1 zS
      have c2 : wb.cell? _ = some (wc v2) := B.a6.cell 2 zS
      go_wp2
      refine wp_region_still_lit KR KR ?_
      repeat still_step
      still_call (T2 _)
      repeat still_step
      still_call (T13 _)
      repeat still_step
      still_call (T22 _)
      repeat still_step
      refine wpStill_nil ?_
      change Exit.then _ _ _ _ wb.drew
      clear c0 c1 c2
      replace B := B.drew
      generalize wb.drew = wd at B ⊢
      have c0 : wd.cell? _ = some (wc v0) := B.a6.cell 0 zS
      have c1 : wd.cell? _ = some (wc v1) := B.a6.cell 1 zS
      have c2 : wd.cell? _ = some (wc v2) := B.a6.cell 2 zS
      have c3 : wd.cell? _ = some (wc v3) := B.a6.cell 3 zS
      have c4 : wd.cell? _ = some (wc v4) := B.a6.cell 4 zS
      have c5 : wd.cell? _ = some (wc v5) := B.a6.cell 5 zS
      have c6 : wd.cell? _ = some (wc v6) := B.a6.cell 6 zS
      have c7 : wd.cell? _ = some (wc v7) := B.a6.cell 7 zS
      go_wp2_with (refine cP B.b B.a6 B.le rfl _ _ _ rfl rfl (Br y x [v0, v1, v2, v3, v4, v5, v6, v7]) rfl 8 rfl KR rfl ?_; intro w6 a6 b6 k6 z6)
      refine ⟨⟨k + 1, by omega, by go_num, ⟨b6, B.a1.same (k6 _ B.n1), B.a2.same (k6 _ B.n2), B.a5.same (k6 _ B.n5), B.ak.same (k6 _ B.nk), ?_, B.n1, B.n2, B.n5, B.nk, B.le⟩⟩, ?_⟩
      · rw [iG, ← hv.out, ← hx.out, ← hy.out]; exact a6
      · simp [intOf]; omega
    · obtain rfl : k = 64 := by omega
      clear hk64 hk
      have hvl := iH ws hin hh.out 64
      obtain ⟨v, hv⟩ := Nm (iG ws hin 64)
      rw [← hv] at B hvl
      replace hv := Hy hv
      replace hvl := Hy hvl
      obtain ⟨wo, rfl⟩ := Nm (wr)
      go_wp2
      go_loopw [11] (fun i wr => ∃ k : Nat, k ≤ 8 ∧ i = .int .i64 k ∧ Hr w wr g5 gk g6 hin zs ws ks (sQ hin v k)) (fun i _ => 8 - (intOf i).toNat)
      case atStart => exact ⟨0, by omega, rfl, B⟩
      case round =>
        clear B
        obtain ⟨k, hk, rfl, B⟩ := hrel
        by_cases hk8 : k < 8
        · have hk0 : 0 ≤ (k : Int) := by omega
          have hk1 : (k : Int) < 8 := by omega
          have hce := B.a6.cell k (by rw [lG, hvl.out]; exact hk8)
          have hc1 := B.a1.cell k (by rw [hh.out]; exact hk8)
          have hfz : wr.frozen? ⟨g6, k, none⟩ = false := frozen_of_row _ _ _ _ _ B.a6
          obtain ⟨x, hx⟩ := Nm ((sQ hin v k).getD k 0)
          obtain ⟨y, hy⟩ := Nm (hin.getD k 0)
          rw [← hx] at hce
          rw [← hy] at hc1
          replace hx := Hy hx
          replace hy := Hy hy
          go_wp2
          go_still_tail 9, (by kernel_rfl)
          change wpList _ _ _ _ _ (World.drew _)
          go_wp2
          refine ⟨?_, ?measure⟩
          iterate 14 (apply Exists.intro)
          refine ⟨?rel, rfl⟩
          case rel =>
            have b6 := (B.b.setCell (p := ⟨g6, k, none⟩) B.le (wc (x + y))).drew
            refine ⟨k + 1, by omega, by go_num, ⟨b6, (B.a1.other _ _ B.n1).drew, (B.a2.other _ _ B.n2).drew, (B.a5.other _ _ B.n5).drew, (B.ak.other _ _ B.nk).drew, ?_, B.n1, B.n2, B.n5, B.nk, B.le⟩⟩
            rw [sQ, ← hx.out, ← hy.out]
            exact (B.a6.set k (x + y)).drew
          case measure => simp [intOf]; omega
        · obtain rfl : k = 8 := by omega
          clear hk8 hk
          have hvl2 : (sQ hin v 8).length = 8 := by rw [lG, hvl.out]
          obtain ⟨v2, hv2⟩ := Nm (sQ hin v 8)
          rw [← hv2] at B hvl2
          replace hv2 : Hid (v2 = jL hin bs) := Hy (by rw [hv2, hv.out, hws.out]; rfl)
          go_wp2_with (first
            | refine kZ B.a6 rfl _ _ rfl rfl _ 8 hvl2 Te rfl KR ?_
            | (refine cP B.b B.a2 OM rfl _ _ _ rfl rfl v2 rfl 8 hvl2 KR (by rw [eI, hzl.out]) ?_
               intro w6 a2 b6 k6 z6))
          exact bodyPost_ret (v := .agg (jD v2)) (results_cell_row rfl _ _ (w.heap.size + 1) _ _ (0, 0) _ rfl a2 Te rfl (by rw [eI, hvl2]; kernel_rfl)) rfl ⟨by rw [← hv2.out], b6⟩
end Go.Proofs.YtobjgebojhjhnaaGreatDoor
